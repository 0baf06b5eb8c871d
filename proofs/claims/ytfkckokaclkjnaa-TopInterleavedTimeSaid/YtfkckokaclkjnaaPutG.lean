import Derived.Test.YtfkckokaclkjnaaBase
namespace Go.Proofs.Ytfkckokaclkjnaa
open Go.RowKit

theorem infoByte : (Try.prog.info? 5).map (fun i => (i.zero, i.size, i.bytes)) = some (some (.int .u8 0), 1, 1) := by kernel_rfl

end Go.Proofs.Ytfkckokaclkjnaa
