/- Sums of spans, what is known in the beginning, Wake: of both. -/
import Derived.Test.YtfkckokaclkjnaaSpnG
namespace Go.Proofs.Ytfkckokaclkjnaa
open Go.RowKit

end Go.Proofs.Ytfkckokaclkjnaa
