/- The known case of layer 24. -/
import Derived.Test.YtfkckokaclkjnaaIlSG
import Derived.Test.YtfkckokaclkjnaaIlTG
import Derived.Test.YtfkckokaclkjnaaBlks
namespace Go.Proofs.Ytfkckokaclkjnaa
open Go.RowKit

end Go.Proofs.Ytfkckokaclkjnaa
