import Derived.Test.YtiemnacoebkalaaGreatTaV01
import Derived.Test.YtiemnacoebkalaaGreatTaV02
set_option linter.all false
set_option maxRecDepth 100000
set_option maxHeartbeats 4000000
namespace Go.Proofs.YtiemnacoebkalaaGreat
open Go.RowKit
theorem FldL.nil (w : World) : FldL w none 0 0 [] := ⟨[], Rd.nil _ _ _ (by decide) _, rfl, fun i f h => by simp at h⟩
end Go.Proofs.YtiemnacoebkalaaGreat
