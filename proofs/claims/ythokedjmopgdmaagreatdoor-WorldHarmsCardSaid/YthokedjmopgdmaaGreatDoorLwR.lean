/- A part of the proof that WorldHarms answers true at every input: a part of the walk of the law WorldHarms. -/
import Derived.Test.YthokedjmopgdmaaGreatDoorLwQ
set_option linter.all false
namespace Go.Proofs.YthokedjmopgdmaaGreatDoor
theorem and_t {a b : Bool} (h : a = true) (h' : b = true) : (a && b) = true := by rw [h, h']; rfl
theorem closed : joinedFacts Tryz.prog 3 Tryz.f3 Rows.worldHarmsSpec Rows.worldHarmsRow = true := by
  unfold joinedFacts
  exact (and_t (and_t (and_t (and_t (and_t (and_t (and_t (and_t (and_t (and_t (and_t (and_t (and_t (and_t (and_t (and_t (and_t (and_t (and_t (and_t (and_t (and_t (and_t (and_t (and_t (and_t (and_t (and_t (and_t (and_t (and_t fact0 fact1) fact2) fact3) fact4) fact5) fact6) fact7) fact8) fact9) fact10) fact11) fact12) fact13) fact14) fact15) fact16) fact17) fact18) fact19) fact20) fact21) fact22) fact23) fact24) fact25) fact26) fact27) (by kernel_rfl)) fact29) fact30) fact31)
end Go.Proofs.YthokedjmopgdmaaGreatDoor
