/- A part of the proof that WorldHarms answers true at every input: a part of the evaluation of the anchor. -/
import Derived.Test.YthokedjmopgdmaaGreatDoorA29L3
set_option linter.all false
set_option maxRecDepth 100000
namespace Go.AM.Seat
open Go.Proofs
noncomputable def m0 : Memo := ⟨[], ⟨2, (nD nL (sO (AObj.cells [(Value.int IntKind.u16 (Int.ofNat 0)), (Value.int IntKind.u32 (Int.ofNat 0))] 108 ⟨false, true⟩)) nL)⟩, (Value.bool true), ⟨1306, (nD nL (sO (AObj.cells [(Value.int IntKind.u16 (Int.ofNat 0)), (Value.int IntKind.u32 (Int.ofNat 0))] 108 ⟨false, true⟩)) nL)⟩⟩
theorem m0_ok : memoOk (callA T3 RR NN) 4 m0 = true := by kernel_rfl
end Go.AM.Seat
