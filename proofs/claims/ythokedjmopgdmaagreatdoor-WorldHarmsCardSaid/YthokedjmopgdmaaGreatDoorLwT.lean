/- WorldHarms answers true at every input and leaves each argument as it was: the tied card of the row is proved, without premises of its own. -/
import Derived.Test.YthokedjmopgdmaaGreatDoorLwP
import Derived.SevenTiedAt
set_option linter.all false
/- WorldHarms: the tied card. -/
namespace Go.Proofs.YthokedjmopgdmaaGreatDoor
open Go
set_option maxRecDepth 100000
theorem goes3 : false = Rows.worldHarmsRow.goesBy Tryz.prog := by kernel_rfl
theorem looks3 : false = Tryz.prog.looks [] := by kernel_rfl
theorem named3 : Tryz.prog.funcNamed "copyist/copyistlaw29.WorldHarms" = some 3 := by kernel_rfl
theorem want3 : ([22, 25].all fun u => !Tryz.prog.wantsStandIn u) = true := by kernel_rfl
theorem main3 : Tryz.prog.mainIs = some ((true, "c833539d9fe9396a2bc2fcc434163f66f43a263fd04a188928aa37611e0b6fe7").1, (true, "c833539d9fe9396a2bc2fcc434163f66f43a263fd04a188928aa37611e0b6fe7").2.toList) := by kernel_rfl
theorem wfText3 : Rows.worldHarmsRow.wfByText (OpenSpec.ofChange Rows.worldHarmsSpec) = true := by kernel_rfl
/-- The tied card. -/
theorem worldHarms_card : Rows.WorldHarmsCardSaid :=
  Claim7.holds_tied_plain_at .later [] [.data] true (true, "c833539d9fe9396a2bc2fcc434163f66f43a263fd04a188928aa37611e0b6fe7") false
    worldHarms_holds (fun _ h => by cases h) wfText3 (fun _ h => by cases h) worldHarms_row_tie rfl ⟨rfl, rfl⟩ main3 rfl
    (fun f fn hf hfn => by
      obtain rfl : f = 3 := Option.some.inj (named3.symm.trans hf) |>.symm
      obtain rfl : fn = Tryz.f3 := (Option.some.inj (Tryz.func3.symm.trans hfn)).symm
      exact ⟨looks3, fun j t ht => by
        rw [Tryz.params3] at ht
        have hm : t ∈ [22, 25] := by simpa using Array.mem_of_getElem? ht
        have hall := want3
        exact (show Tryz.prog.wantsStandIn t = false by simpa using List.all_eq_true.1 hall t hm)⟩)
    goes3
end Go.Proofs.YthokedjmopgdmaaGreatDoor
