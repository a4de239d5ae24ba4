/- A part of the proof that WorldHarms answers true at every input: a part of the evaluation of the anchor. -/
import Derived.Test.YthokedjmopgdmaaGreatDoorA29M133
import Derived.Test.YthokedjmopgdmaaGreatDoorA29M339
import Derived.Test.YthokedjmopgdmaaGreatDoorA29M421
import Derived.Test.YthokedjmopgdmaaGreatDoorA29M498
import Derived.Test.YthokedjmopgdmaaGreatDoorA29M578
import Derived.Test.YthokedjmopgdmaaGreatDoorA29M827
import Derived.Test.YthokedjmopgdmaaGreatDoorA29M953
import Derived.Test.YthokedjmopgdmaaGreatDoorA29M1240
set_option linter.all false
set_option maxRecDepth 100000
namespace Go.AM.Seat
open Go.Proofs
noncomputable def ms0_36 : List Memo := [m133, m339]
theorem ms0_36_ok : ∀ m ∈ ms0_36, MOk T0 36 m := by
  intro m h
  simp only [ms0_36, List.mem_cons, List.not_mem_nil, or_false] at h
  rcases h with rfl | rfl
  · exact MOk.of (callA_ok T0_good RR NN) m133_ok
  · exact MOk.of (callA_ok T0_good RR NN) m339_ok
noncomputable def ms0_78 : List Memo := [m421, m498, m827, m1240]
theorem ms0_78_ok : ∀ m ∈ ms0_78, MOk T0 78 m := by
  intro m h
  simp only [ms0_78, List.mem_cons, List.not_mem_nil, or_false] at h
  rcases h with rfl | rfl | rfl | rfl
  · exact MOk.of (callA_ok T0_good RR NN) m421_ok
  · exact MOk.of (callA_ok T0_good RR NN) m498_ok
  · exact MOk.of (callA_ok T0_good RR NN) m827_ok
  · exact MOk.of (callA_ok T0_good RR NN) m1240_ok
noncomputable def ms0_82 : List Memo := [m578]
theorem ms0_82_ok : ∀ m ∈ ms0_82, MOk T0 82 m := by
  intro m h
  simp only [ms0_82, List.mem_cons, List.not_mem_nil, or_false] at h
  subst h
  · exact MOk.of (callA_ok T0_good RR NN) m578_ok
noncomputable def ms0_66 : List Memo := [m953]
theorem ms0_66_ok : ∀ m ∈ ms0_66, MOk T0 66 m := by
  intro m h
  simp only [ms0_66, List.mem_cons, List.not_mem_nil, or_false] at h
  subst h
  · exact MOk.of (callA_ok T0_good RR NN) m953_ok
noncomputable def mt0 : Tr (List Memo) := (@Tr.node (List Memo) (@Tr.nil (List Memo)) (@none (List Memo)) (@Tr.node (List Memo) (@Tr.node (List Memo) (@Tr.nil (List Memo)) (@none (List Memo)) (@Tr.node (List Memo) (@Tr.node (List Memo) (@Tr.node (List Memo) (@Tr.nil (List Memo)) (@some (List Memo) ms0_36) (@Tr.nil (List Memo))) (@none (List Memo)) (@Tr.nil (List Memo))) (@none (List Memo)) (@Tr.nil (List Memo)))) (@none (List Memo)) (@Tr.node (List Memo) (@Tr.node (List Memo) (@Tr.node (List Memo) (@Tr.node (List Memo) (@Tr.node (List Memo) (@Tr.nil (List Memo)) (@some (List Memo) ms0_66) (@Tr.nil (List Memo))) (@none (List Memo)) (@Tr.nil (List Memo))) (@none (List Memo)) (@Tr.node (List Memo) (@Tr.node (List Memo) (@Tr.nil (List Memo)) (@some (List Memo) ms0_82) (@Tr.nil (List Memo))) (@none (List Memo)) (@Tr.nil (List Memo)))) (@none (List Memo)) (@Tr.nil (List Memo))) (@none (List Memo)) (@Tr.node (List Memo) (@Tr.nil (List Memo)) (@none (List Memo)) (@Tr.node (List Memo) (@Tr.node (List Memo) (@Tr.node (List Memo) (@Tr.nil (List Memo)) (@some (List Memo) ms0_78) (@Tr.nil (List Memo))) (@none (List Memo)) (@Tr.nil (List Memo))) (@none (List Memo)) (@Tr.nil (List Memo)))))))
noncomputable def mp0 : List (Nat × List Memo) := [(36, ms0_36), (78, ms0_78), (82, ms0_82), (66, ms0_66)]
theorem mt0_eq : mt0 = Tr.ofPairs mp0 := by kernel_rfl
theorem mp0_ok : AllF (fun f l => ∀ m ∈ l, MOk T0 f m) mp0 := ⟨ms0_36_ok, ms0_78_ok, ms0_82_ok, ms0_66_ok, trivial⟩
noncomputable def T1 : Tab := T0.memo (callA T0 RR NN) mt0
theorem T1_good : T1.Good := T0_good.memo (callA_ok T0_good RR NN) fun _ _ h => AllF.get (α := List Memo) mp0_ok mt0_eq h
end Go.AM.Seat
