/- A part of the proof that WorldHarms answers true at every input: a part of the evaluation of the anchor. -/
import Derived.Test.YthokedjmopgdmaaGreatDoorA29M9
import Derived.Test.YthokedjmopgdmaaGreatDoorA29M215
import Derived.Test.YthokedjmopgdmaaGreatDoorA29M909
set_option linter.all false
set_option maxRecDepth 100000
namespace Go.AM.Seat
open Go.Proofs
noncomputable def ms1_17 : List Memo := [m9, m215]
theorem ms1_17_ok : ∀ m ∈ ms1_17, MOk T1 17 m := by
  intro m h
  simp only [ms1_17, List.mem_cons, List.not_mem_nil, or_false] at h
  rcases h with rfl | rfl
  · exact MOk.of (callA_ok T1_good RR NN) m9_ok
  · exact MOk.of (callA_ok T1_good RR NN) m215_ok
noncomputable def ms1_82 : List Memo := [m909]
theorem ms1_82_ok : ∀ m ∈ ms1_82, MOk T1 82 m := by
  intro m h
  simp only [ms1_82, List.mem_cons, List.not_mem_nil, or_false] at h
  subst h
  · exact MOk.of (callA_ok T1_good RR NN) m909_ok
noncomputable def mt1 : Tr (List Memo) := (@Tr.node (List Memo) (@Tr.node (List Memo) (@Tr.nil (List Memo)) (@none (List Memo)) (@Tr.node (List Memo) (@Tr.node (List Memo) (@Tr.node (List Memo) (@Tr.nil (List Memo)) (@some (List Memo) ms1_17) (@Tr.nil (List Memo))) (@none (List Memo)) (@Tr.nil (List Memo))) (@none (List Memo)) (@Tr.nil (List Memo)))) (@none (List Memo)) (@Tr.node (List Memo) (@Tr.nil (List Memo)) (@none (List Memo)) (@Tr.node (List Memo) (@Tr.node (List Memo) (@Tr.node (List Memo) (@Tr.nil (List Memo)) (@none (List Memo)) (@Tr.node (List Memo) (@Tr.node (List Memo) (@Tr.nil (List Memo)) (@some (List Memo) ms1_82) (@Tr.nil (List Memo))) (@none (List Memo)) (@Tr.nil (List Memo)))) (@none (List Memo)) (@Tr.nil (List Memo))) (@none (List Memo)) (@Tr.nil (List Memo)))))
noncomputable def mp1 : List (Nat × List Memo) := [(17, ms1_17), (82, ms1_82)]
theorem mt1_eq : mt1 = Tr.ofPairs mp1 := by kernel_rfl
theorem mp1_ok : AllF (fun f l => ∀ m ∈ l, MOk T1 f m) mp1 := ⟨ms1_17_ok, ms1_82_ok, trivial⟩
noncomputable def T2 : Tab := T1.memo (callA T1 RR NN) mt1
theorem T2_good : T2.Good := T1_good.memo (callA_ok T1_good RR NN) fun _ _ h => AllF.get (α := List Memo) mp1_ok mt1_eq h
end Go.AM.Seat
