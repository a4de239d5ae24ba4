/- A part of the proof that WorldHarms answers true at every input: a part of the evaluation of the anchor. -/
import Derived.Test.YthokedjmopgdmaaGreatDoorA29M418
set_option linter.all false
set_option maxRecDepth 100000
namespace Go.AM.Seat
open Go.Proofs
noncomputable def ms2_10 : List Memo := [m418]
theorem ms2_10_ok : ∀ m ∈ ms2_10, MOk T2 10 m := by
  intro m h
  simp only [ms2_10, List.mem_cons, List.not_mem_nil, or_false] at h
  subst h
  · exact MOk.of (callA_ok T2_good RR NN) m418_ok
noncomputable def mt2 : Tr (List Memo) := (@Tr.node (List Memo) (@Tr.nil (List Memo)) (@none (List Memo)) (@Tr.node (List Memo) (@Tr.nil (List Memo)) (@none (List Memo)) (@Tr.node (List Memo) (@Tr.node (List Memo) (@Tr.nil (List Memo)) (@some (List Memo) ms2_10) (@Tr.nil (List Memo))) (@none (List Memo)) (@Tr.nil (List Memo)))))
noncomputable def mp2 : List (Nat × List Memo) := [(10, ms2_10)]
theorem mt2_eq : mt2 = Tr.ofPairs mp2 := by kernel_rfl
theorem mp2_ok : AllF (fun f l => ∀ m ∈ l, MOk T2 f m) mp2 := ⟨ms2_10_ok, trivial⟩
noncomputable def T3 : Tab := T2.memo (callA T2 RR NN) mt2
theorem T3_good : T3.Good := T2_good.memo (callA_ok T2_good RR NN) fun _ _ h => AllF.get (α := List Memo) mp2_ok mt2_eq h
end Go.AM.Seat
