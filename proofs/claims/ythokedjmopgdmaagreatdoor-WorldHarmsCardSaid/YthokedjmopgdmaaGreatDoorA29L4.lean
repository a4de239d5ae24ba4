/- A part of the proof that WorldHarms answers true at every input: a part of the evaluation of the anchor. -/
import Derived.Test.YthokedjmopgdmaaGreatDoorA29M0
set_option linter.all false
set_option maxRecDepth 100000
namespace Go.AM.Seat
open Go.Proofs
noncomputable def ms3_4 : List Memo := [m0]
theorem ms3_4_ok : ∀ m ∈ ms3_4, MOk T3 4 m := by
  intro m h
  simp only [ms3_4, List.mem_cons, List.not_mem_nil, or_false] at h
  subst h
  · exact MOk.of (callA_ok T3_good RR NN) m0_ok
noncomputable def mt3 : Tr (List Memo) := (@Tr.node (List Memo) (@Tr.nil (List Memo)) (@none (List Memo)) (@Tr.node (List Memo) (@Tr.node (List Memo) (@Tr.nil (List Memo)) (@some (List Memo) ms3_4) (@Tr.nil (List Memo))) (@none (List Memo)) (@Tr.nil (List Memo))))
noncomputable def mp3 : List (Nat × List Memo) := [(4, ms3_4)]
theorem mt3_eq : mt3 = Tr.ofPairs mp3 := by kernel_rfl
theorem mp3_ok : AllF (fun f l => ∀ m ∈ l, MOk T3 f m) mp3 := ⟨ms3_4_ok, trivial⟩
noncomputable def T4 : Tab := T3.memo (callA T3 RR NN) mt3
theorem T4_good : T4.Good := T3_good.memo (callA_ok T3_good RR NN) fun _ _ h => AllF.get (α := List Memo) mp3_ok mt3_eq h
end Go.AM.Seat
