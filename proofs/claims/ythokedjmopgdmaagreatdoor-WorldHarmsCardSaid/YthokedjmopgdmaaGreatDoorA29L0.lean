/- A part of the proof that WorldHarms answers true at every input: a part of the evaluation of the anchor. -/
import Derived.Test.YthokedjmopgdmaaGreatDoorA29R
set_option linter.all false
set_option maxRecDepth 100000
namespace Go.AM.Seat
open Go.Proofs

theorem msS_ok : ∀ m ∈ msS, MOk T00 137 m := by
  intro m h
  simp only [msS, List.mem_cons, List.not_mem_nil, or_false] at h
  subst h
  exact mS1232_ok

noncomputable def mtS : Tr (List Memo) := Tr.ofPairs [(137, msS)]
noncomputable def T0 : Tab := T00.memo (callA T00 RR NN) mtS
theorem T0_good : T0.Good := T00_good.memo (callA_ok T00_good RR NN) fun _ _ h => AllF.get (α := List Memo) (l := [(137, msS)]) (p := fun f l => ∀ m ∈ l, MOk T00 f m) ⟨msS_ok, trivial⟩ rfl h
end Go.AM.Seat
