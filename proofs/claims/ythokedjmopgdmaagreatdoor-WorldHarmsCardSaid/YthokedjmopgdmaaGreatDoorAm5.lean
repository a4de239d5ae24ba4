/- A part of the proof that WorldHarms answers true at every input: the abstract machine: runs, evaluation without fuel, open frames. -/
import Derived.Test.YthokedjmopgdmaaGreatDoorAm4
import Derived.Scope
import Derived.Lib.Overlaps
set_option linter.all false
section
/- The abstract machine, part P: the theorem on regions whose order is open. -/
namespace Go.AM
variable {T : Tab}
section
variable {K : Kall} {ops : Array Oper} {pl : Plan} {E : Nat → Env} {Hh : Nat → AHeap}
variable {γ0 : Gam} {H0 : AHeap} {w0 : World} {d : List Deferred} {L : Array Bool} {a : Act} {w : World} {γ : Gam} {HL : AHeap} {s : Nat}

theorem listed_set {L : Array Bool} {i k : Nat} (hi : i < L.size) : (L.setIfInBounds i true).getD k true = true ↔ (k = i ∨ L.getD k true = true) := by
  by_cases e : i = k
  · subst e; simp [hi]
  · have e2 : (L.setIfInBounds i true).getD k true = L.getD k true := by simp [Array.getElem?_setIfInBounds_ne e]
    rw [e2]
    constructor
    · intro h; exact .inr h
    · rintro (h | h)
      · exact absurd h.symm e
      · exact h

theorem HR.next {I : TypeId → Option TypeInfo} {G : Nat} {γ : Gam} {H : AHeap} {w : World} (h : HR I G γ H w) (n : Nat) : HR I G γ { H with next := n } w := ⟨h.live, h.inj, h.glob⟩

/-- All new blocks from s on, up to an operation, are there. -/
theorem Inv.upto (R : Run T K ops pl E Hh) (V : Inv T ops pl E Hh γ0 H0 w0 d L a w γ HL s) {j : Nat} (hsj : s ≤ j) (hj : j ≤ ops.size) (hno : ∀ k o, s ≤ k → k < j → ops[k]? = some o → cls T o ≠ 2)
    (hl : ∀ k o, s ≤ k → k < j → ops[k]? = some o → cls T o = 1 → L.getD k true = true) : Sub' (Hh j) HL := by
  intro b x hb
  rcases R.between hsj hj hno b x hb with h | ⟨k, o, y, q1, q2, q3, q4, q5, q6, q7⟩
  · exact V.base b x h
  · rw [q6, q7]
    exact V.news k o y q3 q4 (hl k o q1 q2 q3 q4) q1 q5

theorem Inv.stepOk (hT : T.Ok) (hC : T.Calls) (hK : KOk T K) (R : Run T K ops pl E Hh) (hok : ∀ (i : Nat) (o : Oper), ops[i]? = some o → operOk T.G o = true) (h0 : (Hh 0).next = H0.next) {Q : Exit → Act → World → Prop}
    (V : Inv T ops pl E Hh γ0 H0 w0 d L a w γ HL s) {i : Nat} {o : Oper} (ho : ops[i]? = some o) (hn : L.getD i true = false) (hbf : ∀ j ∈ pl.at i, L.getD j true = true) :
    wpOp T.P ops Q i (fun a' w' => ∃ γ' HX s', Inv T ops pl E Hh γ0 H0 w0 d (L.setIfInBounds i true) a' w' γ' HX s') a w := by
  have hi := lt_of_some ho
  have hLs : i < L.size := by rw [V.size]; exact hi
  have hop := V.operands R ho hn hbf (hok i o ho)
  have hwt := V.wanted R ho hn hbf
  have hst := R.step i hi
  have hfree := V.free i hi hn
  -- no name of the step's own is there
  have hno : ∀ b x, HL.get b = some x → (Hh i).next ≤ b → b < (Hh (i + 1)).next → False := by
    intro b x hb h1 h2
    obtain ⟨A, g1, _⟩ := V.stp.hr.live b x hb
    rw [hfree b h1 h2] at g1; cases g1
  have hcl : cls T o = 0 ∨ cls T o = 1 ∨ cls T o = 2 := by
    have : cls T o ≤ 2 := cls_le T o
    omega
  -- the heap with the step's own first name
  let H1 : AHeap := { HL with next := (Hh i).next }
  have hr1 : HRT T γ H1 w := V.stp.hr.next _
  have heffs : cls T o ≠ 2 → ∀ k p, ops[k]? = some p → cls T p = 2 → ((L.setIfInBounds i true).getD k true = true ↔ k < s) := by
    intro hne k p hp hc
    rw [listed_set hLs]
    constructor
    · rintro (h | h)
      · subst h; rw [hp] at ho; cases ho; exact absurd hc hne
      · exact (V.effs k p hp hc).1 h
    · intro h; exact .inr ((V.effs k p hp hc).2 h)
  rcases hcl with hc | hc | hc
  · -- a value
    have hstep : stepA T K ops i (E i) H1 = some (E (i + 1), H1) ∧ Hh (i + 1) = Hh i := by
      unfold stepA at hst ⊢
      rw [ho] at hst ⊢
      simp only at hst ⊢
      cases hw : Region.wanted o (yielded ops (E i)) with
      | false =>
        rw [hw] at hst
        simp only [cond_false, Option.some.injEq, Prod.mk.injEq] at hst ⊢
        exact ⟨⟨hst.1, trivial⟩, hst.2.symm⟩
      | true =>
        rw [hw] at hst
        simp only [cond_true] at hst ⊢
        cases hq : opA T (Hh i) (evA (E i)) o with
        | none => rw [hq] at hst; cases hst
        | some r =>
          obtain ⟨an, Hq⟩ := r
          obtain ⟨e1, v, e2, e3⟩ := opA_cls0 hc hq
          rw [hq, e2] at hst
          simp only [Option.some.injEq, Prod.mk.injEq] at hst
          have hq1 : opA T H1 (evA (E i)) o = some (.val v, H1) := by
            unfold opA
            rcases e3 with e3 | ⟨e3, e4⟩
            · rw [e3]
            · rw [e3]
              have hrd : readA T HL (evA (E i)) o = some v := by
                have hmr := readA_not e4
                rcases R.read ho hc hmr V.start with hx | hx | hx
                · exfalso
                  unfold excluded at hx
                  obtain ⟨e, he, hx⟩ := List.any_eq_true.1 hx
                  simp only [Bool.and_eq_true, Bool.or_eq_true] at hx
                  obtain ⟨hx1, hx2⟩ := hx
                  unfold isCls at hx1
                  cases hoe : ops[e]? with
                  | none => rw [hoe] at hx1; cases hx1
                  | some p =>
                    rw [hoe] at hx1
                    have hcp : cls T p = 2 := by simpa using hx1
                    rcases hx2 with ⟨k1, k2⟩ | ⟨k1, k2⟩
                    · have k1 := Nat.le_of_ble_eq_true k1
                      have := (V.effs e p hoe hcp).1 (hbf e (by simpa using k2))
                      omega
                    · have k1 : e < s := by simpa using k1
                      have hLe := (V.effs e p hoe hcp).2 k1
                      have := V.closed e (lt_of_some hoe) hLe i (by simpa using k2)
                      rw [this] at hn; cases hn
                · unfold covered at hx
                  simp only [Bool.and_eq_true] at hx
                  have hsi := Nat.le_of_ble_eq_true hx.1
                  have hall := List.all_eq_true.1 hx.2
                  have key : ∀ k p, s ≤ k → k < i → ops[k]? = some p → cls T p ≠ 2 ∧ (cls T p = 1 → k ∈ pl.at i) := by
                    intro k p h1 h2 hp
                    have := hall k (by simpa using lt_of_some hp)
                    have g1 : Nat.ble s k = true := Nat.ble_eq_true_of_le h1
                    have g2 : Nat.blt k i = true := by simpa using h2
                    rw [g1, g2] at this
                    simp only [Bool.and_self, cond_true, isCls, hp, Bool.and_eq_true] at this
                    refine ⟨fun e => ?_, fun e => ?_⟩
                    · rw [e] at this; simp at this
                    · have t2 := this.2
                      rw [e] at t2
                      simpa using t2
                  refine readA_mono (V.upto R hsi (by omega) (fun k p h1 h2 hp => (key k p h1 h2 hp).1) (fun k p h1 h2 hp hcp => hbf k ((key k p h1 h2 hp).2 hcp))) e4
                · obtain ⟨u, k1, k2⟩ := R.pairs i s o hx ho hw e3
                  rw [e4] at k2; cases k2
                  exact readA_mono V.base k1
              have hrd1 : readA T H1 (evA (E i)) o = some v := readA_mono (fun b x h => h) hrd
              simp only [hrd1]
          rw [hq1]
          exact ⟨by simp only [hst.1], by rw [← hst.2, e1]⟩
    obtain ⟨hs1, hs2⟩ := hstep
    refine wpOp_mono ?_ (stepA_gen hT hC hK hs1 ho hr1 (fun b h1 h2 => by omega) hop hwt)
    rintro a' w' ⟨γ', v, v', g1, rfl, g3, g4⟩
    obtain ⟨HX, hX⟩ := V.next' R hK h0 ho hn hbf (H1 := H1) (Hn := H1) (fun b x h => h) rfl (by rw [hs2]) g1 g3 g4 (s' := s) V.start (heffs (by omega)) (Nat.le_refl _)
      (fun b x h => .inl (V.base b x h)) (fun y h => by omega) (fun j p y _ _ _ _ _ _ h => .inr h)
    exact ⟨γ', HX, s, hX⟩
  · -- a new block
    have hstep : (stepA T K ops i (E i) H1 = some (E (i + 1), H1) ∧ Hh (i + 1) = Hh i) ∨ ∃ y, stepA T K ops i (E i) H1 = some (E (i + 1), H1.new y) ∧ Hh (i + 1) = (Hh i).new y := by
      unfold stepA at hst ⊢
      rw [ho] at hst ⊢
      simp only at hst ⊢
      cases hw : Region.wanted o (yielded ops (E i)) with
      | false =>
        rw [hw] at hst
        simp only [cond_false, Option.some.injEq, Prod.mk.injEq] at hst ⊢
        exact .inl ⟨⟨hst.1, trivial⟩, hst.2.symm⟩
      | true =>
        rw [hw] at hst
        simp only [cond_true] at hst ⊢
        cases hq : opA T (Hh i) (evA (E i)) o with
        | none => rw [hq] at hst; cases hst
        | some r =>
          obtain ⟨an, Hq⟩ := r
          rcases opA_cls1 hc hq with ⟨v, e2, e1, e3⟩ | ⟨v, y, e2, e1, _, e3⟩
          · rw [hq, e2] at hst
            simp only [Option.some.injEq, Prod.mk.injEq] at hst
            have hq1 : opA T H1 (evA (E i)) o = some (.val v, H1) := by unfold opA; rw [e3]
            rw [hq1]
            exact .inl ⟨by simp only [hst.1], by rw [← hst.2, e1]⟩
          · rw [hq, e2] at hst
            simp only [Option.some.injEq, Prod.mk.injEq] at hst
            rw [e3 H1 rfl]
            exact .inr ⟨y, by simp only [hst.1], by rw [← hst.2, e1]⟩
    rcases hstep with ⟨hs1, hs2⟩ | ⟨y, hs1, hs2⟩
    · refine wpOp_mono ?_ (stepA_gen hT hC hK hs1 ho hr1 (fun b h1 h2 => by omega) hop hwt)
      rintro a' w' ⟨γ', v, v', g1, rfl, g3, g4⟩
      obtain ⟨HX, hX⟩ := V.next' R hK h0 ho hn hbf (H1 := H1) (Hn := H1) (fun b x h => h) rfl (by rw [hs2]) g1 g3 g4 (s' := s) V.start (heffs (by omega)) (Nat.le_refl _)
        (fun b x h => .inl (V.base b x h)) (fun y _ _ e => by
          rw [hs2] at e
          have : (Hh i).next = ((Hh i).new y).next := by rw [← e]
          rw [AHeap.next_new] at this; omega) (fun j p y _ _ _ _ _ _ h => .inr h)
      exact ⟨γ', HX, s, hX⟩
    · have hnn : (Hh (i + 1)).next = (Hh i).next + 1 := by rw [hs2, AHeap.next_new]
      refine wpOp_mono ?_ (stepA_gen hT hC hK hs1 ho hr1 (fun b h1 h2 => hfree b h1 (by rw [hnn]; exact h2)) hop hwt)
      rintro a' w' ⟨γ', v, v', g1, rfl, g3, g4⟩
      have hget : ∀ b x, HL.get b = some x → (H1.new y).get b = some x := by
        intro b x hb
        rw [AHeap.get_new]
        split
        · rename_i e
          have e : b = (Hh i).next := e
          exact (hno b x hb (by omega) (by omega)).elim
        · exact hb
      obtain ⟨HX, hX⟩ := V.next' R hK h0 ho hn hbf (H1 := H1) (Hn := H1.new y) (fun b x h => h) rfl (by rw [hnn]; rfl) g1 g3 g4 (s' := s) V.start (heffs (by omega)) (Nat.le_refl _)
        (fun b x h => .inl (hget b x (V.base b x h))) (fun y' _ _ e => by
          rw [hs2] at e
          have : ((Hh i).new y).get (Hh i).next = ((Hh i).new y').get (Hh i).next := by rw [e]
          rw [AHeap.get_new, AHeap.get_new, if_pos rfl, if_pos rfl] at this
          rw [AHeap.get_new, if_pos rfl]; exact this) (fun j p y' _ _ _ _ _ _ h => .inr (hget _ _ h))
      exact ⟨γ', HX, s, hX⟩
  · -- an effect
    have hsi : s ≤ i := by
      rcases Nat.lt_or_ge i s with h | h
      · rw [(V.effs i o ho hc).2 h] at hn; cases hn
      · exact h
    have hsub : Sub' (Hh i) HL := V.upto R hsi (by omega)
      (fun k p h1 h2 hp e => by
        have := hbf k ((R.two ho hp).2.2.1 hc h2 (.inl e))
        have := (V.effs k p hp e).1 this
        omega)
      (fun k p h1 h2 hp e => hbf k ((R.two ho hp).2.2.1 hc h2 (.inr e)))
    refine wpOp_mono ?_ (stepA_gen hT hC hK hst ho (V.stp.hr.drop hsub) hfree hop hwt)
    rintro a' w' ⟨γ', v, v', g1, rfl, g3, g4⟩
    obtain ⟨HX, hX⟩ := V.next' R hK h0 ho hn hbf (H1 := Hh i) (Hn := Hh (i + 1)) hsub rfl rfl g1 g3 g4 (s' := i + 1) (start_of ho hc)
      (fun k p hp hcp => by
        rw [listed_set hLs]
        constructor
        · rintro (h | h)
          · omega
          · rcases Nat.lt_or_ge i k with hik | hik
            · have := V.closed k (lt_of_some hp) h i ((R.two hp ho).2.2.1 hcp hik (.inl hc))
              rw [this] at hn; cases hn
            · omega
        · intro h
          by_cases e : k = i
          · exact .inl e
          · exact .inr (hbf k ((R.two ho hp).2.2.1 hc (by omega) (.inl hcp))))
      (by omega) (fun b x h => .inl h) (fun y h => by omega)
      (fun j p y hji hp hcp _ hj _ _ => .inl (R.news i j ((R.two ho hp).2.2.2 hc (by omega) hcp)))
    exact ⟨γ', HX, i + 1, hX⟩

theorem ready_bf (R : Run T K ops pl E Hh) (hcl : ∀ i, i < ops.size → L.getD i true = true → ∀ j ∈ pl.at i, L.getD j true = true) (hsz : L.size = ops.size) {i : Nat} (hi : i ∈ Region.ready .any ops L) :
    ∃ o, ops[i]? = some o ∧ L.getD i true = false ∧ ∀ j ∈ pl.at i, L.getD j true = true := by
  unfold Region.ready at hi
  obtain ⟨h1, h2⟩ := List.mem_filter.1 hi
  simp only [Bool.and_eq_true] at h2
  have hlt : i < ops.size := by simpa using h1
  obtain ⟨o, ho⟩ := some_of_lt hlt
  rw [ho] at h2
  simp only [Option.map_some, Option.getD_some] at h2
  refine ⟨o, ho, by simpa using h2.1, fun j hj => ?_⟩
  obtain ⟨hji, e, he, hb, hor⟩ := (R.edges ho).2.1 j hj
  have hei := (R.edges ho).1 e he hb
  have hLe : L.getD e.on true = true := by
    have := Array.all_eq_true'.1 h2.2 e he
    rw [hb] at this
    have q : L.getD e.on false = true := by simpa using this
    have : e.on < L.size := by rw [hsz]; omega
    simp [this] at q ⊢
    exact q
  rcases hor with h | h
  · rw [← h]; exact hLe
  · exact hcl e.on (by omega) hLe j h

theorem all_listed (R : Run T K ops pl E Hh) (hsz : L.size = ops.size) (hr : Region.ready .any ops L = []) : ∀ i, i < ops.size → L.getD i true = true := by
  intro i
  induction i using Nat.strongRecOn with
  | _ i ih =>
    intro hi
    cases hL : L.getD i true with
    | true => rfl
    | false =>
      exfalso
      have : i ∈ Region.ready .any ops L := by
        unfold Region.ready
        refine List.mem_filter.2 ⟨by simpa using hi, ?_⟩
        obtain ⟨o, ho⟩ := some_of_lt hi
        rw [ho, hL]
        simp only [Option.map_some, Option.getD_some, Bool.not_false, Bool.true_and]
        refine Array.all_eq_true'.2 fun e he => ?_
        cases hb : Region.binds .any e with
        | false => simp
        | true =>
        have hei := (R.edges ho).1 e he hb
        have := ih e.on hei (by omega)
        have hlt : e.on < L.size := by rw [hsz]; omega
        simp [hlt] at this
        simp [hlt, this]
      rw [hr] at this; cases this

/-- How much isn't listed. -/
def left (L : Array Bool) : Nat := L.toList.countP (fun b => !b)

theorem left_set {L : Array Bool} {i : Nat} (hi : i < L.size) (hn : L.getD i true = false) : left (L.setIfInBounds i true) < left L := by
  have hi' : i < L.toList.length := by simpa using hi
  have hv : L.toList[i] = false := by simpa [hi] using hn
  have h1 : left (L.setIfInBounds i true) = (L.toList.set i true).countP (fun b => !b) := by unfold left; rw [Array.toList_setIfInBounds]
  rw [h1]
  have := List.countP_set (p := fun b : Bool => !b) (a := true) hi'
  rw [this, hv]
  unfold left
  have : 0 < L.toList.countP (fun b => !b) := by
    rw [List.countP_pos_iff]
    exact ⟨L.toList[i], List.getElem_mem hi', by rw [hv]; rfl⟩
  simp only [Bool.not_false, Bool.not_true, if_true, Bool.false_eq_true, if_false]; omega

theorem Inv.final (R : Run T K ops pl E Hh) (V : Inv T ops pl E Hh γ0 H0 w0 d L a w γ HL s) (hall : ∀ i, i < ops.size → L.getD i true = true) : Then T γ0 H0 w0 d (E ops.size) (Hh ops.size) a w := by
  have hsub : Sub' (Hh ops.size) HL := V.upto R (start_le V.start) (Nat.le_refl _)
    (fun k p h1 h2 hp e => by have := (V.effs k p hp e).1 (hall k h2); omega) (fun k p _ h2 _ _ => hall k h2)
  refine ⟨V.defers, γ, ?_, V.stp.trans (Step.drop V.stp.hr V.next.symm hsub)⟩
  have hsz : (E ops.size).size = (E 0).size := R.size (Nat.le_refl _)
  refine ⟨by rw [hsz, V.tsize], fun t h1 h2 => ?_⟩
  have key : VR γ ((E ops.size).getD t undef) (a.tmps.getD t undef) := by
    by_cases hw : ∃ (j : Nat) (p : Oper), ops[j]? = some p ∧ p.dst = some t
    · obtain ⟨j, p, hp, hd⟩ := hw
      exact V.done j p t hp hd (hall j (lt_of_some hp))
    · rw [R.keep (Nat.zero_le _) (Nat.le_refl _) (fun k q _ _ hq e => hw ⟨k, q, hq, e⟩)]
      exact V.todo t fun k q hk hq => absurd ⟨k, q, hk, hq⟩ hw
  simpa [h1, h2] using key

theorem any_ok (hT : T.Ok) (hC : T.Calls) (hK : KOk T K) (R : Run T K ops pl E Hh) (hok : ∀ (i : Nat) (o : Oper), ops[i]? = some o → operOk T.G o = true) (h0 : (Hh 0).next = H0.next) {Q : Exit → Act → World → Prop}
    (hq : ∀ a' w', Then T γ0 H0 w0 d (E ops.size) (Hh ops.size) a' w' → Q .normal a' w') :
    ∀ (fuel : Nat) (L : Array Bool) (a : Act) (w : World), left L ≤ fuel → (∃ γ HL s, Inv T ops pl E Hh γ0 H0 w0 d L a w γ HL s) → wpAny T.P .any ops Q fuel L a w := by
  intro fuel
  induction fuel with
  | zero =>
    rintro L a w hle ⟨γ, HL, s, V⟩
    have hno : ∀ i, i < ops.size → L.getD i true = true := by
      intro i hi
      cases hL : L.getD i true with
      | true => rfl
      | false => have := left_set (L := L) (i := i) (by rw [V.size]; exact hi) hL; omega
    refine ⟨?_, hq a w (V.final R hno)⟩
    cases hr : Region.ready .any ops L with
    | nil => rfl
    | cons i r =>
      obtain ⟨o, ho, h1, _⟩ := ready_bf R V.closed V.size (i := i) (by rw [hr]; simp)
      rw [hno i (lt_of_some ho)] at h1; cases h1
  | succ fuel ih =>
    rintro L a w hle ⟨γ, HL, s, V⟩
    refine ⟨fun hr => hq a w (V.final R (all_listed R V.size hr)), fun i hi => ?_⟩
    obtain ⟨o, ho, h1, h2⟩ := ready_bf R V.closed V.size hi
    refine wpOp_mono ?_ (V.stepOk hT hC hK R hok h0 ho h1 h2)
    rintro a' w' hV
    refine ih _ a' w' ?_ hV
    have := left_set (L := L) (i := i) (by rw [V.size]; exact lt_of_some ho) h1
    omega
end

theorem drawA_ok (hT : T.Ok) (hC : T.Calls) {K : Kall} (hK : KOk T K) {Q : Exit → Act → World → Prop} {ops : Array Oper} {pl : Plan} (hp : planOk T ops pl = true) (hok : ∀ (i : Nat) (o : Oper), ops[i]? = some o → operOk T.G o = true) {env env' : Env} {H H' : AHeap}
    (h : drawA T K pl ops env H = some (env', H')) {γ : Gam} {a : Act} {w : World} (hr : HRT T γ H w) (hf : Free γ H.next H'.next) (he : VA γ env a.tmps) (hq : ∀ a' w', Then T γ H w a.defers env' H' a' w' → Q .normal a' w') :
    wpAny T.P .any ops Q ops.size (Array.replicate ops.size false) a w := by
  unfold drawA at h
  cases htr : traceA T K ops (List.range ops.size) env H with
  | none => rw [htr] at h; cases h
  | some tr =>
    rw [htr] at h
    simp only at h
    cases hchk : (pl.pairs.all (chkPair T ops tr) && pl.news.all (chkNew tr)) with
    | false => rw [hchk] at h; cases h
    | true =>
      rw [hchk] at h
      simp only [cond_true] at h
      simp only [Bool.and_eq_true] at hchk
      obtain ⟨l1, l2, l3⟩ := traceA_spec _ htr
      simp only [List.length_range] at l1
      let E : Nat → Env := fun i => (tr.getD i (env, H)).1
      let Hh : Nat → AHeap := fun i => (tr.getD i (env, H)).2
      have hget : ∀ (i : Nat) (p : Env × AHeap), tr[i]? = some p → E i = p.1 ∧ Hh i = p.2 := by
        intro i p hp
        simp only [E, Hh, List.getD, hp]
        exact ⟨rfl, rfl⟩
      have R : Run T K ops pl E Hh := {
        step := fun i hi => by
          obtain ⟨p, q, q1, q2, q3⟩ := l3 i i (by simp [hi])
          rw [(hget i p q1).1, (hget i p q1).2, (hget (i + 1) q q2).1, (hget (i + 1) q q2).2]
          exact q3
        plan := hp
        pairs := fun r s o hm ho hw hv => by
          have := List.all_eq_true.1 hchk.1 (r, s) hm
          unfold chkPair at this
          simp only [ho] at this
          split at this
          · rename_i o' env1 H1 e2 Hs g1 g2 g3
            cases g1
            obtain ⟨q1, q2⟩ := hget _ _ g2
            obtain ⟨q3, q4⟩ := hget _ _ g3
            rw [q1] at hw hv ⊢
            rw [q2, q4]
            simp only at hw hv ⊢
            rw [hw] at this
            simp only [cond_true, hv] at this
            split at this
            · rename_i v u k1 k2
              have := veq_eq 4 v u this
              subst this
              exact ⟨v, k1, k2⟩
            · cases this
          · cases this
        news := fun i j hm => by
          have := List.all_eq_true.1 hchk.2 (i, j) hm
          unfold chkNew at this
          split at this
          · rename_i e1 H1 e2 H2 g1 g2
            obtain ⟨q1, q2⟩ := hget _ _ g1
            obtain ⟨q3, q4⟩ := hget _ _ g2
            rw [q2, q4]
            split at this
            · assumption
            · cases this
          · cases this }
      have hE0 : E 0 = env ∧ Hh 0 = H := hget 0 _ l2
      have hEn : E ops.size = env' ∧ Hh ops.size = H' := by
        have : tr[ops.size]? = some (env', H') := by
          rw [List.getLast?_eq_getElem?, l1] at h
          simpa using h
        exact hget _ _ this
      have hmono : ∀ i j, i ≤ j → j ≤ ops.size → (Hh i).next ≤ (Hh j).next := fun i j h1 h2 => R.mono hK h1 h2
      have hle : H.next ≤ H'.next := by rw [← hE0.2, ← hEn.2]; exact hmono 0 _ (Nat.zero_le _) (Nat.le_refl _)
      refine any_ok hT hC hK R hok (γ0 := γ) (H0 := H) (w0 := w) (d := a.defers) (by rw [hE0.2]) (by rw [hEn.1, hEn.2]; exact hq) ops.size _ a w ?_ ⟨γ, { H with next := H'.next }, 0, ?_⟩
      · unfold left
        have := List.countP_le_length (p := fun b : Bool => !b) (l := (Array.replicate ops.size false).toList)
        simpa using this
      · exact {
          size := by simp
          closed := fun i hi hL => by simp [hi] at hL
          defers := rfl
          next := by rw [hEn.2]
          stp := {
            le := hle
            agree := fun _ _ => rfl
            sub := .refl γ
            hr := hr.next _
            frame := fun _ _ _ => rfl
            fresh := fun b o A h1 h2 => .inr ⟨b, o, A, h1, h2, rfl, id⟩
            size := Nat.le_refl _
            os := rfl
            output := rfl
            tape := rfl }
          effs := fun i o ho _ => by simp [lt_of_some ho]
          start := by unfold starts; simp
          base := fun b x hb => by rw [hE0.2] at hb; exact hb
          news := fun i o y ho _ hL => by simp [lt_of_some ho] at hL
          free := fun i hi _ b h1 h2 => hf b (by have := hmono 0 i (Nat.zero_le _) (by omega); rw [hE0.2] at this; omega) (by have := hmono (i + 1) ops.size (by omega) (Nat.le_refl _); rw [hEn.2] at this; omega)
          tsize := by rw [hE0.1]; exact he.1.symm
          done := fun i o t ho _ hL => by simp [lt_of_some ho] at hL
          todo := fun t _ => by rw [hE0.1]; exact he.getD t }
end Go.AM
end

section
/- The abstract machine, part Q: the code of a function. -/
namespace Go.AM
variable {T : Tab}

inductive AX where
  | normal
  | exit (id : Nat)
  | goto (l : Nat)
  | ret

def AX.up : AX → Exit
  | .normal => .normal
  | .exit i => .exit i
  | .goto l => .goto l
  | .ret => .ret

inductive Md where
  | plain
  | scope (c : Code)
  | loop (c : Code)

def Md.items : Md → List Item
  | .plain => []
  | .scope c => [.inScope c]
  | .loop c => [.inLoop c]

def tagN : Option (Env × AHeap) → Option (AX × Env × AHeap)
  | some p => some (.normal, p)
  | none => none

def codeA (T : Tab) (K : Kall) (f : FuncId) : Nat → Md → Code → Env → AHeap → Option (AX × Env × AHeap)
  | 0, _, _, _, _ => none
  | n + 1, .scope body, c, e, H => match codeA T K f n .plain c e H with
    | some (.goto l, e1, H1) => match findLabel body l with
      | some rest => codeA T K f n (.scope body) rest e1 H1
      | none => some (.goto l, e1, H1)
    | r => r
  | n + 1, .loop body, c, e, H => match codeA T K f n .plain c e H with
    | some (.normal, e1, H1) => codeA T K f n (.loop body) body e1 H1
    | r => r
  | n + 1, .plain, c, e, H => match c with
    | .skip => some (.normal, e, H)
    | .label _ => some (.normal, e, H)
    | .region id ops d => match d with
      | false => tagN (seqA T K ops (List.range ops.size) e H)
      | true => match T.plan f id with
        | some pl => tagN (drawA T K pl ops e H)
        | none => none
    | .seq x y => match codeA T K f n .plain x e H with
      | some (.normal, e1, H1) => codeA T K f n .plain y e1 H1
      | r => r
    | .cond v x y => match evA e v with
      | .bool true => codeA T K f n .plain x e H
      | .bool false => codeA T K f n .plain y e H
      | _ => none
    | .block id x => match codeA T K f n .plain x e H with
      | some (.exit i, e1, H1) => cond (Nat.beq i id) (some (.normal, e1, H1)) (some (.exit i, e1, H1))
      | r => r
    | .loop x => codeA T K f n (.loop x) x e H
    | .scope x => codeA T K f n (.scope x) x e H
    | .exit id => some (.exit id, e, H)
    | .goto l => some (.goto l, e, H)
    | .ret => some (.ret, e, H)
    | .rangeFunc _ _ _ _ => none
    | .refuse _ => none

def codeOk (T : Tab) (f : FuncId) : Code → Bool
  | .region id ops d => ops.toList.all (operOk T.G) && cond d (match T.plan f id with
      | some pl => planOk T ops pl
      | none => true) true
  | .seq x y => codeOk T f x && codeOk T f y
  | .cond v x y => operandOk T.G v && (codeOk T f x && codeOk T f y)
  | .block _ x => codeOk T f x
  | .loop x => codeOk T f x
  | .scope x => codeOk T f x
  | _ => true

theorem findLabel_ok {f : FuncId} {l : Nat} : ∀ {c rest : Code}, codeOk T f c = true → findLabel c l = some rest → codeOk T f rest = true := by
  intro c
  induction c with
  | seq a b iha ihb =>
    intro rest h hf
    simp only [codeOk, Bool.and_eq_true] at h
    simp only [findLabel] at hf
    cases ha : findLabel a l with
    | none => rw [ha] at hf; exact ihb h.2 hf
    | some r =>
      rw [ha] at hf; cases hf
      simp only [codeOk, Bool.and_eq_true]
      exact ⟨iha h.1 ha, h.2⟩
  | label l' =>
    intro rest h hf
    simp only [findLabel] at hf
    split at hf
    · cases hf; rfl
    · cases hf
  | _ => intro rest h hf; simp [findLabel] at hf

def Wp (P : Program) (m : Md) (c : Code) (Q : Exit → Act → World → Prop) (a : Act) (w : World) : Prop :=
  ∀ (b : Frame) (k : List Item) (cs : List Frame), ∃ e a' w', Q e a' w' ∧ Arrives P (lone (b.at a (.code c :: (m.items ++ k))) cs w) b k cs e a' w'

theorem ops_ok {ops : Array Oper} {G : Nat} (h : ops.toList.all (operOk G) = true) (i : Nat) (o : Oper) (ho : ops[i]? = some o) : operOk G o = true :=
  List.all_eq_true.1 h o (by rw [Array.getElem?_eq_some_iff] at ho; obtain ⟨hi, rfl⟩ := ho; exact Array.mem_toList_iff.2 (Array.getElem_mem hi))

theorem traceA_next {K : Kall} (hK : KOk T K) {ops : Array Oper} : ∀ (l : List Nat) {env : Env} {H : AHeap} {tr : List (Env × AHeap)} {p : Env × AHeap},
    traceA T K ops l env H = some tr → tr.getLast? = some p → H.next ≤ p.2.next := by
  intro l
  induction l with
  | nil => intro env H tr p h hp; simp [traceA] at h; subst h; cases hp; exact Nat.le_refl _
  | cons i r ih =>
    intro env H tr p h hp
    simp only [traceA] at h
    split at h
    · rename_i e1 H1 h1
      split at h
      · rename_i l' hl
        cases h
        have hne : l' ≠ [] := by
          intro e
          have := (traceA_spec r hl).1
          rw [e] at this; simp at this
        rw [List.getLast?_cons_of_ne_nil hne] at hp
        exact Nat.le_trans (stepA_next hK h1) (ih hl hp)
      · cases h
    · cases h

theorem drawA_next {K : Kall} (hK : KOk T K) {pl : Plan} {ops : Array Oper} {env env' : Env} {H H' : AHeap} (h : drawA T K pl ops env H = some (env', H')) : H.next ≤ H'.next := by
  unfold drawA at h
  split at h
  · rename_i tr htr
    cases hc : (pl.pairs.all (chkPair T ops tr) && pl.news.all (chkNew tr)) with
    | false => rw [hc] at h; cases h
    | true => rw [hc] at h; exact traceA_next hK _ htr h
  · cases h

theorem codeA_next {K : Kall} (hK : KOk T K) {f : FuncId} : ∀ (n : Nat) {m : Md} {c : Code} {e e' : Env} {H H' : AHeap} {x : AX}, codeA T K f n m c e H = some (x, e', H') → H.next ≤ H'.next := by
  intro n
  induction n with
  | zero => intro m c e e' H H' x h; simp [codeA] at h
  | succ n ih =>
    intro m c e e' H H' x h
    cases m with
    | scope body =>
      simp only [codeA] at h
      split at h
      · rename_i l e1 H1 h1
        split at h
        · exact Nat.le_trans (ih h1) (ih h)
        · cases h; exact ih h1
      · exact ih h
    | loop body =>
      simp only [codeA] at h
      split at h
      · rename_i e1 H1 h1
        exact Nat.le_trans (ih h1) (ih h)
      · exact ih h
    | plain =>
      simp only [codeA] at h
      split at h
      · cases h; exact Nat.le_refl _
      · cases h; exact Nat.le_refl _
      · split at h
        · unfold tagN at h
          split at h
          · rename_i p hp
            cases h
            exact seqA_next hK _ hp
          · cases h
        · split at h
          · unfold tagN at h
            split at h
            · rename_i p hp
              cases h
              exact drawA_next hK hp
            · cases h
          · cases h
      · split at h
        · rename_i e1 H1 h1
          exact Nat.le_trans (ih h1) (ih h)
        · exact ih h
      · split at h
        · exact ih h
        · exact ih h
        · cases h
      · split at h
        · rename_i i e1 H1 h1
          rename_i id _ _
          cases hb : Nat.beq i id with
          | false => rw [hb] at h; cases h; exact ih h1
          | true => rw [hb] at h; cases h; exact ih h1
        · exact ih h
      · exact ih h
      · exact ih h
      · cases h; exact Nat.le_refl _
      · cases h; exact Nat.le_refl _
      · cases h; exact Nat.le_refl _
      · cases h
      · cases h

theorem Free.left' {γ : Gam} {a b c : Nat} (h : Free γ a c) (hb : b ≤ c) : Free γ a b := fun x h1 h2 => h x h1 (by omega)
theorem Free.right' {γ γ' : Gam} {H H1 : AHeap} {w w1 : World} {c : Nat} (h : Free γ H.next c) (s : StepT T γ H w γ' H1 w1) : Free γ' H1.next c := fun x h1 h2 => by
  rw [s.agree x (.inr h1)]; exact h x (by have := s.le; omega) h2

theorem Then.trans {γ γ1 : Gam} {H H1 H2 : AHeap} {w w1 w2 : World} {d d1 : List Deferred} {e : Env} {a : Act} (hd : d1 = d) (h : StepT T γ H w γ1 H1 w1) (h' : Then T γ1 H1 w1 d1 e H2 a w2) : Then T γ H w d e H2 a w2 :=
  let ⟨h1, γ2, h2, h3⟩ := h'
  ⟨by rw [h1, hd], γ2, h2, h.trans h3⟩

theorem bool_of {γ : Gam} {b : Bool} {v : Value} (h : VR γ (.bool b) v) : v = .bool b := by cases h; rfl

/-- A run of the abstract code is a run of the code. -/
theorem codeA_ok (hT : T.Ok) (hC : T.Calls) {K : Kall} (hK : KOk T K) {f : FuncId} : ∀ (n : Nat) {m : Md} {c : Code} {e e' : Env} {H H' : AHeap} {x : AX},
    codeA T K f n m c e H = some (x, e', H') → codeOk T f c = true → (match m with | .plain => true | .scope b => codeOk T f b | .loop b => codeOk T f b) = true →
    ∀ {γ : Gam} {a : Act} {w : World}, HRT T γ H w → Free γ H.next H'.next → VA γ e a.tmps →
    ∀ {Q : Exit → Act → World → Prop}, (∀ a' w', Then T γ H w a.defers e' H' a' w' → Q x.up a' w') → Wp T.P m c Q a w := by
  intro n
  induction n with
  | zero => intro m c e e' H H' x h; simp [codeA] at h
  | succ n ih =>
    intro m c e e' H H' x h hok hmd γ a w hr hf he Q hq
    cases m with
    | scope body =>
      simp only [codeA] at h
      split at h
      · rename_i l e1 H1 h1
        have hn1 := codeA_next hK n h1
        intro b k cs
        cases hl : findLabel body l with
        | none =>
          rw [hl] at h; cases h
          obtain ⟨ex, a', w', ⟨rfl, ht⟩, harr⟩ := ih h1 hok rfl hr hf he (Q := fun ex a' w' => ex = Exit.goto l ∧ Then T γ H w a.defers e' H' a' w') (fun a' w' ht => ⟨rfl, ht⟩) b (.inScope body :: k) cs
          refine ⟨.goto l, a', w', hq a' w' ht, fun k' hk => harr k' ?_⟩
          simp [gotoIn, hl, hk]
        | some rest =>
          rw [hl] at h
          have hn2 := codeA_next hK n h
          obtain ⟨ex, a', w', ⟨rfl, ht⟩, harr⟩ := ih h1 hok rfl hr (hf.left' hn2) he (Q := fun ex a' w' => ex = Exit.goto l ∧ Then T γ H w a.defers e1 H1 a' w') (fun a' w' ht => ⟨rfl, ht⟩) b (.inScope body :: k) cs
          obtain ⟨hd, γ1, hv1, hs1⟩ := ht
          obtain ⟨ex2, a2, w2, hq2, harr2⟩ := ih h (findLabel_ok hmd hl) hmd hs1.hr (hf.right' hs1) hv1 (Q := Q) (fun a2 w2 ht2 => hq a2 w2 (ht2.trans hd hs1)) b k cs
          refine ⟨ex2, a2, w2, hq2, .of_steps (harr _ ?_) harr2⟩
          simp [gotoIn, hl, Md.items]
      · rename_i hng
        intro b k cs
        obtain ⟨ex, a', w', ⟨rfl, ht⟩, harr⟩ := ih h hok rfl hr hf he (Q := fun ex a' w' => ex = x.up ∧ Then T γ H w a.defers e' H' a' w') (fun a' w' ht => ⟨rfl, ht⟩) b (.inScope body :: k) cs
        refine ⟨x.up, a', w', hq a' w' ht, ?_⟩
        cases x with
        | normal => exact Steps.trans harr (.one step_inScope)
        | exit id => exact fun k' hk => harr k' (by simp [exitTo, hk])
        | goto l => exact absurd h (hng l e' H')
        | ret => exact harr
    | loop body =>
      simp only [codeA] at h
      split at h
      · rename_i e1 H1 h1
        have hn1 := codeA_next hK n h1
        have hn2 := codeA_next hK n h
        intro b k cs
        obtain ⟨ex, a', w', ⟨rfl, ht⟩, harr⟩ := ih h1 hok rfl hr (hf.left' hn2) he (Q := fun ex a' w' => ex = Exit.normal ∧ Then T γ H w a.defers e1 H1 a' w') (fun a' w' ht => ⟨rfl, ht⟩) b (.inLoop body :: k) cs
        obtain ⟨hd, γ1, hv1, hs1⟩ := ht
        obtain ⟨ex2, a2, w2, hq2, harr2⟩ := ih h hmd hmd hs1.hr (hf.right' hs1) hv1 (Q := Q) (fun a2 w2 ht2 => hq a2 w2 (ht2.trans hd hs1)) b k cs
        exact ⟨ex2, a2, w2, hq2, .of_steps (Steps.trans harr (.one step_inLoop)) harr2⟩
      · rename_i hng
        intro b k cs
        obtain ⟨ex, a', w', ⟨rfl, ht⟩, harr⟩ := ih h hok rfl hr hf he (Q := fun ex a' w' => ex = x.up ∧ Then T γ H w a.defers e' H' a' w') (fun a' w' ht => ⟨rfl, ht⟩) b (.inLoop body :: k) cs
        refine ⟨x.up, a', w', hq a' w' ht, ?_⟩
        cases x with
        | normal => exact absurd h (hng e' H')
        | exit id => exact fun k' hk => harr k' (by simp [exitTo, hk])
        | goto l => exact fun k' hk => harr k' (by simp [gotoIn, hk])
        | ret => exact harr
    | plain =>
      have lift : c.wp T.P Q a w → Wp T.P .plain c Q a w := fun h => h
      have drop : ∀ {c' : Code} {Q' : Exit → Act → World → Prop} {a' : Act} {w' : World}, Wp T.P .plain c' Q' a' w' → c'.wp T.P Q' a' w' := fun h => h
      apply lift
      have here : e = e' → H = H' → Then T γ H w a.defers e' H' a w := fun h1 h2 => by subst h1 h2; exact ⟨rfl, γ, he, Step.refl hr⟩
      cases c with
      | skip => simp only [codeA] at h; cases h; exact wp_skip (hq a w (here rfl rfl))
      | label l => simp only [codeA] at h; cases h; exact wp_label (hq a w (here rfl rfl))
      | region id ops d =>
        simp only [codeOk, Bool.and_eq_true] at hok
        have hops := ops_ok hok.1
        cases d with
        | false =>
          simp only [codeA, tagN] at h
          split at h
          · rename_i p hp
            cases h
            exact wp_region (seqA_ok hT hC hK hops _ hp hr hf he hq)
          · cases h
        | true =>
          simp only [codeA, tagN] at h
          cases hpl : T.plan f id with
          | none => rw [hpl] at h; cases h
          | some pl =>
            rw [hpl] at h
            simp only at h
            have hp2 : planOk T ops pl = true := by simpa [hpl] using hok.2
            split at h
            · rename_i p hp
              cases h
              refine wp_region_any hT.mixed (drawA_ok hT hC hK hp2 hops hp (hr.drew _) hf he ?_)
              intro a' w' ht
              exact hq a' w' (Then.trans rfl (Step.drew hr _) ht)
            · cases h
      | seq y z =>
        simp only [codeOk, Bool.and_eq_true] at hok
        simp only [codeA] at h
        apply wp_seq
        split at h
        · rename_i e1 H1 h1
          have hn2 := codeA_next hK n h
          refine drop (ih h1 hok.1 rfl hr (hf.left' hn2) he fun a1 w1 ht => ?_)
          obtain ⟨hd, γ1, hv1, hs1⟩ := ht
          exact drop (ih h hok.2 rfl hs1.hr (hf.right' hs1) hv1 fun a2 w2 ht2 => hq a2 w2 (ht2.trans hd hs1))
        · rename_i hng
          refine drop (ih h hok.1 rfl hr hf he fun a1 w1 ht => ?_)
          cases x with
          | normal => exact absurd h (hng e' H')
          | _ => exact hq a1 w1 ht
      | cond v y z =>
        simp only [codeOk, Bool.and_eq_true] at hok
        simp only [codeA] at h
        have hev : VR γ (evA e v) (a.eval v) := by rw [eval_env]; exact ev_ok hr he hok.1
        split at h
        · rename_i hb
          rw [hb] at hev
          refine wp_cond_true (bool_of hev) (drop (ih h hok.2.1 rfl hr hf he hq))
        · rename_i hb
          rw [hb] at hev
          refine wp_cond_false (bool_of hev) (drop (ih h hok.2.2 rfl hr hf he hq))
        · cases h
      | block id y =>
        simp only [codeOk] at hok
        simp only [codeA] at h
        apply wp_block
        split at h
        · rename_i i e1 H1 h1
          cases hb : Nat.beq i id with
          | false =>
            rw [hb] at h; cases h
            have hne : i ≠ id := fun e => by subst e; simp at hb
            refine drop (ih h1 hok rfl hr hf he fun a1 w1 ht => ?_)
            simp only [AX.up, Exit.inBlock, hne, if_false]
            exact hq a1 w1 ht
          | true =>
            rw [hb] at h; cases h
            have heq : i = id := Nat.eq_of_beq_eq_true hb
            refine drop (ih h1 hok rfl hr hf he fun a1 w1 ht => ?_)
            simp only [AX.up, Exit.inBlock, heq, if_true]
            exact hq a1 w1 ht
        · rename_i hng
          refine drop (ih h hok rfl hr hf he fun a1 w1 ht => ?_)
          cases x with
          | exit i => exact absurd h (hng i e' H')
          | _ => exact hq a1 w1 ht
      | loop y =>
        simp only [codeOk] at hok
        simp only [codeA] at h
        intro b k cs
        obtain ⟨ex, a', w', hq', harr⟩ := ih h hok hok hr hf he hq b k cs
        exact ⟨ex, a', w', hq', .of_steps (.one step_loop) harr⟩
      | scope y =>
        simp only [codeOk] at hok
        simp only [codeA] at h
        intro b k cs
        obtain ⟨ex, a', w', hq', harr⟩ := ih h hok hok hr hf he hq b k cs
        exact ⟨ex, a', w', hq', .of_steps (.one step_scope) harr⟩
      | exit id => simp only [codeA] at h; cases h; exact wp_exit (hq a w (here rfl rfl))
      | goto l => simp only [codeA] at h; cases h; exact wp_goto (hq a w (here rfl rfl))
      | ret => simp only [codeA] at h; cases h; exact wp_ret (hq a w (here rfl rfl))
      | rangeFunc _ _ _ _ => simp [codeA] at h
      | refuse _ => simp [codeA] at h
end Go.AM
end

section
/- The abstract machine, part R: calls. -/
namespace Go.AM
variable {T : Tab}

def resA (T : Tab) (H : AHeap) (e : Env) : List ResultVar → Option (List Value)
  | [] => some []
  | .tmp t :: r => match resA T H e r with
    | some l => some (e.getD t undef :: l)
    | none => none
  | .cell a t :: r => match loadV T H t (e.getD a undef) with
    | some v => match resA T H e r with
      | some l => some (v :: l)
      | none => none
    | none => none

def outA : List Value → Value
  | [v] => v
  | l => .tuple l.toArray

def callA (T : Tab) (R : Nat) : Nat → Kall
  | 0, _, _, _ => none
  | n + 1, f, args, H => match T.prim f with
    | some p => p args H
    | none => match T.fn f with
      | some fn => match fn.body with
        | some c => match codeA T (callA T R n) f R .plain c (args.toArray ++ Array.replicate (fn.ntmps - args.length) undef) H with
          | some (.normal, e, H') => match resA T H' e fn.results.toList with
            | some l => some (outA l, H')
            | none => none
          | some (.ret, e, H') => match resA T H' e fn.results.toList with
            | some l => some (outA l, H')
            | none => none
          | _ => none
        | none => none
      | none => none

/-- What may stand for a function's body. -/
structure PrimOk (T : Tab) (f : FuncId) (p : List Value → AHeap → Option (Value × AHeap)) : Prop where
  next : ∀ args H v H', p args H = some (v, H') → H.next ≤ H'.next
  ok : ∀ args H v H', p args H = some (v, H') → ∀ γ w (args' : Array Value), HRT T γ H w → Free γ H.next H'.next → VL γ args args'.toList →
    Calls T.P f args' w fun e w' => ∃ γ' v', e = .returned v' ∧ VR γ' v v' ∧ StepT T γ H w γ' H' w'

structure Tab.Good (T : Tab) : Prop where
  ok : T.Ok
  calls : T.Calls
  prims : ∀ f p, T.prim f = some p → PrimOk T f p
  bodies : ∀ f fn c, T.fn f = some fn → fn.body = some c → codeOk T f c = true

theorem asAddr_of {t : TypeId} {x v : Value} {w w' : World} {P : Program} (h : (Instr.loadAt t x).run P w = .ok v w') :
    (do loadVar t (← asAddr x) : Sem Value).run P w = .ok v w' := by
  cases x with
  | pointer p => cases p with
    | none => simp [Instr.loadAt, Instr.sureAddr] at h
    | some a => simpa [Instr.loadAt, Instr.sureAddr, asAddr] using h
  | _ => simp [Instr.loadAt, Instr.sureAddr] at h

def resF (e : Env) : ResultVar → Sem Value
  | .tmp t => pure (e.getD t undef)
  | .cell a t => do loadVar t (← asAddr (e.getD a undef))

theorem results_eq (fn : Func) (e : Env) : results fn e = (do
    let vs ← fn.results.mapM (resF e)
    pure (if h : vs.size = 1 then vs[0] else .tuple vs)) := by
  unfold results
  congr 1

theorem resA_ok (hT : T.Ok) {γ : Gam} {H : AHeap} {w : World} (h : HRT T γ H w) {e e' : Env} (he : VA γ e e') : ∀ (rs : List ResultVar) (l : List Value), resA T H e rs = some l →
    ∃ l', (rs.mapM (resF e') : Sem (List Value)).run T.P w = .ok l' w ∧ VL γ l l' := by
  intro rs
  induction rs with
  | nil => intro l hl; simp [resA] at hl; subst hl; exact ⟨[], by simp, rfl, fun i v v' hv => by simp at hv⟩
  | cons r rs ih =>
    intro l hl
    cases r with
    | tmp t =>
      simp only [resA] at hl
      cases hr : resA T H e rs with
      | none => rw [hr] at hl; cases hl
      | some l1 =>
        rw [hr] at hl; cases hl
        obtain ⟨l', h1, h2⟩ := ih l1 hr
        refine ⟨e'.getD t undef :: l', ?_, ?_⟩
        · simp only [List.mapM_cons, Sem.run_bind, resF, Sem.run_pure, Result.andThen_ok, h1]
        · exact VL.cons (he.getD t) h2
    | cell a t =>
      simp only [resA] at hl
      cases hv : loadV T H t (e.getD a undef) with
      | none => rw [hv] at hl; cases hl
      | some v =>
        rw [hv] at hl
        simp only at hl
        cases hr : resA T H e rs with
        | none => rw [hr] at hl; cases hl
        | some l1 =>
          rw [hr] at hl; cases hl
          obtain ⟨l', h1, h2⟩ := ih l1 hr
          obtain ⟨v', h3, h4⟩ := loadV_ok hT h hv (he.getD a)
          have h5 := asAddr_of h3
          refine ⟨v' :: l', ?_, VL.cons h4 h2⟩
          simp only [List.mapM_cons, Sem.run_bind, resF]
          simp only [Sem.run_bind] at h5
          rw [h5]
          simp only [Result.andThen_ok, h1, Sem.run_pure]

theorem results_ok (hT : T.Ok) {γ : Gam} {H : AHeap} {w : World} (h : HRT T γ H w) {e e' : Env} (he : VA γ e e') {fn : Func} {l : List Value} (hl : resA T H e fn.results.toList = some l) :
    ∃ v', (results fn e').run T.P w = .ok v' w ∧ VR γ (outA l) v' := by
  obtain ⟨l', h1, h2⟩ := resA_ok hT h he _ _ hl
  rw [results_eq]
  simp only [Sem.run_bind]
  rw [Array.mapM_eq_mapM_toList, Sem.run_map]
  rw [h1]
  refine ⟨_, rfl, ?_⟩
  have hlen := h2.1
  simp only [List.size_toArray]
  match l, l', h2 with
  | [], [], h2 => exact .tuple rfl (fun i h => by simp at h)
  | [v], [v'], h2 => exact h2.2 0 v v' rfl rfl
  | a :: b :: r, a' :: b' :: r', h2 =>
    simp only [outA]
    rw [dif_neg (by simp)]
    exact VR.tuple' h2.toArray
  | [], a' :: r', h2 => simp at hlen
  | a :: r, [], h2 => simp at hlen
  | [a], a' :: b' :: r', h2 => simp at hlen
  | a :: b :: r, [a'], h2 => simp at hlen

theorem VA.args {γ : Gam} {l : List Value} {a : Array Value} (h : VL γ l a.toList) (n : Nat) :
    VA γ (l.toArray ++ Array.replicate (n - l.length) undef) (a ++ Array.replicate (n - a.size) undef) := by
  have hs : l.length = a.size := by have := h.1; simpa using this
  refine ⟨by simp [hs], fun i h1 h2 => ?_⟩
  by_cases hi : i < a.size
  · have hi' : i < l.length := by omega
    rw [Array.getElem_append_left (by simpa using hi'), Array.getElem_append_left hi]
    exact h.2 i _ _ (by simp [hi']) (by simp [hi])
  · have hi' : ¬ i < l.length := by omega
    rw [Array.getElem_append_right (by simpa using hi'), Array.getElem_append_right (by simpa using hi)]
    simp only [Array.getElem_replicate]
    exact undef_rel

theorem callA_ok (G : T.Good) (R : Nat) : ∀ n, KOk T (callA T R n) := by
  intro n
  induction n with
  | zero => exact ⟨fun f args H v H' h => by simp [callA] at h, fun f args H v H' h => by simp [callA] at h⟩
  | succ n ih =>
    have key : ∀ f args H v H', callA T R (n + 1) f args H = some (v, H') → (∃ p, T.prim f = some p ∧ p args H = some (v, H')) ∨
        ∃ fn c x e l, T.fn f = some fn ∧ fn.body = some c ∧ codeA T (callA T R n) f R .plain c (args.toArray ++ Array.replicate (fn.ntmps - args.length) undef) H = some (x, e, H') ∧
          (x = .normal ∨ x = .ret) ∧ resA T H' e fn.results.toList = some l ∧ v = outA l := by
      intro f args H v H' h
      simp only [callA] at h
      split at h
      · rename_i p hp; exact .inl ⟨p, hp, h⟩
      · split at h
        · rename_i fn hfn
          split at h
          · rename_i c hc
            split at h
            · rename_i e H1 hcode
              split at h
              · rename_i l hl; cases h; exact .inr ⟨fn, c, _, e, l, hfn, hc, hcode, .inl rfl, hl, rfl⟩
              · cases h
            · rename_i e H1 hcode
              split at h
              · rename_i l hl; cases h; exact .inr ⟨fn, c, _, e, l, hfn, hc, hcode, .inr rfl, hl, rfl⟩
              · cases h
            · cases h
          · cases h
        · cases h
    constructor
    · intro f args H v H' h
      rcases key _ _ _ _ _ h with ⟨p, hp, h⟩ | ⟨fn, c, x, e, l, hfn, hc, hcode, hx, hl, rfl⟩
      · exact (G.prims f p hp).next _ _ _ _ h
      · exact codeA_next ih R hcode
    · intro f args H v H' h γ w args' hr hf hargs
      rcases key _ _ _ _ _ h with ⟨p, hp, h⟩ | ⟨fn, c, x, e, l, hfn, hc, hcode, hx, hl, rfl⟩
      · exact (G.prims f p hp).ok _ _ _ _ h γ w args' hr hf hargs
      · refine calls_of_wp (G.ok.fn f fn hfn) hc ?_
        have := codeA_ok G.ok G.calls ih (f := f) R hcode (G.bodies f fn c hfn hc) rfl (a := ⟨args' ++ Array.replicate (fn.ntmps - args'.size) undef, []⟩) hr hf (VA.args hargs fn.ntmps)
          (Q := bodyPost T.P fn fun e w' => ∃ γ' v', e = .returned v' ∧ VR γ' (outA l) v' ∧ StepT T γ H w γ' H' w') ?_
        · exact this
        · rintro a' w' ⟨hd, γ', hv, hs⟩
          obtain ⟨v', h1, h2⟩ := results_ok G.ok hs.hr hv hl
          rcases hx with rfl | rfl
          · exact ⟨hd, v', h1, γ', v', rfl, h2, hs⟩
          · exact ⟨hd, v', h1, γ', v', rfl, h2, hs⟩
end Go.AM
end

section
/- The abstract machine, part S: tables out of lists. -/
namespace Go.AM

def AllF {α : Type} (p : Nat → α → Prop) : List (Nat × α) → Prop
  | [] => True
  | x :: r => p x.1 x.2 ∧ AllF p r

theorem AllF.append {α : Type} {p : Nat → α → Prop} : ∀ {l r : List (Nat × α)}, AllF p l → AllF p r → AllF p (l ++ r)
  | [], _, _, h => h
  | _ :: _, _, h1, h2 => ⟨h1.1, AllF.append h1.2 h2⟩

theorem AllF.mem {α : Type} {p : Nat → α → Prop} : ∀ {l : List (Nat × α)}, AllF p l → ∀ x ∈ l, p x.1 x.2
  | _ :: _, h, x, hx => by
    cases hx with
    | head => exact h.1
    | tail _ hx => exact AllF.mem h.2 x hx

def Tr.ofPairs {α : Type} : List (Nat × α) → Tr α
  | [] => .nil
  | x :: r => (Tr.ofPairs r).set x.1 (some x.2)

theorem Tr.of_get {α : Type} : ∀ (l : List (Nat × α)) (k : Nat) (v : α), (Tr.ofPairs l).get k = some v → (k, v) ∈ l
  | [], k, v, h => by simp [Tr.ofPairs, Tr.get] at h
  | x :: r, k, v, h => by
    simp only [Tr.ofPairs, Tr.get_set] at h
    split at h
    · rename_i e; cases h; subst e; exact List.mem_cons_self
    · exact List.mem_cons_of_mem _ (Tr.of_get r k v h)

theorem AllF.get {α : Type} {p : Nat → α → Prop} {l : List (Nat × α)} (h : AllF p l) {t : Tr α} (ht : t = Tr.ofPairs l) {k : Nat} {v : α} (hg : t.get k = some v) : p k v := by
  subst ht
  exact h.mem _ (Tr.of_get l k v hg)

theorem info_of_type {P : Program} {t : Nat} {i : TypeInfo} (h : P.types[t]? = some i) : P.info? t = some i := by
  unfold Tables.info?
  have hlt : t < P.types.size := by
    rcases Nat.lt_or_ge t P.types.size with q | q
    · exact q
    · rw [Array.getElem?_eq_none q] at h; cases h
  rw [if_pos hlt]
  exact h
end Go.AM
end

section
/- The abstract machine, part T: what stands for some functions' bodies. -/
namespace Go.AM

/-- slices.Insert of one value (of z cells). -/
def insertP (z : Nat) (ty : TypeId) (args : List Value) (H : AHeap) : Option (Value × AHeap) :=
  match args with
  | [.slice none 0 0, .int .i64 i, .slice (some ⟨vb, vo, none⟩) 1 _] =>
    cond (decide (i = 0))
      (match ldN H vb vo z with
        | some v => some (.slice (some ⟨H.next, 0, none⟩) 1 (U + 1), H.new (.cells v ty ⟨false, false⟩))
        | none => none)
      none
  | [.slice (some ⟨b, o, none⟩) n _, .int .i64 i, .slice (some ⟨vb, vo, none⟩) 1 _] =>
    cond (decide (0 ≤ i) && decide (i ≤ n) && !Nat.beq vb b)
      (match ldN H b o (n * z), ldN H vb vo z, H.get b with
        | some l, some v, some (.cells _ e' st) => some (.slice (some ⟨H.next, 0, none⟩) (n + 1) (U + (n + 1)), (H.put b none).new (.cells (l.take (z * i.toNat) ++ v ++ l.drop (z * i.toNat)) e' ⟨st.st, false⟩))
        | _, _, _ => none)
      none
  | _ => none

end Go.AM
end

section
/- The abstract machine, part U: calls that were reckoned once. -/
namespace Go.AM
variable {T : Tab}

def listEq {α : Type} (f : α → α → Bool) : List α → List α → Bool
  | [], [] => true
  | a :: r, b :: s => f a b && listEq f r s
  | _, _ => false

theorem listEq_eq {α : Type} {f : α → α → Bool} (hf : ∀ a b, f a b = true → a = b) : ∀ {l r : List α}, listEq f l r = true → l = r
  | [], [], _ => rfl
  | a :: l, b :: r, h => by
    simp only [listEq, Bool.and_eq_true] at h
    rw [hf a b h.1, listEq_eq hf h.2]
  | [], _ :: _, h => by simp [listEq] at h
  | _ :: _, [], h => by simp [listEq] at h

def entEq (a b : MapEntry) : Bool := veq 6 a.key b.key && veq 6 a.val b.val && Nat.beq a.born b.born

theorem entEq_eq {a b : MapEntry} (h : entEq a b = true) : a = b := by
  cases a; cases b
  simp only [entEq, Bool.and_eq_true] at h
  obtain ⟨⟨h1, h2⟩, h3⟩ := h
  have := veq_eq 6 _ _ h1
  have := veq_eq 6 _ _ h2
  have := Nat.eq_of_beq_eq_true h3
  simp_all

def objEq : AObj → AObj → Bool
  | .cells c e st, .cells c' e' st' => listEq (veq 6) c c' && Nat.beq e e' && (st == st')
  | .map es k, .map es' k' => listEq entEq es es' && Nat.beq k k'
  | _, _ => false

theorem objEq_eq {a b : AObj} (h : objEq a b = true) : a = b := by
  cases a <;> cases b <;> simp only [objEq, Bool.and_eq_true, Bool.false_eq_true] at h
  · obtain ⟨⟨h1, h2⟩, h3⟩ := h
    rw [listEq_eq (fun a b => veq_eq 6 a b) h1, Nat.eq_of_beq_eq_true h2, eq_of_beq h3]
  · rw [listEq_eq (fun a b => entEq_eq) h.1, Nat.eq_of_beq_eq_true h.2]

/-- Is the first tree a part of the second one? -/
def trSub : Tr AObj → Tr AObj → Bool
  | .nil, _ => true
  | .node l v r, .node l' v' r' => (match v, v' with
      | none, _ => true
      | some a, some b => objEq a b
      | some _, none => false) && (trSub l l' && trSub r r')
  | .node _ _ _, .nil => false

theorem trSub_get : ∀ {t t' : Tr AObj}, trSub t t' = true → ∀ b o, t.get b = some o → t'.get b = some o := by
  intro t
  induction t with
  | nil => intro t' _ b o h; cases h
  | node l v r ihl ihr =>
    intro t' h b o hb
    cases t' with
    | nil => simp [trSub] at h
    | node l' v' r' =>
      simp only [trSub, Bool.and_eq_true] at h
      obtain ⟨h1, h2, h3⟩ := h
      simp only [Tr.get] at hb ⊢
      cases hz : Nat.beq b 0 with
      | true =>
        rw [hz] at hb
        simp only [cond_true] at hb ⊢
        subst hb
        cases v' with
        | none => simp at h1
        | some p => simp only at h1; rw [objEq_eq h1]
      | false =>
        rw [hz] at hb
        simp only [cond_false] at hb ⊢
        cases hm : Nat.beq (b % 2) 1 with
        | true => rw [hm] at hb; simp only [cond_true] at hb ⊢; exact ihl h2 _ _ hb
        | false => rw [hm] at hb; simp only [cond_false] at hb ⊢; exact ihr h3 _ _ hb

structure Memo where
  args : List Value
  H : AHeap
  v : Value
  H' : AHeap

/-- The call was reckoned: the heap that is kept is a part of the one that there is. -/
def memoOk (K : Kall) (f : FuncId) (m : Memo) : Bool :=
  match K f m.args m.H with
  | some (v, H1) => veq 6 m.v v && Nat.beq m.H'.next H1.next && trSub m.H'.objs H1.objs
  | none => false

def memoFind (args : List Value) (H : AHeap) : List Memo → Option Memo
  | [] => none
  | m :: r => cond (Nat.beq m.H.next H.next && (listEq (veq 6) m.args args && trSub m.H.objs H.objs)) (some m) (memoFind args H r)

def memoP (K : Kall) (f : FuncId) (l : List Memo) (args : List Value) (H : AHeap) : Option (Value × AHeap) :=
  match memoFind args H l with
  | some m => some (m.v, m.H')
  | none => K f args H

theorem memoFind_some {args : List Value} {H : AHeap} {m : Memo} : ∀ {l : List Memo}, memoFind args H l = some m → m ∈ l ∧ m.H.next = H.next ∧ m.args = args ∧ ∀ b o, m.H.get b = some o → H.get b = some o
  | x :: r, h => by
    simp only [memoFind] at h
    cases hc : (Nat.beq x.H.next H.next && (listEq (veq 6) x.args args && trSub x.H.objs H.objs)) with
    | true =>
      rw [hc] at h; cases h
      simp only [Bool.and_eq_true] at hc
      exact ⟨List.mem_cons_self, Nat.eq_of_beq_eq_true hc.1, listEq_eq (fun a b => veq_eq 6 a b) hc.2.1, fun b o hb => trSub_get hc.2.2 b o hb⟩
    | false =>
      rw [hc] at h
      have := memoFind_some (l := r) h
      exact ⟨List.mem_cons_of_mem _ this.1, this.2⟩

def Tab.memo (T : Tab) (K : Kall) (ms : Tr (List Memo)) : Tab :=
  { T with prim := fun f => match ms.get f with
    | some l => some (memoP K f l)
    | none => T.prim f }

/-- What is kept of a call holds in every world. -/
structure MOk (T : Tab) (f : FuncId) (m : Memo) : Prop where
  next : m.H.next ≤ m.H'.next
  ok : ∀ γ w (args' : Array Value), HRT T γ m.H w → Free γ m.H.next m.H'.next → VL γ m.args args'.toList →
    Calls T.P f args' w fun e w' => ∃ γ' v', e = .returned v' ∧ VR γ' m.v v' ∧ StepT T γ m.H w γ' m.H' w'

theorem MOk.of {T : Tab} {K : Kall} (hK : KOk T K) {f : FuncId} {m : Memo} (h : memoOk K f m = true) : MOk T f m := by
  unfold memoOk at h
  split at h
  · rename_i v1 H1 hk
    simp only [Bool.and_eq_true] at h
    obtain ⟨⟨g1, g2⟩, g3⟩ := h
    have e1 := veq_eq 6 _ _ g1
    have e2 := Nat.eq_of_beq_eq_true g2
    constructor
    · rw [e2]; exact hK.next _ _ _ _ _ hk
    · intro γ w args' hr hf hl
      refine (hK.ok f _ _ _ _ hk γ w args' hr (by rw [← e2]; exact hf) hl).mono ?_
      rintro e w' ⟨γ', v', rfl, q1, q2⟩
      exact ⟨γ', v', rfl, by rw [e1]; exact q1, q2.trans (Step.drop q2.hr e2 fun b o hb => trSub_get g3 b o hb)⟩
  · cases h

theorem memoP_ok {T : Tab} {K : Kall} (hK : KOk T K) {f : FuncId} {l : List Memo} (h : ∀ m ∈ l, MOk T f m) {p : Tr (List Memo)} : PrimOk (T.memo K p) f (memoP K f l) := by
  constructor
  · intro args H v H' hp
    unfold memoP at hp
    split at hp
    · rename_i m hm
      cases hp
      obtain ⟨h1, h2, h3, h4⟩ := memoFind_some hm
      rw [← h2]; exact (h m h1).next
    · exact hK.next _ _ _ _ _ hp
  · intro args H v H' hp γ w args' hr hf hl
    unfold memoP at hp
    split at hp
    · rename_i m hm
      cases hp
      obtain ⟨h1, h2, h3, h4⟩ := memoFind_some hm
      have s0 : StepT T γ H w γ m.H w := Step.drop hr h2 h4
      refine ((h m h1).ok γ w args' s0.hr (by rw [h2]; exact hf) (by rw [h3]; exact hl)).mono ?_
      rintro e w' ⟨γ', v', rfl, q1, q2⟩
      exact ⟨γ', v', rfl, q1, s0.trans q2⟩
    · exact hK.ok f args H v H' hp γ w args' hr hf hl

theorem codeOk_memo {K : Kall} {p : Tr (List Memo)} {f : FuncId} : ∀ c : Code, codeOk (T.memo K p) f c = codeOk T f c := by
  intro c
  induction c with
  | region id ops d => rfl
  | seq x y ihx ihy => simp only [codeOk, ihx, ihy]
  | cond v x y ihx ihy => simp only [codeOk, ihx, ihy]; rfl
  | block id x ih => simp only [codeOk, ih]
  | loop x ih => simp only [codeOk, ih]
  | scope x ih => simp only [codeOk, ih]
  | _ => rfl

theorem primOk_memo {K : Kall} {p : Tr (List Memo)} {f : FuncId} {q : List Value → AHeap → Option (Value × AHeap)} (h : PrimOk T f q) : PrimOk (T.memo K p) f q := ⟨h.next, h.ok⟩

theorem Tab.Good.memo (G : T.Good) {K : Kall} (hK : KOk T K) {p : Tr (List Memo)} (h : ∀ f l, p.get f = some l → ∀ m ∈ l, MOk T f m) : (T.memo K p).Good where
  ok := ⟨G.ok.info, G.ok.fn, G.ok.ext, G.ok.same, G.ok.meth, G.ok.mixed⟩
  calls := G.calls
  prims := fun f q hq => by
    have hq' : (match p.get f with
      | some l => some (memoP K f l)
      | none => T.prim f) = some q := hq
    cases hp : p.get f with
    | some l => rw [hp] at hq'; cases hq'; exact memoP_ok hK (h f l hp)
    | none => rw [hp] at hq'; exact primOk_memo (G.prims f q hq')
  bodies := fun f fn c h1 h2 => by rw [codeOk_memo]; exact G.bodies f fn c h1 h2
end Go.AM
end

section
/- The abstract machine, part V: single operations by hand: cap, slices.overlaps; a block under another name. -/
namespace Go.AM
variable {T : Tab}

/-- One operation by hand, which gives a value. -/
theorem hand_op {P : Program} {ops : Array Oper} {Q : Exit → Act → World → Prop} {i : Nat} {K : Act → World → Prop} {a : Act} {w : World} {o : Oper} (hoi : ops[i]? = some o)
    (hw : Region.wanted o (yielded ops a.tmps) = true) {v' : Value} (hrun : (execOp a.eval o).run P w = .ok (.value v') w) (hk : K (a.put o.dst v') w) : wpOp P ops Q i K a w := by
  unfold wpOp
  rw [hoi]
  simp only [hw, if_true]
  left
  unfold Oper.wp
  rw [hrun, Oper.upon_value]
  exact hk

theorem run_cap (hT : T.Ok) {ev : Operand → Value} {dst : Option Tmp} {type : TypeId} {pos : String} {after : Array Edge} {guard : Option (Nat × Bool)} {t e : TypeId} {x : Operand} {p : Option Addr} {n c : Nat}
    (hu : T.und t = some (.slice e)) (hx : ev x = .slice p n c) (w : World) :
    (execOp ev ⟨dst, .call ⟨.builtin .cap, #[x], #[t]⟩, type, pos, after, guard⟩).run T.P w = .ok (.value (goInt c)) w := by
  have h1 : (Builtin.cap_ #[t] type #[.slice p n c]).run T.P w = .ok (goInt c) w := by simp [Builtin.cap_, hT.run_und hu, goInt]
  rw [run_builtin ev _ .cap #[x] #[t] rfl]
  simp [builtin, hx, h1]

/-- slices.overlaps of two slices in two blocks. -/
theorem run_overlaps (hT : T.Ok) {γ : Gam} {H : AHeap} {w : World} (h : HRT T γ H w) {ev : Operand → Value} {dst : Option Tmp} {type : TypeId} {pos : String} {after : Array Edge} {guard : Option (Nat × Bool)} {ts : Array TypeId}
    {f : FuncId} {tS tR e : TypeId} {inf : TypeInfo} {x y : Operand}
    (hef : ev (.func f) = .func (.func f) #[] #[])
    (hcall : ∀ args w, (callFunc f args).run T.P w = ((Extern.SlicesOverlaps.overlaps #[tS, tS] #[tR] args).run T.P w).andThen fun v w' => .ok (.value v) w')
    (hu : T.und tS = some (.slice e)) (hi : T.info e = some inf) {b1 o1 n1 c1 b2 o2 n2 c2 : Nat} (hx : VR γ (.slice (some ⟨b1, o1, none⟩) n1 c1) (ev x)) (hy : VR γ (.slice (some ⟨b2, o2, none⟩) n2 c2) (ev y))
    (hn1 : n1 ≠ 0) (hn2 : n2 ≠ 0) (hne : b1 ≠ b2) {l1 l2 : List Value} {e1 e2 : TypeId} {q1 : Bool} {s2 : Fl} (hb1 : H.get b1 = some (.cells l1 e1 ⟨false, q1⟩)) (hb2 : H.get b2 = some (.cells l2 e2 s2)) (hl2 : l2 ≠ []) :
    (execOp ev ⟨dst, .call ⟨.value (.func f), #[x, y], ts⟩, type, pos, after, guard⟩).run T.P w = .ok (.value (.bool false)) w := by
  obtain ⟨A1, g1, cc1, fr1, k1, k2, k3, k4, k5, k6⟩ := h.live b1 _ hb1
  obtain ⟨A2, g2, cc2, fr2, m1, m2, m3, m4, m5, m6⟩ := h.live b2 _ hb2
  have hAB : A1.B ≠ A2.B := fun q => hne (h.inj b1 b2 _ _ A1 A2 hb1 hb2 g1 g2 q (.inl rfl))
  have hfr : fr1 = (0, 0) := by
    rcases k3 with k3 | ⟨k3, _⟩
    · exact k3
    · cases k3
  subst hfr
  generalize hx' : ev x = x' at hx
  generalize hy' : ev y = y' at hy
  cases hx with
  | noSlice _ _ => exact absurd rfl hn1
  | slice a1 a2 a3 a4 =>
    rename_i d1 D1
    rw [g1] at a1; cases a1
    cases hy with
    | noSlice _ _ => exact absurd rfl hn2
    | slice p1 p2 p3 p4 =>
      rename_i d2 D2
      rw [g2] at p1; cases p1
      have hrun := Lib.run_overlaps_apart (P := T.P) w tS tR e (hT.und hu) inf.size (fun w => hT.run_size hi w) ⟨A1.B, A1.o + o1, none⟩ ⟨A2.B, A2.o + o2, none⟩ n1 d1 n2 d2 hAB e1 e2 cc1.size cc2.size
        (by simp [World.shape?, k1]) (by simp [World.shape?, m1]) (by
          have : 0 < l2.length := List.length_pos_iff.2 hl2
          omega) (by simp [World.frozen?, k1]) (by simp [World.frozen?, k1])
      
      simp only [execOp, resolve, hef, Deferred.ofValue, Sem.run_bind, Sem.run_pure, Result.andThen_ok, invoke]
      have e1 : (#[] : Array Value) ++ #[x, y].map ev ++ #[] = #[ev x, ev y] := by simp
      rw [e1, hx', hy', hcall, hrun]
      rfl
/-- A block under another name. -/
theorem Step.rename {γ : Gam} {H : AHeap} {w : World} (h : HRT T γ H w) (hf : γ H.next = none) {b : Nat} {c : List Value} {e : TypeId} {st : Fl} {A : At} (hb : H.get b = some (.cells c e st)) (hA : γ b = some A) :
    StepT T γ H w (add γ H.next A) ((H.put b none).new (.cells c e ⟨st.st, false⟩)) w := by
  refine Step.move h hf hb rfl hA rfl ?_ (fun _ _ => rfl) rfl rfl rfl rfl
  obtain ⟨A', g1, cc, fr, k1, k2, k3, k4, k5, k6⟩ := h.live b _ hb
  rw [hA] at g1; cases g1
  exact ⟨cc, fr, k1, k2, k3, ⟨k4.1, fun q => by cases q⟩, k5, k6.mono (sub_add hf)⟩

theorem VR.renamed {γ : Gam} {b o n c m : Nat} {v : Value} {A : At} (h : VR γ (.slice (some ⟨b, o, none⟩) n c) v) (hA : γ b = some A) (hn : n ≠ 0) : VR (add γ m A) (.slice (some ⟨m, o, none⟩) n c) v := by
  cases h with
  | slice a1 a2 a3 a4 =>
    rw [hA] at a1; cases a1
    exact .slice add_same a2 a3 a4
  | noSlice _ _ => exact absurd rfl hn

theorem part_ok {T : Tab} (G : T.Good) {K : Kall} (hK : KOk T K) {f : FuncId} {n : Nat} {c x y : Code} {e : Env} {H : AHeap} (hc : c = .seq x y) {e1 : Env} {H1 : AHeap} (h : codeA T K f n .plain x e H = some (.normal, e1, H1))
    (hok : codeOk T f x = true) {γ : Gam} {a : Act} {w : World} (hr : HRT T γ H w) (hf : Free γ H.next H1.next) (he : VA γ e a.tmps) {Q : Exit → Act → World → Prop}
    (hq : ∀ a' w', Then T γ H w a.defers e1 H1 a' w' → y.wp T.P Q a' w') : c.wp T.P Q a w := by
  rw [hc]
  apply wp_seq
  exact codeA_ok G.ok G.calls hK n h hok rfl hr hf he fun a' w' ht => hq a' w' ht

def nx (r : Option (AX × Env × AHeap)) : Env := match r with
  | some (_, e, _) => e
  | none => #[]
def normal (r : Option (AX × Env × AHeap)) (H : AHeap) : Bool := match r with
  | some (.normal, _, H') => Nat.beq H'.next H.next && trSub H.objs H'.objs
  | _ => false

/-- A part that leaves what is kept of the heap. -/
theorem part_same {T : Tab} (G : T.Good) {K : Kall} (hK : KOk T K) {f : FuncId} {n : Nat} {c x y : Code} {e : Env} {H : AHeap} (hc : c = .seq x y) (h : normal (codeA T K f n .plain x e H) H = true)
    (hok : codeOk T f x = true) {γ : Gam} {a : Act} {w : World} (hr : HRT T γ H w) (he : VA γ e a.tmps) {Q : Exit → Act → World → Prop}
    (hq : ∀ a' w' γ', VA γ' (nx (codeA T K f n .plain x e H)) a'.tmps → StepT T γ H w γ' H w' → a'.defers = a.defers → y.wp T.P Q a' w') : c.wp T.P Q a w := by
  cases hx : codeA T K f n .plain x e H with
  | none => rw [hx] at h; cases h
  | some r =>
    obtain ⟨ax, e1, H1⟩ := r
    rw [hx] at h hq
    cases ax with
    | normal =>
      simp only [normal, Bool.and_eq_true] at h
      have hn := Nat.eq_of_beq_eq_true h.1
      refine part_ok G hK hc hx hok hr (fun b h1 h2 => by omega) he ?_
      rintro a' w' ⟨hd, γ', hv, hs⟩
      exact hq a' w' γ' hv (hs.trans (Step.drop hs.hr hn.symm fun b o hb => trSub_get h.2 b o hb)) hd
    | _ => cases h

theorem seq_ok {P : Program} {c x y : Code} {Q : Exit → Act → World → Prop} {a : Act} {w : World} (hc : c = .seq x y) (h : x.wp P (Exit.then (y.wp P Q) Q) a w) : c.wp P Q a w := by
  rw [hc]; exact wp_seq h

theorem reg_ok {P : Program} {c : Code} {id : Nat} {ops : Array Oper} {l : List Nat} {Q : Exit → Act → World → Prop} {a : Act} {w : World} (hc : c = .region id ops false) (hl : List.range ops.size = l) (h : wpOps P ops Q l a w) : c.wp P Q a w := by
  rw [hc]; exact wp_region (by rw [hl]; exact h)

/-- One operation that leaves what is kept of the heap, ahead of others. -/
theorem ops_step {T : Tab} (G : T.Good) {K : Kall} (hK : KOk T K) {ops : Array Oper} {Q : Exit → Act → World → Prop} {i : Nat} {rest : List Nat} {env env' : Env} {H : AHeap} (h : stepA T K ops i env H = some (env', H))
    (hops : ops.toList.all (operOk T.G) = true) {γ : Gam} {a : Act} {w : World} (hr : HRT T γ H w) (he : VA γ env a.tmps)
    (hq : ∀ a' w' γ', VA γ' env' a'.tmps → StepT T γ H w γ' H w' → a'.defers = a.defers → wpOps T.P ops Q rest a' w') : wpOps T.P ops Q (i :: rest) a w := by
  rw [wpOps_cons]
  refine wpOp_mono ?_ (stepA_ok G.ok G.calls hK h hr (fun b h1 h2 => by omega) he (fun o ho => ops_ok hops i o ho))
  rintro a' w' ⟨hd, γ', hv, hs⟩
  exact hq a' w' γ' hv hs hd

theorem ops_nil {P : Program} {ops : Array Oper} {Q : Exit → Act → World → Prop} {a : Act} {w : World} (h : Q .normal a w) : wpOps P ops Q [] a w := h

/-- One operation by hand ahead of others. -/
theorem ops_hand {P : Program} {ops : Array Oper} {Q : Exit → Act → World → Prop} {i : Nat} {rest : List Nat} {a : Act} {w : World} {o : Oper} (hoi : ops[i]? = some o)
    (hw : Region.wanted o (yielded ops a.tmps) = true) {v' : Value} (hrun : (execOp a.eval o).run P w = .ok (.value v') w) (hk : wpOps P ops Q rest (a.put o.dst v') w) : wpOps P ops Q (i :: rest) a w := by
  rw [wpOps_cons]
  exact hand_op hoi hw hrun hk
end Go.AM
end

section
/- The abstract machine, part W: an evaluation with any fuel that is enough. -/
namespace Go.AM
variable {T : Tab} {K : Kall} {f : FuncId}

theorem codeA_succ : ∀ (n : Nat) {m : Md} {c : Code} {e : Env} {H : AHeap} {r : AX × Env × AHeap}, codeA T K f n m c e H = some r → codeA T K f (n + 1) m c e H = some r := by
  intro n
  induction n with
  | zero => intro m c e H r h; simp [codeA] at h
  | succ n ih =>
    intro m c e H r h
    cases m with
    | scope body =>
      simp only [codeA] at h
      rw [codeA]
      split at h
      · rename_i l e1 H1 h1
        rw [ih h1]
        simp only
        cases hl : findLabel body l with
        | none => rw [hl] at h; exact h
        | some rest => rw [hl] at h; exact ih h
      · rename_i hng
        rw [ih h]
        obtain ⟨ax, e1, H1⟩ := r
        cases ax with
        | goto l => exact absurd h (hng l e1 H1)
        | _ => rfl
    | loop body =>
      simp only [codeA] at h
      rw [codeA]
      split at h
      · rename_i e1 H1 h1
        rw [ih h1]
        exact ih h
      · rename_i hng
        rw [ih h]
        obtain ⟨ax, e1, H1⟩ := r
        cases ax with
        | normal => exact absurd h (hng e1 H1)
        | _ => rfl
    | plain =>
      cases c with
      | seq y z =>
        simp only [codeA] at h
        rw [codeA]
        split at h
        · rename_i e1 H1 h1
          simp only [ih h1]
          exact ih h
        · rename_i hng
          simp only [ih h]
          obtain ⟨ax, e1, H1⟩ := r
          cases ax with
          | normal => exact absurd h (hng e1 H1)
          | _ => rfl
      | cond v y z =>
        have e1 : ∀ k, codeA T K f (k + 1) .plain (.cond v y z) e H = (match evA e v with
          | .bool true => codeA T K f k .plain y e H
          | .bool false => codeA T K f k .plain z e H
          | _ => none) := fun k => by rw [codeA]; try (cases evA e v <;> first | rfl | (rename_i b; cases b <;> rfl))
        rw [e1] at h ⊢
        split at h
        · exact ih h
        · exact ih h
        · cases h
      | block id y =>
        simp only [codeA] at h
        rw [codeA]
        split at h
        · rename_i i e1 H1 h1
          simp only [ih h1]
          exact h
        · rename_i hng
          simp only [ih h]
          obtain ⟨ax, e1, H1⟩ := r
          cases ax with
          | exit i => exact absurd h (hng i e1 H1)
          | _ => rfl
      | loop y => simp only [codeA] at h ⊢; exact ih h
      | scope y => simp only [codeA] at h ⊢; exact ih h
      | region id ops d => simp only [codeA] at h ⊢; exact h
      | skip => simp only [codeA] at h ⊢; exact h
      | label l => simp only [codeA] at h ⊢; exact h
      | exit id => simp only [codeA] at h ⊢; exact h
      | goto l => simp only [codeA] at h ⊢; exact h
      | ret => simp only [codeA] at h ⊢; exact h
      | rangeFunc _ _ _ _ => cases h
      | refuse _ => cases h

theorem codeA_le {n k : Nat} {m : Md} {c : Code} {e : Env} {H : AHeap} {r : AX × Env × AHeap} (h : codeA T K f n m c e H = some r) (hk : n ≤ k) : codeA T K f k m c e H = some r := by
  obtain ⟨j, rfl⟩ : ∃ j, k = n + j := ⟨k - n, by omega⟩
  clear hk
  induction j with
  | zero => exact h
  | succ j ih => exact codeA_succ _ ih

/-- The code comes to this, with fuel enough. -/
def Ev (T : Tab) (K : Kall) (f : FuncId) (m : Md) (c : Code) (e : Env) (H : AHeap) (r : AX × Env × AHeap) : Prop := ∃ n, codeA T K f n m c e H = some r

variable {x y c body : Code} {e e1 : Env} {H H1 : AHeap} {r : AX × Env × AHeap} {ax : AX} {m : Md}

theorem Ev.of {n : Nat} (h : codeA T K f n m c e H = some r) : Ev T K f m c e H r := ⟨n, h⟩

theorem Ev.seq (h : Ev T K f .plain x e H (.normal, e1, H1)) (h' : Ev T K f .plain y e1 H1 r) : Ev T K f .plain (.seq x y) e H r := by
  obtain ⟨n, h⟩ := h
  obtain ⟨k, h'⟩ := h'
  refine ⟨n + k + 1, ?_⟩
  simp only [codeA, codeA_le h (show n ≤ n + k by omega)]
  exact codeA_le h' (by omega)

theorem Ev.out (h : Ev T K f .plain x e H (ax, e1, H1)) (hn : ax ≠ .normal) : Ev T K f .plain (.seq x y) e H (ax, e1, H1) := by
  obtain ⟨n, h⟩ := h
  refine ⟨n + 1, ?_⟩
  simp only [codeA, h]
  cases ax with
  | normal => exact absurd rfl hn
  | _ => rfl

theorem Ev.region {id : Nat} {ops : Array Oper} (h : seqA T K ops (List.range ops.size) e H = some (e1, H1)) : Ev T K f .plain (.region id ops false) e H (.normal, e1, H1) := by
  refine ⟨1, ?_⟩
  simp only [codeA, h]
  rfl

theorem Ev.draw {id : Nat} {ops : Array Oper} {pl : Plan} (hp : T.plan f id = some pl) (h : drawA T K pl ops e H = some (e1, H1)) : Ev T K f .plain (.region id ops true) e H (.normal, e1, H1) := by
  refine ⟨1, ?_⟩
  simp only [codeA, hp, h]
  rfl

theorem Ev.true {v : Operand} (hv : evA e v = .bool true) (h : Ev T K f .plain x e H r) : Ev T K f .plain (.cond v x y) e H r := by
  obtain ⟨n, h⟩ := h
  refine ⟨n + 1, ?_⟩
  simp only [codeA, hv]
  exact h

theorem Ev.false {v : Operand} (hv : evA e v = .bool false) (h : Ev T K f .plain y e H r) : Ev T K f .plain (.cond v x y) e H r := by
  obtain ⟨n, h⟩ := h
  refine ⟨n + 1, ?_⟩
  simp only [codeA, hv]
  exact h

theorem Ev.block {id : Nat} (h : Ev T K f .plain x e H (.exit id, e1, H1)) : Ev T K f .plain (.block id x) e H (.normal, e1, H1) := by
  obtain ⟨n, h⟩ := h
  refine ⟨n + 1, ?_⟩
  simp [codeA, h]

theorem Ev.block' {id : Nat} (h : Ev T K f .plain x e H (ax, e1, H1)) (hn : ∀ i, ax ≠ .exit i) : Ev T K f .plain (.block id x) e H (ax, e1, H1) := by
  obtain ⟨n, h⟩ := h
  refine ⟨n + 1, ?_⟩
  simp only [codeA, h]
  cases ax with
  | exit i => exact absurd rfl (hn i)
  | _ => rfl

theorem Ev.loop (h : Ev T K f (.loop x) x e H r) : Ev T K f .plain (.loop x) e H r := by
  obtain ⟨n, h⟩ := h
  exact ⟨n + 1, by simp only [codeA]; exact h⟩

theorem Ev.round (h : Ev T K f .plain c e H (.normal, e1, H1)) (h' : Ev T K f (.loop body) body e1 H1 r) : Ev T K f (.loop body) c e H r := by
  obtain ⟨n, h⟩ := h
  obtain ⟨k, h'⟩ := h'
  refine ⟨n + k + 1, ?_⟩
  simp only [codeA, codeA_le h (show n ≤ n + k by omega)]
  exact codeA_le h' (by omega)

theorem Ev.leave (h : Ev T K f .plain c e H (ax, e1, H1)) (hn : ax ≠ .normal) : Ev T K f (.loop body) c e H (ax, e1, H1) := by
  obtain ⟨n, h⟩ := h
  refine ⟨n + 1, ?_⟩
  simp only [codeA, h]
  cases ax with
  | normal => exact absurd rfl hn
  | _ => rfl

theorem Ev.ret : Ev T K f .plain .ret e H (.ret, e, H) := ⟨1, rfl⟩
theorem Ev.skip : Ev T K f .plain .skip e H (.normal, e, H) := ⟨1, rfl⟩
theorem Ev.exit {id : Nat} : Ev T K f .plain (.exit id) e H (.exit id, e, H) := ⟨1, rfl⟩

theorem MOk.ev {T : Tab} (G : T.Good) {K : Kall} (hK : KOk T K) {f : FuncId} {fn : Func} {c : Code} {args l : List Value} {H H' : AHeap} {e : Env} {ax : AX} (hfn : T.P.funcs[f]? = some fn) (hc : fn.body = some c)
    (hok : codeOk T f c = true) (h : Ev T K f .plain c (args.toArray ++ Array.replicate (fn.ntmps - args.length) undef) H (ax, e, H')) (hx : ax = .normal ∨ ax = .ret) (hr : resA T H' e fn.results.toList = some l) :
    MOk T f ⟨args, H, outA l, H'⟩ := by
  obtain ⟨n, hcode⟩ := h
  constructor
  · exact codeA_next hK n hcode
  · intro γ w args' hr' hf hargs
    refine calls_of_wp hfn hc ?_
    refine codeA_ok G.ok G.calls hK (f := f) n hcode hok rfl (a := ⟨args' ++ Array.replicate (fn.ntmps - args'.size) undef, []⟩) hr' hf (VA.args hargs fn.ntmps) ?_
    rintro a' w' ⟨hd, γ', hv, hs⟩
    obtain ⟨v', h1, h2⟩ := results_ok G.ok hs.hr hv hr
    rcases hx with rfl | rfl
    · exact ⟨hd, v', h1, γ', v', rfl, h2, hs⟩
    · exact ⟨hd, v', h1, γ', v', rfl, h2, hs⟩

/-! Regions, one operation after another. -/
theorem seqA_cons {ops : Array Oper} {i : Nat} {l : List Nat} {e e1 : Env} {H H1 : AHeap} {r : Option (Env × AHeap)} (h : stepA T K ops i e H = some (e1, H1)) (h' : seqA T K ops l e1 H1 = r) : seqA T K ops (i :: l) e H = r := by
  rw [seqA, h]; exact h'
end Go.AM
end

section
/- The abstract machine, part X: frames of which some slots are known; single operations on open data. -/
namespace Go.AM
variable {T : Tab} {K : Kall}

def getZ (z : Nat → Value) (j : Nat) : List (Nat × Value) → Value
  | [] => z j
  | p :: r => cond (Nat.beq p.1 j) p.2 (getZ z j r)
def mkE (n : Nat) (fs : List (Nat × Value)) (z : Nat → Value) : Env := ((List.range n).map fun j => getZ z j fs).toArray

def Sl (e : Env) : List (Nat × Value) → Prop
  | [] => True
  | p :: r => e.getD p.1 undef = p.2 ∧ Sl e r
/-- A frame of so many slots, some of which are known. -/
structure Fr (e : Env) (n : Nat) (fs : List (Nat × Value)) : Prop where
  size : e.size = n
  sl : Sl e fs

theorem getZ_of {e : Env} {j : Nat} : ∀ {fs : List (Nat × Value)}, Sl e fs → getZ (fun j => e.getD j undef) j fs = e.getD j undef
  | [], _ => rfl
  | p :: r, h => by
    simp only [getZ]
    cases hb : Nat.beq p.1 j with
    | true =>
      have := Nat.eq_of_beq_eq_true hb
      subst this
      exact h.1.symm
    | false => exact getZ_of h.2

theorem Fr.eq {e : Env} {n : Nat} {fs : List (Nat × Value)} (h : Fr e n fs) : e = mkE n fs (fun j => e.getD j undef) := by
  refine Array.ext (by simp [mkE, h.size]) fun i h1 h2 => ?_
  simp only [mkE, List.getElem_toArray, List.getElem_map, List.getElem_range]
  rw [getZ_of h.sl]
  simp [Array.getD, h1]

/-- What a list of operations comes to. -/
def Rg (T : Tab) (K : Kall) (ops : Array Oper) (l : List Nat) (e : Env) (H : AHeap) (n : Nat) (fs : List (Nat × Value)) (H' : AHeap) : Prop :=
  ∃ e', seqA T K ops l e H = some (e', H') ∧ Fr e' n fs

def envS (r : Option (Env × AHeap)) : Env := match r with
  | some (e, _) => e
  | none => #[]

theorem Rg.of {ops : Array Oper} {l : List Nat} {e : Env} {H H' : AHeap} {n : Nat} {fs : List (Nat × Value)} (h : seqA T K ops l e H = some (envS (seqA T K ops l e H), H')) (hf : Fr (envS (seqA T K ops l e H)) n fs) : Rg T K ops l e H n fs H' := ⟨_, h, hf⟩

theorem seqA_append {ops : Array Oper} : ∀ {l r : List Nat} {e e1 : Env} {H H1 : AHeap} {q : Option (Env × AHeap)}, seqA T K ops l e H = some (e1, H1) → seqA T K ops r e1 H1 = q → seqA T K ops (l ++ r) e H = q
  | [], r, e, e1, H, H1, q, h, h' => by simp [seqA] at h; obtain ⟨rfl, rfl⟩ := h; exact h'
  | i :: l, r, e, e1, H, H1, q, h, h' => by
    simp only [List.cons_append, seqA] at h ⊢
    split at h
    · rename_i e2 H2 h2
      exact seqA_append h h'
    · cases h

theorem Rg.append {ops : Array Oper} {l r : List Nat} {e : Env} {H H1 H2 : AHeap} {n m : Nat} {fs gs : List (Nat × Value)} (h : Rg T K ops l e H n fs H1) (h' : ∀ z, Rg T K ops r (mkE n fs z) H1 m gs H2) : Rg T K ops (l ++ r) e H m gs H2 := by
  obtain ⟨e1, h1, hf⟩ := h
  rw [hf.eq] at h1
  obtain ⟨e2, h2, hg⟩ := h' _
  exact ⟨e2, seqA_append h1 h2, hg⟩

theorem Rg.one {ops : Array Oper} {i : Nat} {e e1 : Env} {H H1 : AHeap} {n : Nat} {fs : List (Nat × Value)} (h : stepA T K ops i e H = some (e1, H1)) (hf : Fr e1 n fs) : Rg T K ops [i] e H n fs H1 := by
  refine ⟨e1, ?_, hf⟩
  simp only [seqA, h]

theorem Fr.weak {e : Env} {n : Nat} {fs gs : List (Nat × Value)} (h : Fr e n fs) (hg : Sl e gs) : Fr e n gs := ⟨h.size, hg⟩

theorem stepA_of {ops : Array Oper} {i : Nat} {e : Env} {H H' : AHeap} {o : Oper} {v : Value} (ho : ops[i]? = some o) (hg : o.guard = none) (hop : opA T H (evA e) o = some (.val v, H')) :
    stepA T K ops i e H = some (putA e o.dst v, H') := by
  unfold stepA
  rw [ho]
  have hw : Region.wanted o (yielded ops e) = true := by unfold Region.wanted; rw [hg]
  simp only [hw, cond_true, hop]

theorem stepA_skip {ops : Array Oper} {i : Nat} {e : Env} {H H' : AHeap} {o : Oper} (ho : ops[i]? = some o) (hg : o.guard = none) (hop : opA T H (evA e) o = some (.skip, H')) :
    stepA T K ops i e H = some (putA e o.dst undef, H') := by
  unfold stepA
  rw [ho]
  have hw : Region.wanted o (yielded ops e) = true := by unfold Region.wanted; rw [hg]
  simp only [hw, cond_true, hop]

theorem stepA_call {ops : Array Oper} {i : Nat} {e : Env} {H H1 H' : AHeap} {o : Oper} {v : Value} {f : FuncId} {args : List Value} (ho : ops[i]? = some o) (hg : o.guard = none) (hop : opA T H (evA e) o = some (.enter f args, H1))
    (hk : K f args H1 = some (v, H')) : stepA T K ops i e H = some (putA e o.dst v, H') := by
  unfold stepA
  rw [ho]
  have hw : Region.wanted o (yielded ops e) = true := by unfold Region.wanted; rw [hg]
  simp only [hw, cond_true, hop, hk]

section
variable {ev : Operand → Value} {dst : Option Tmp} {ty : TypeId} {pos : String} {after : Array Edge} {g : Option (Nat × Bool)} {H H' : AHeap} {t tx e : TypeId} {x y : Operand} {r : Value}

theorem opA_append (hu : T.und tx = some (.slice e)) (h : appendA T H t tx (ev x) (ev y) = some (r, H')) : opA T H ev ⟨dst, .call ⟨.builtin .append, #[x, y], #[t, tx]⟩, ty, pos, after, g⟩ = some (.val r, H') := by
  have h1 : valA T ev ⟨dst, .call ⟨.builtin .append, #[x, y], #[t, tx]⟩, ty, pos, after, g⟩ = none := rfl
  have h2 : readA T H ev ⟨dst, .call ⟨.builtin .append, #[x, y], #[t, tx]⟩, ty, pos, after, g⟩ = none := rfl
  unfold opA
  rw [h1, h2]
  simp only [effA]
  rw [hu]
  simp only [h]

theorem opA_load (h : loadV T H t (ev x) = some r) : opA T H ev ⟨dst, .load t x, ty, pos, after, g⟩ = some (.val r, H) := by
  have h1 : valA T ev ⟨dst, .load t x, ty, pos, after, g⟩ = none := rfl
  unfold opA
  rw [h1]
  simp only [readA, h]

theorem opA_slice {lo hi mx : Option Operand} (h1 : valA T ev ⟨dst, .slice t x lo hi mx, ty, pos, after, g⟩ = none) (h : sliceA T H t (ev x) (lo.map ev) (hi.map ev) (mx.map ev) = some r) : opA T H ev ⟨dst, .slice t x lo hi mx, ty, pos, after, g⟩ = some (.val r, H) := by
  unfold opA
  rw [h1]
  simp only [readA, h]

theorem opA_store (h : storeA T H t (ev x) (ev y) = some H') : opA T H ev ⟨dst, .store t x y, ty, pos, after, g⟩ = some (.skip, H') := by
  have h1 : valA T ev ⟨dst, .store t x y, ty, pos, after, g⟩ = none := rfl
  have h2 : readA T H ev ⟨dst, .store t x y, ty, pos, after, g⟩ = none := rfl
  unfold opA
  rw [h1, h2]
  simp only [effA, h]

theorem opA_val {o : Oper} (h : valA T ev o = some r) : opA T H ev o = some (.val r, H) := by
  unfold opA
  rw [h]
end

/-! A region in any order, of which nothing is to be looked at again. -/
theorem traceA_of {ops : Array Oper} : ∀ {l : List Nat} {e e1 : Env} {H H1 : AHeap}, seqA T K ops l e H = some (e1, H1) → ∃ tr, traceA T K ops l e H = some tr ∧ tr.getLast? = some (e1, H1) := by
  intro l
  induction l with
  | nil => intro e e1 H H1 h; simp [seqA] at h; obtain ⟨rfl, rfl⟩ := h; exact ⟨_, rfl, rfl⟩
  | cons i r ih =>
    intro e e1 H H1 h
    simp only [seqA] at h
    split at h
    · rename_i e2 H2 h2
      obtain ⟨tr, h3, h4⟩ := ih h
      refine ⟨(e, H) :: tr, ?_, ?_⟩
      · simp only [traceA, h2, h3]
      · cases tr with
        | nil => simp at h4
        | cons a b => rw [List.getLast?_cons_cons]; exact h4
    · cases h

theorem drawA_of {pl : Plan} {ops : Array Oper} {e e1 : Env} {H H1 : AHeap} (hp : pl.pairs = []) (hn : pl.news = []) (h : seqA T K ops (List.range ops.size) e H = some (e1, H1)) : drawA T K pl ops e H = some (e1, H1) := by
  obtain ⟨tr, h1, h2⟩ := traceA_of h
  unfold drawA
  rw [h1]
  simp [hp, hn, h2]

/-- The code comes to this, in a frame of which so much is known. -/
def EvF (T : Tab) (K : Kall) (f : FuncId) (m : Md) (c : Code) (e : Env) (H : AHeap) (ax : AX) (n : Nat) (fs : List (Nat × Value)) (H' : AHeap) : Prop := ∃ e', Ev T K f m c e H (ax, e', H') ∧ Fr e' n fs

section
variable {f : FuncId} {x y c body : Code} {e : Env} {H H1 H2 : AHeap} {ax : AX} {n k : Nat} {fs gs : List (Nat × Value)} {m : Md}

theorem EvF.seq (h : EvF T K f .plain x e H .normal n fs H1) (h' : ∀ z, EvF T K f .plain y (mkE n fs z) H1 ax k gs H2) : EvF T K f .plain (.seq x y) e H ax k gs H2 := by
  obtain ⟨e1, h1, hf⟩ := h
  obtain ⟨e2, h2, hg⟩ := h' (fun j => e1.getD j undef)
  rw [← hf.eq] at h2
  exact ⟨e2, h1.seq h2, hg⟩

theorem EvF.out (h : EvF T K f .plain x e H ax n fs H1) (hn : ax ≠ .normal) : EvF T K f .plain (.seq x y) e H ax n fs H1 := by
  obtain ⟨e1, h1, hf⟩ := h
  exact ⟨e1, h1.out hn, hf⟩

theorem EvF.reg {id : Nat} {ops : Array Oper} (h : Rg T K ops (List.range ops.size) e H n fs H1) : EvF T K f .plain (.region id ops false) e H .normal n fs H1 := by
  obtain ⟨e1, h1, hf⟩ := h
  exact ⟨e1, Ev.region h1, hf⟩

theorem EvF.draw {id : Nat} {ops : Array Oper} {pl : Plan} (hp : T.plan f id = some pl) (h1 : pl.pairs = []) (h2 : pl.news = []) (h : Rg T K ops (List.range ops.size) e H n fs H1) : EvF T K f .plain (.region id ops true) e H .normal n fs H1 := by
  obtain ⟨e1, h3, hf⟩ := h
  exact ⟨e1, Ev.draw hp (drawA_of h1 h2 h3), hf⟩

theorem EvF.true {v : Operand} (hv : evA e v = .bool true) (h : EvF T K f .plain x e H ax n fs H1) : EvF T K f .plain (.cond v x y) e H ax n fs H1 := by
  obtain ⟨e1, h1, hf⟩ := h
  exact ⟨e1, Ev.true hv h1, hf⟩

theorem EvF.false {v : Operand} (hv : evA e v = .bool false) (h : EvF T K f .plain y e H ax n fs H1) : EvF T K f .plain (.cond v x y) e H ax n fs H1 := by
  obtain ⟨e1, h1, hf⟩ := h
  exact ⟨e1, Ev.false hv h1, hf⟩

theorem EvF.block {id : Nat} (h : EvF T K f .plain x e H (.exit id) n fs H1) : EvF T K f .plain (.block id x) e H .normal n fs H1 := by
  obtain ⟨e1, h1, hf⟩ := h
  exact ⟨e1, Ev.block h1, hf⟩

theorem EvF.block' {id : Nat} (h : EvF T K f .plain x e H ax n fs H1) (hn : ∀ i, ax ≠ .exit i) : EvF T K f .plain (.block id x) e H ax n fs H1 := by
  obtain ⟨e1, h1, hf⟩ := h
  exact ⟨e1, Ev.block' h1 hn, hf⟩

theorem EvF.loop (h : EvF T K f (.loop x) x e H ax n fs H1) : EvF T K f .plain (.loop x) e H ax n fs H1 := by
  obtain ⟨e1, h1, hf⟩ := h
  exact ⟨e1, Ev.loop h1, hf⟩

theorem EvF.round (h : EvF T K f .plain c e H .normal n fs H1) (h' : ∀ z, EvF T K f (.loop body) body (mkE n fs z) H1 ax k gs H2) : EvF T K f (.loop body) c e H ax k gs H2 := by
  obtain ⟨e1, h1, hf⟩ := h
  obtain ⟨e2, h2, hg⟩ := h' (fun j => e1.getD j undef)
  rw [← hf.eq] at h2
  exact ⟨e2, Ev.round h1 h2, hg⟩

theorem EvF.leave (h : EvF T K f .plain c e H ax n fs H1) (hn : ax ≠ .normal) : EvF T K f (.loop body) c e H ax n fs H1 := by
  obtain ⟨e1, h1, hf⟩ := h
  exact ⟨e1, Ev.leave h1 hn, hf⟩

theorem mkE_size (n : Nat) (fs : List (Nat × Value)) (z : Nat → Value) : (mkE n fs z).size = n := by simp [mkE]

theorem EvF.same {ax : AX} (h : Ev T K f .plain c e H (ax, e, H)) (hf : Fr e n fs) : EvF T K f .plain c e H ax n fs H := ⟨e, h, hf⟩

theorem EvF.weak (h : EvF T K f m c e H ax n fs H1) (hw : ∀ z, Sl (mkE n fs z) gs) : EvF T K f m c e H ax n gs H1 := by
  obtain ⟨e1, h1, hf⟩ := h
  refine ⟨e1, h1, hf.size, ?_⟩
  have := hw (fun j => e1.getD j undef)
  rw [← hf.eq] at this
  exact this

/-- Two ways that come to the same heap and known slots. -/
theorem EvF.heap {H1' : AHeap} (h : EvF T K f m c e H ax n fs H1) (hh : H1 = H1') : EvF T K f m c e H ax n fs H1' := hh ▸ h
end
end Go.AM
end

section
/- The abstract machine, part Y: calls that hold in a greater heap; a machine of some calls; regions with a plan, in the order of the text. -/
namespace Go.AM
variable {T : Tab} {K : Kall}

theorem MOk.extend {f : FuncId} {m : Memo} (h : MOk T f m) {HL HX : AHeap} (hsub : Sub' m.H HL) (hn : HL.next = m.H.next) (hxn : HX.next = m.H'.next)
    (hx : ∀ b o, HX.get b = some o → m.H'.get b = some o ∨ (m.H'.get b = none ∧ m.H.get b = none ∧ HL.get b = some o)) : MOk T f ⟨m.args, HL, m.v, HX⟩ := by
  constructor
  · show HL.next ≤ HX.next
    rw [hn, hxn]; exact h.next
  · intro γ w args' hr hf hl
    have s0 : StepT T γ HL w γ m.H w := Step.drop hr hn.symm hsub
    have hf' : Free γ m.H.next m.H'.next := by
      have : Free γ HL.next HX.next := hf
      rw [hn, hxn] at this
      exact this
    refine (h.ok γ w args' s0.hr hf' hl).mono ?_
    rintro e w' ⟨γ', v', rfl, hv, hs⟩
    obtain ⟨H0, e1, e2⟩ := over HX.next m.H' m.H HL
    obtain ⟨q1, q2, q3⟩ := Step.extend hr hsub hs e2
    have st : StepT T γ HL w γ' H0 w' := {
      le := by rw [e1, hn, hxn]; exact h.next
      agree := fun b hb => hs.agree b (by rw [e1, hn, hxn] at hb; exact hb)
      sub := hs.sub
      hr := q1
      frame := q2
      fresh := q3
      size := hs.size
      os := hs.os
      output := hs.output
      tape := hs.tape }
    exact ⟨γ', v', rfl, hv, st.trans (Step.drop st.hr e1.symm fun b o hb => (e2 b o).2 (hx b o hb))⟩

/-- What is kept of the heap behind a call may be less. -/
theorem MOk.less {f : FuncId} {args : List Value} {H H' H'' : AHeap} {v : Value} (h : MOk T f ⟨args, H, v, H'⟩) (hn : H''.next = H'.next) (hx : Sub' H'' H') : MOk T f ⟨args, H, v, H''⟩ := by
  constructor
  · show H.next ≤ H''.next
    rw [hn]; exact h.next
  · intro γ w args' hr hf hl
    refine (h.ok γ w args' hr (by have : Free γ H.next H''.next := hf
                                  rw [hn] at this; exact this) hl).mono ?_
    rintro e w' ⟨γ', v', rfl, hv, hs⟩
    exact ⟨γ', v', rfl, hv, hs.trans (Step.drop hs.hr hn hx)⟩

open Classical in
/-- A machine that knows one call more. -/
noncomputable def kIf (f0 : FuncId) (m : Memo) (K : Kall) : Kall := fun f args H => if f = f0 ∧ args = m.args ∧ H = m.H then some (m.v, m.H') else K f args H

theorem kIf_ok {f0 : FuncId} {m : Memo} (h : MOk T f0 m) (hK : KOk T K) : KOk T (kIf f0 m K) := by
  constructor
  · intro f args H v H' hk
    unfold kIf at hk
    split at hk
    · rename_i hc
      obtain ⟨rfl, rfl, rfl⟩ := hc
      cases hk
      exact h.next
    · exact hK.next _ _ _ _ _ hk
  · intro f args H v H' hk γ w args' hr hf hl
    unfold kIf at hk
    split at hk
    · rename_i hc
      obtain ⟨rfl, rfl, rfl⟩ := hc
      cases hk
      exact h.ok γ w args' hr hf hl
    · exact hK.ok _ _ _ _ _ hk γ w args' hr hf hl

theorem kIf_hit (f0 : FuncId) (m : Memo) (K : Kall) : kIf f0 m K f0 m.args m.H = some (m.v, m.H') := if_pos ⟨rfl, rfl, rfl⟩
theorem kIf_miss {f0 f : FuncId} {m : Memo} {args : List Value} {H : AHeap} (h : f ≠ f0) : kIf f0 m K f args H = K f args H := if_neg fun q => h q.1

theorem traceA_cons {ops : Array Oper} {i : Nat} {l : List Nat} {e e1 : Env} {H H1 : AHeap} {tr : List (Env × AHeap)} (h : stepA T K ops i e H = some (e1, H1)) (h' : traceA T K ops l e1 H1 = some tr) : traceA T K ops (i :: l) e H = some ((e, H) :: tr) := by
  simp only [traceA, h, h']

theorem drawA_tr {pl : Plan} {ops : Array Oper} {e e1 : Env} {H H1 : AHeap} {tr : List (Env × AHeap)} (ht : traceA T K ops (List.range ops.size) e H = some tr) (hp : ∀ p ∈ pl.pairs, chkPair T ops tr p = true)
    (hn : ∀ p ∈ pl.news, chkNew tr p = true) (hl : tr.getLast? = some (e1, H1)) : drawA T K pl ops e H = some (e1, H1) := by
  unfold drawA
  rw [ht]
  simp only [List.all_eq_true.2 hp, List.all_eq_true.2 hn, Bool.and_self, cond_true, hl]

theorem chkPair_of {ops : Array Oper} {tr : List (Env × AHeap)} {i s : Nat} {o : Oper} {e e2 : Env} {H H2 : AHeap} {v : Value} (ho : ops[i]? = some o) (hi : tr[i]? = some (e, H)) (hs : tr[s]? = some (e2, H2))
    (h1 : readA T H2 (evA e) o = some v) (h2 : readA T H (evA e) o = some v) (hv : veq 4 v v = true) : chkPair T ops tr (i, s) = true := by
  unfold chkPair
  simp only [ho, hi, hs, h1, h2, hv]
  cases Region.wanted o (yielded ops e) with
  | false => rfl
  | true =>
    simp only [cond_true]
    cases valA T (evA e) o <;> rfl

theorem chkNew_of {tr : List (Env × AHeap)} {i j : Nat} {e e2 : Env} {H H2 : AHeap} (hi : tr[i]? = some (e, H)) (hj : tr[j]? = some (e2, H2)) (h : H.get H2.next = none) : chkNew tr (i, j) = true := by
  unfold chkNew
  simp only [hi, hj, h]

theorem stepA_of' {ops : Array Oper} {i : Nat} {e : Env} {H H' : AHeap} {o : Oper} {v : Value} (ho : ops[i]? = some o) (hw : Region.wanted o (yielded ops e) = true) (hop : opA T H (evA e) o = some (.val v, H')) :
    stepA T K ops i e H = some (putA e o.dst v, H') := by
  unfold stepA
  rw [ho]
  simp only [hw, cond_true, hop]

section
variable {ev : Operand → Value} {dst : Option Tmp} {ty : TypeId} {pos : String} {after : Array Edge} {g : Option (Nat × Bool)} {H H' : AHeap} {t tx e src : TypeId} {x y : Operand} {r : Value}

theorem readA_text (hu : T.und t = some .string) (h : textA T H src t (ev x) = some r) : readA T H ev ⟨dst, .convert src t x, ty, pos, after, g⟩ = some r := by
  simp only [readA, hu, h]

theorem opA_text (h1 : valA T ev ⟨dst, .convert src t x, ty, pos, after, g⟩ = none) (hu : T.und t = some .string) (h : textA T H src t (ev x) = some r) : opA T H ev ⟨dst, .convert src t x, ty, pos, after, g⟩ = some (.val r, H) := by
  unfold opA
  rw [h1]
  simp only [readA_text hu h]

theorem opA_bytes (h1 : valA T ev ⟨dst, .convert src t x, ty, pos, after, g⟩ = none) (h2 : readA T H ev ⟨dst, .convert src t x, ty, pos, after, g⟩ = none) (hst : Nat.beq src t = false) (h : bytesA T H src t (ev x) = some (r, H')) :
    opA T H ev ⟨dst, .convert src t x, ty, pos, after, g⟩ = some (.val r, H') := by
  unfold opA
  rw [h1]
  simp only [h2, effA, hst, cond_false, h]

theorem opA_call {f : FuncId} {fn : Func} {args : Array Operand} {ts : Array TypeId} (he : T.ext f = none) (hf : T.fn f = some fn) (hx : ev (.func f) = .func (.func f) #[] #[]) :
    opA T H ev ⟨dst, .call ⟨.value (.func f), args, ts⟩, ty, pos, after, g⟩ = some (.enter f (args.toList.map ev), H) := by
  have h1 : valA T ev ⟨dst, .call ⟨.value (.func f), args, ts⟩, ty, pos, after, g⟩ = none := rfl
  have h2 : readA T H ev ⟨dst, .call ⟨.value (.func f), args, ts⟩, ty, pos, after, g⟩ = none := rfl
  unfold opA
  rw [h1]
  simp only [h2, effA, hx, enterA, he, hf]
  simp
end
end Go.AM
end

