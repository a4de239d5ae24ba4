/- A part of the proof that WorldHarms answers true at every input: the abstract machine: steps, regions and calls. -/
import Derived.Test.YthokedjmopgdmaaGreatDoorAm3
set_option linter.all false
section
/- The abstract machine, part K: one operation of a region, in a frame. -/
namespace Go.AM
variable {T : Tab}

abbrev Env := Array Value

def evA (env : Env) (x : Operand) : Value := Act.eval ⟨env, []⟩ x

theorem eval_env (a : Act) (x : Operand) : a.eval x = evA a.tmps x := by cases x <;> rfl

/-- Operands that are what they are in every world. -/
def operandOk (G : Nat) : Operand → Bool
  | .tmp _ => true
  | .const v => flat 3 v
  | .global g => Nat.blt g G
  | .func _ => true

theorem undef_rel {γ : Gam} : VR γ undef undef := .tuple rfl (fun i h => by simp at h)

theorem VA.getD {γ : Gam} {c c' : Array Value} (h : VA γ c c') (i : Nat) : VR γ (c.getD i undef) (c'.getD i undef) := by
  unfold Array.getD
  by_cases hi : i < c.size
  · have hi' : i < c'.size := h.1 ▸ hi
    rw [dif_pos hi, dif_pos hi']
    exact h.2 i hi hi'
  · have hi' : ¬ i < c'.size := h.1 ▸ hi
    rw [dif_neg hi, dif_neg hi']
    exact undef_rel

theorem ev_ok {γ : Gam} {H : AHeap} {w : World} (h : HRT T γ H w) {env env' : Env} (he : VA γ env env') {x : Operand} (hx : operandOk T.G x = true) : VR γ (evA env x) (evA env' x) := by
  cases x with
  | tmp t => exact he.getD t
  | const v => exact flat_refl hx
  | global g =>
    have hg : g < T.G := by simpa [operandOk] using hx
    obtain ⟨A, h1, h2, h3⟩ := h.glob g hg
    have := VR.ptr (γ := γ) (b := g) (o := 0) (A := A) h1
    rw [h2, h3] at this
    exact this
  | func f => exact .func rfl (fun i h => by simp at h) rfl (fun i h => by simp at h)

def operOk (G : Nat) (o : Oper) : Bool := o.op.operands.toList.all (operandOk G)

def putA (env : Env) (dst : Option Tmp) (v : Value) : Env :=
  match dst with
  | some d => env.setIfInBounds d v
  | none => env

theorem put_rel {γ : Gam} {env env' : Env} (h : VA γ env env') {v v' : Value} (hv : VR γ v v') (d : Option Tmp) : VA γ (putA env d v) (putA env' d v') := by
  cases d with
  | none => exact h
  | some d => exact h.set hv d

theorem put_tmps (a : Act) (d : Option Tmp) (v : Value) : (a.put d v).tmps = putA a.tmps d v := by cases d <;> rfl
theorem put_defers' (a : Act) (d : Option Tmp) (v : Value) : (a.put d v).defers = a.defers := by cases d <;> rfl

theorem yield_rel {γ : Gam} {env env' : Env} (h : VA γ env env') (ops : Array Oper) (j : Nat) : yielded ops env' j = yielded ops env j := by
  unfold yielded
  cases hd : (ops[j]?).bind (·.dst) with
  | none => rfl
  | some d =>
    simp only [Option.bind_some]
    cases hv : env[d]? with
    | none =>
      have : env'[d]? = none := by
        rw [Array.getElem?_eq_none_iff] at hv ⊢
        rw [← h.1]; exact hv
      rw [this]
    | some v =>
      obtain ⟨v', h1, h2⟩ := h.getElem? hv
      rw [h1]
      cases h2 <;> rfl

/-- A call of a function, by a machine. -/
abbrev Kall := FuncId → List Value → AHeap → Option (Value × AHeap)

structure KOk (T : Tab) (K : Kall) : Prop where
  next : ∀ f args H v H', K f args H = some (v, H') → H.next ≤ H'.next
  ok : ∀ f args H v H', K f args H = some (v, H') → ∀ γ w (args' : Array Value), HRT T γ H w → Free γ H.next H'.next → VL γ args args'.toList →
    Calls T.P f args' w fun e w' => ∃ γ' v', e = .returned v' ∧ VR γ' v v' ∧ StepT T γ H w γ' H' w'

def opA (T : Tab) (H : AHeap) (ev : Operand → Value) (o : Oper) : Option (AN × AHeap) :=
  match valA T ev o with
  | some v => some (.val v, H)
  | none => match readA T H ev o with
    | some v => some (.val v, H)
    | none => effA T H ev o

theorem opA_ok (hT : T.Ok) (hC : T.Calls) {γ : Gam} {H H' : AHeap} {w : World} (h : HRT T γ H w) {ev ev' : Operand → Value} {o : Oper} {an : AN} (hr : opA T H ev o = some (an, H')) (hf : Free γ H.next H'.next) (he : ∀ x ∈ o.op.operands, VR γ (ev x) (ev' x)) :
    ∃ γ' nx w', (execOp ev' o).run T.P w = .ok nx w' ∧ NR γ' an nx ∧ StepT T γ H w γ' H' w' := by
  unfold opA at hr
  cases hv : valA T ev o with
  | some v =>
    rw [hv] at hr; cases hr
    obtain ⟨v', h1, h2⟩ := valA_ok hT hv he w
    exact ⟨γ, _, w, h1, .val h2, Step.refl h⟩
  | none =>
    rw [hv] at hr
    cases hrd : readA T H ev o with
    | some v =>
      simp only [hrd] at hr; cases hr
      obtain ⟨v', h1, h2⟩ := readA_ok hT h hrd he
      exact ⟨γ, _, w, h1, .val h2, Step.refl h⟩
    | none =>
      simp only [hrd] at hr
      exact effA_ok hT hC h hr hf he

theorem st1_next {H H' : AHeap} {b o : Nat} {v : Value} (h : st1 H b o v = some H') : H'.next = H.next := by
  unfold st1 at h
  split at h
  · rename_i c e st hb
    cases hq : (Nat.blt o c.length && one v) with
    | false => rw [hq] at h; cases h
    | true => rw [hq] at h; cases h; rfl
  · cases h

theorem stN_next : ∀ (vs : List Value) {H H' : AHeap} {b o : Nat}, stN H b o vs = some H' → H'.next = H.next := by
  intro vs
  induction vs with
  | nil => intro H H' b o h; simp [stN] at h; rw [h]
  | cons v r ih =>
    intro H H' b o h
    simp only [stN] at h
    cases h1 : st1 H b o v with
    | none => rw [h1] at h; cases h
    | some H1 => rw [h1] at h; rw [ih h, st1_next h1]

theorem stX_next : ∀ (vs : List Value) {H H' : AHeap} {b o : Nat}, stX H b o vs = some H' → H'.next = H.next := by
  intro vs
  induction vs with
  | nil => intro H H' b o h; simp [stX] at h; rw [h]
  | cons v r ih =>
    intro H H' b o h
    simp only [stX] at h
    cases h1 : st1X H b o v with
    | none => rw [h1] at h; cases h
    | some H1 =>
      rw [h1] at h
      rw [ih h]
      unfold st1X at h1
      split at h1
      · rename_i c e st hb
        revert h1
        generalize (Nat.beq o c.length && one v && !st.ex) = q
        cases q with
        | false => intro h1; exact st1_next h1
        | true => intro h1; cases h1; rfl
      · cases h1

theorem storeA_next {H H' : AHeap} {t : TypeId} {a v : Value} (h : storeA T H t a v = some H') : H'.next = H.next := by
  unfold storeA at h
  split at h
  · rename_i b o i hi
    cases hq : Nat.beq v.cells.size i.size with
    | false => rw [hq] at h; cases h
    | true => rw [hq] at h; exact stN_next _ h
  · cases h

theorem updA_next {H H' : AHeap} {t : TypeId} {m k v : Value} (h : updA T H t m k v = some H') : H'.next = H.next := by
  unfold updA at h
  split at h
  · split at h
    · rename_i es clock hb
      cases hq : flat 2 k with
      | false => rw [hq] at h; cases h
      | true =>
        rw [hq] at h
        simp only [cond_true] at h
        split at h
        · rename_i i v0 _ _
          cases hs : Instr.sameBits 10000 (((es[i]?).map (·.key)).getD k) k with
          | false => rw [hs] at h; cases h
          | true => rw [hs] at h; cases h; rfl
        · cases h; rfl
        · cases h
    · cases h
  · cases h

theorem growA_next {H H' : AHeap} {e : TypeId} {n bytes : Nat} {l : List Value} {r : Value} (h : growA H e bytes l n = some (r, H')) : H.next ≤ H'.next := by
  unfold growA at h
  cases hq : (Nat.ble (n * bytes) 1000000000 && Nat.ble n 1000000000) with
  | false => rw [hq] at h; cases h
  | true => rw [hq] at h; cases h; simp [AHeap.next_new]

theorem appendA_next {H H' : AHeap} {t tx : TypeId} {x y r : Value} (h : appendA T H t tx x y = some (r, H')) : H.next ≤ H'.next := by
  unfold appendA at h
  split at h
  · split at h
    · rename_i i hi
      split at h
      · rename_i k news hs
        split at h
        · cases hk : Nat.beq k 0 with
          | true => rw [hk] at h; cases h; exact Nat.le_refl _
          | false =>
            rw [hk] at h; simp only [cond_false] at h
            cases hz : zeroFits i with
            | false => rw [hz] at h; cases h
            | true => rw [hz] at h; exact growA_next h
        · rename_i b o n c
          cases hk : Nat.beq k 0 with
          | true => rw [hk] at h; cases h; exact Nat.le_refl _
          | false =>
            rw [hk] at h; simp only [cond_false] at h
            cases hr : (Nat.blt c U && Nat.ble (n + k) c) with
            | true =>
              rw [hr] at h; simp only [cond_true] at h
              split at h
              · rename_i H1 hs1; cases h; rw [stN_next _ hs1]; exact Nat.le_refl _
              · cases h
            | false =>
              rw [hr] at h; simp only [cond_false] at h
              split at h
              · cases hz : zeroFits i with
                | false => rw [hz] at h; cases h
                | true =>
                  rw [hz] at h; simp only [cond_true] at h
                  cases hc : Nat.blt c U with
                  | true => rw [hc] at h; exact growA_next h
                  | false =>
                    rw [hc] at h; simp only [cond_false] at h
                    split at h
                    · rename_i c0 e' st hb
                      generalize (Nat.beq e' _ && Nat.ble ((n + k) * i.bytes) 1000000000 && Nat.ble (n + k) 1000000000) = q at h
                      cases q <;> cases h
                      simp [AHeap.next_new, AHeap.next_put]
                    · cases h
              · cases h
        · cases h
      · cases h
    · cases h
  · cases h

theorem copyA_next {H H' : AHeap} {t : TypeId} {x y r : Value} (h : copyA T H t x y = some (r, H')) : H'.next = H.next := by
  unfold copyA at h
  split at h
  · split at h
    · split at h
      · split at h
        · rename_i H1 hs; cases h; exact stN_next _ hs
        · split at h
          · rename_i H1 hs
            cases h
            unfold stE at hs
            split at hs
            · rename_i e' st hb
              revert hs
              generalize Nat.beq e' _ = q
              cases q with
              | false => intro hs; cases hs
              | true => intro hs; exact stX_next _ hs
            · cases hs
          · cases h
      · cases h
    · cases h
  · split at h
    · cases h; rfl
    · cases h
  · split at h
    · cases h; rfl
    · cases h
  · cases h

theorem buildSliceA_next {H H' : AHeap} {t : TypeId} {len : Nat} {ps : List (Nat × Value)} {r : Value} (h : buildSliceA T H t len ps = some (r, H')) : H.next ≤ H'.next := by
  unfold buildSliceA rowA at h
  split at h
  · split at h
    · rename_i i z hi hz
      cases hq : Nat.ble (len * i.size) 1000 with
      | false => rw [hq] at h; cases h
      | true =>
        rw [hq] at h; simp only [cond_true] at h
        split at h
        · rw [hi] at h; cases h; simp [AHeap.next_new]
        · cases h
    · cases h
  · cases h

theorem enterA_next {H H' : AHeap} {g : FuncId} {args : List Value} {an : AN} (h : enterA T H g args = some (an, H')) : H'.next = H.next := by
  unfold enterA at h
  split at h
  · cases hf : flats args with
    | false => rw [hf] at h; cases h
    | true =>
      rw [hf] at h; simp only [cond_true] at h
      split at h
      · cases h; rfl
      · cases h
  · split at h
    · cases h; rfl
    · cases hsm : T.same g with
      | false => rw [hsm] at h; cases h
      | true =>
        rw [hsm] at h
        simp only [cond_true] at h
        split at h
        · cases h; rfl
        · cases h

theorem effA_next {H H' : AHeap} {ev : Operand → Value} {o : Oper} {an : AN} (h : effA T H ev o = some (an, H')) : H.next ≤ H'.next := by
  obtain ⟨dst, op, type, pos, after, guard⟩ := o
  unfold effA at h
  simp only at h
  split at h
  · rename_i e
    cases hb : allocA T H e with
    | none => rw [hb] at h; cases h
    | some r => rw [hb] at h; cases h; have := allocA_new hb; omega
  · rename_i e x
    cases hb : boxA T H e (ev x) with
    | none => rw [hb] at h; cases h
    | some r => rw [hb] at h; cases h; have := boxA_new hb; omega
  · rename_i t len ps
    cases hb : buildSliceA T H t len (ps.toList.map fun p => (p.1, ev p.2)) with
    | none => rw [hb] at h; cases h
    | some r => rw [hb] at h; cases h; exact buildSliceA_next hb
  · rename_i t a x
    cases hb : storeA T H t (ev a) (ev x) with
    | none => rw [hb] at h; cases h
    | some r => rw [hb] at h; cases h; have := storeA_next hb; omega
  · cases h; simp [makeMapA, AHeap.next_new]
  · rename_i t l c
    cases hb : makeSliceA T H t (ev l) (ev c) with
    | none => rw [hb] at h; cases h
    | some r => rw [hb] at h; cases h; have := makeSliceA_new hb; omega
  · rename_i t m k x
    cases hb : updA T H t (ev m) (ev k) (ev x) with
    | none => rw [hb] at h; cases h
    | some r => rw [hb] at h; cases h; have := updA_next hb; omega
  · rename_i t m k x
    cases hb : updA T H t (ev m) (ev k) (ev x) with
    | none => rw [hb] at h; cases h
    | some r => rw [hb] at h; cases h; have := updA_next hb; omega
  · rename_i src dst x
    cases hsd : Nat.beq src dst with
    | true =>
      rw [hsd] at h
      simp only [cond_true] at h
      cases hb : markA T H src (ev x) with
      | none => rw [hb] at h; cases h
      | some r => rw [hb] at h; cases h; have := markA_next hb; omega
    | false =>
    rw [hsd] at h
    simp only [cond_false] at h
    cases hb : bytesA T H src dst (ev x) with
    | none => rw [hb] at h; cases h
    | some r => rw [hb] at h; cases h; have := bytesA_new hb; omega
  · split at h
    · rename_i x y t tx _ _
      split at h
      · cases hb : appendZA T H t tx (ev x) (ev y) with
        | none => rw [hb] at h; cases h
        | some r => rw [hb] at h; cases h; have := appendZA_next hb; omega
      cases hb : appendA T H t tx (ev x) (ev y) with
      | none => rw [hb] at h; cases h
      | some r => rw [hb] at h; cases h; exact appendA_next hb
    · cases h
  · split at h
    · rename_i x y t tx _ _
      cases hb : copyA T H t (ev x) (ev y) with
      | none => rw [hb] at h; cases h
      | some r => rw [hb] at h; cases h; have := copyA_next hb; omega
    · cases h
  · split at h
    · rename_i x y t tx _ _
      cases hb : unsafeStrA T H t (ev x) (ev y) with
      | none => rw [hb] at h; cases h
      | some r => rw [hb] at h; cases h; have := unsafeStrA_next hb; omega
    · cases h
  · split at h
    · have := enterA_next h; omega
    · cases h
  · split at h
    · split at h
      · have := enterA_next h; omega
      · cases h
    · cases h
  · cases h

theorem opA_next {H H' : AHeap} {ev : Operand → Value} {o : Oper} {an : AN} (h : opA T H ev o = some (an, H')) : H.next ≤ H'.next := by
  unfold opA at h
  split at h
  · cases h; exact Nat.le_refl _
  · split at h
    · cases h; exact Nat.le_refl _
    · exact effA_next h

/-- One operation of a region. -/
def stepA (T : Tab) (K : Kall) (ops : Array Oper) (i : Nat) (env : Env) (H : AHeap) : Option (Env × AHeap) :=
  match ops[i]? with
  | none => some (env, H)
  | some o => cond (Region.wanted o (yielded ops env))
    (match opA T H (evA env) o with
      | some (.val v, H') => some (putA env o.dst v, H')
      | some (.skip, H') => some (putA env o.dst undef, H')
      | some (.enter f args, H') => match K f args H' with
        | some (v, H'') => some (putA env o.dst v, H'')
        | none => none
      | none => none)
    (some (putA env o.dst undef, H))

theorem stepA_next {K : Kall} (hK : KOk T K) {ops : Array Oper} {i : Nat} {env env' : Env} {H H' : AHeap} (h : stepA T K ops i env H = some (env', H')) : H.next ≤ H'.next := by
  unfold stepA at h
  split at h
  · cases h; exact Nat.le_refl _
  · rename_i o ho
    cases hw : Region.wanted o (yielded ops env) with
    | false => rw [hw] at h; cases h; exact Nat.le_refl _
    | true =>
      rw [hw] at h; simp only [cond_true] at h
      split at h
      · rename_i v H1 h1; cases h; exact opA_next h1
      · rename_i H1 h1; cases h; exact opA_next h1
      · rename_i f args H1 h1
        split at h
        · rename_i v H2 h2; cases h; exact Nat.le_trans (opA_next h1) (hK.next _ _ _ _ _ h2)
        · cases h
      · cases h

/-- What holds behind a part of a frame's work. -/
def Then (T : Tab) (γ : Gam) (H : AHeap) (w : World) (d : List Deferred) (env' : Env) (H' : AHeap) (a' : Act) (w' : World) : Prop :=
  a'.defers = d ∧ ∃ γ', VA γ' env' a'.tmps ∧ StepT T γ H w γ' H' w'

theorem stepA_ok (hT : T.Ok) (hC : T.Calls) {K : Kall} (hK : KOk T K) {Q : Exit → Act → World → Prop} {ops : Array Oper} {i : Nat} {env env' : Env} {H H' : AHeap} (h : stepA T K ops i env H = some (env', H'))
    {γ : Gam} {a : Act} {w : World} (hr : HRT T γ H w) (hf : Free γ H.next H'.next) (he : VA γ env a.tmps) (ho : ∀ o, ops[i]? = some o → operOk T.G o = true) :
    wpOp T.P ops Q i (Then T γ H w a.defers env' H') a w := by
  unfold stepA at h
  unfold wpOp
  cases hoi : ops[i]? with
  | none =>
    rw [hoi] at h; cases h
    exact ⟨rfl, γ, he, Step.refl hr⟩
  | some o =>
    rw [hoi] at h
    simp only at h ⊢
    have hy : yielded ops a.tmps = yielded ops env := funext fun j => yield_rel he ops j
    rw [hy]
    cases hw : Region.wanted o (yielded ops env) with
    | false =>
      rw [hw] at h; cases h
      simp only [Bool.false_eq_true, if_false]
      exact ⟨put_defers' _ _ _, γ, by rw [put_tmps]; exact put_rel he undef_rel _, Step.refl hr⟩
    | true =>
      rw [hw] at h
      simp only [cond_true] at h
      simp only [if_true]
      left
      unfold Oper.wp
      have hops : ∀ x ∈ o.op.operands, VR γ (evA env x) (a.eval x) := fun x hx => by
        rw [eval_env]
        refine ev_ok hr he ?_
        exact List.all_eq_true.1 (ho o hoi) x (by simpa using hx)
      split at h
      · rename_i v H1 h1
        cases h
        obtain ⟨γ', nx, w', g1, g2, g3⟩ := opA_ok hT hC hr h1 hf hops
        cases g2 with
        | val hv =>
          rw [g1, Oper.upon_value]
          exact ⟨put_defers' _ _ _, γ', by rw [put_tmps]; exact put_rel (he.mono g3.sub) hv _, g3⟩
      · rename_i H1 h1
        cases h
        obtain ⟨γ', nx, w', g1, g2, g3⟩ := opA_ok hT hC hr h1 hf hops
        cases g2
        rw [g1, Oper.upon_skip]
        exact ⟨put_defers' _ _ _, γ', by rw [put_tmps]; exact put_rel (he.mono g3.sub) undef_rel _, g3⟩
      · rename_i f args H1 h1
        split at h
        · rename_i v H2 h2
          cases h
          obtain ⟨γ', nx, w', g1, g2, g3⟩ := opA_ok hT hC hr h1 (hf.left (hK.next _ _ _ _ _ h2)) hops
          cases g2 with
          | enter hl =>
            rw [g1, Oper.upon_enter]
            refine (hK.ok f args H1 v _ h2 γ' w' _ g3.hr (hf.right g3) hl).mono ?_
            rintro e w'' ⟨γ'', v', rfl, q1, q2⟩
            exact ⟨put_defers' _ _ _, γ'', by rw [put_tmps]; exact put_rel ((he.mono g3.sub).mono q2.sub) q1 _, g3.trans q2⟩
        · cases h
      · cases h
end Go.AM
end

section
/- The abstract machine, part L: a region, in the order of the text, and in whatever order. -/
namespace Go.AM
variable {T : Tab}

def seqA (T : Tab) (K : Kall) (ops : Array Oper) : List Nat → Env → AHeap → Option (Env × AHeap)
  | [], env, H => some (env, H)
  | i :: r, env, H => match stepA T K ops i env H with
    | some (env', H') => seqA T K ops r env' H'
    | none => none

theorem seqA_next {K : Kall} (hK : KOk T K) {ops : Array Oper} : ∀ (l : List Nat) {env env' : Env} {H H' : AHeap}, seqA T K ops l env H = some (env', H') → H.next ≤ H'.next := by
  intro l
  induction l with
  | nil => intro env env' H H' h; simp [seqA] at h; rw [h.2]; exact Nat.le_refl _
  | cons i r ih =>
    intro env env' H H' h
    simp only [seqA] at h
    split at h
    · rename_i e1 H1 h1; exact Nat.le_trans (stepA_next hK h1) (ih h)
    · cases h

theorem seqA_ok (hT : T.Ok) (hC : T.Calls) {K : Kall} (hK : KOk T K) {Q : Exit → Act → World → Prop} {ops : Array Oper} (ho : ∀ (i : Nat) (o : Oper), ops[i]? = some o → operOk T.G o = true) : ∀ (l : List Nat) {env env' : Env} {H H' : AHeap},
    seqA T K ops l env H = some (env', H') → ∀ {γ : Gam} {a : Act} {w : World}, HRT T γ H w → Free γ H.next H'.next → VA γ env a.tmps → (∀ a' w', Then T γ H w a.defers env' H' a' w' → Q .normal a' w') → wpOps T.P ops Q l a w := by
  intro l
  induction l with
  | nil =>
    intro env env' H H' h γ a w hr hf he hq
    simp only [seqA, Option.some.injEq, Prod.mk.injEq] at h
    obtain ⟨rfl, rfl⟩ := h
    exact hq a w ⟨rfl, γ, he, Step.refl hr⟩
  | cons i r ih =>
    intro env env' H H' h γ a w hr hf he hq
    simp only [seqA] at h
    split at h
    · rename_i e1 H1 h1
      rw [wpOps_cons]
      have hle := seqA_next hK r h
      refine wpOp_mono ?_ (stepA_ok hT hC hK h1 hr (hf.left hle) he (ho i))
      rintro a' w' ⟨hd, γ1, hv, hs⟩
      refine ih h hs.hr (hf.right hs) hv ?_
      rintro a2 w2 ⟨hd2, γ2, hv2, hs2⟩
      exact hq a2 w2 ⟨hd2.trans hd, γ2, hv2, hs.trans hs2⟩
    · cases h

/-! In whatever order. -/
/-- 0: gives a value; 1: makes one block; 2: does something else. -/
def cls (T : Tab) (o : Oper) : Nat :=
  match o.op with
  | .alloc _ | .box .. | .buildSlice .. | .makeMap .. | .makeSlice .. => 1
  | .convert src dst _ => match T.und dst with
    | some (.slice _) => cond (Nat.beq src dst) 2 1
    | _ => 0
  | .store .. | .mapUpdate .. | .insert .. => 2
  | .call { callee := .builtin .len, .. } | .call { callee := .builtin .cap, .. } | .call { callee := .builtin .max, .. } | .call { callee := .builtin .min, .. } | .call { callee := .builtin .complex, .. } | .call { callee := .builtin .real, .. } | .call { callee := .builtin .imag, .. } | .call { callee := .builtin .unsafeSliceData, .. } => 0
  | .call _ => 2
  | _ => 0

theorem cls_le (T : Tab) (o : Oper) : cls T o ≤ 2 := by
  unfold cls
  repeat' split
  all_goals first | omega | (cases (Nat.beq _ _) <;> decide) | (generalize Nat.beq _ _ = z; cases z <;> decide)

/-- May the operation read memory? -/
def mayRead (o : Oper) : Bool :=
  match o.op with
  | .load .. | .slice .. | .lookup .. | .binOp .. | .convert .. | .call _ => true
  | _ => false

theorem readA_not {H : AHeap} {ev : Operand → Value} {o : Oper} {v : Value} (h : readA T H ev o = some v) : mayRead o = true := by
  unfold readA at h
  unfold mayRead
  split at h <;> simp_all

/-- An operation that gives a value changes nothing. -/
theorem effA_cls0 {H H' : AHeap} {ev : Operand → Value} {o : Oper} {an : AN} (hc : cls T o = 0) (h : effA T H ev o = some (an, H')) : False := by
  obtain ⟨dst, op, type, pos, after, guard⟩ := o
  cases op <;> simp only [cls] at hc <;> first | (exact absurd hc (by decide)) | skip
  case convert src dst' x =>
    simp only [effA] at h
    cases hsd : Nat.beq src dst' with
    | true =>
      rw [hsd] at h hc
      simp only [cond_true] at h hc
      have := Nat.eq_of_beq_eq_true hsd
      subst this
      cases hb : markA T H src (ev x) with
      | none => rw [hb] at h; cases h
      | some r =>
        unfold markA at hb
        split at hb
        · rename_i e b o n c h1 h2
          rw [h1] at hc; cases hc
        · cases hb
    | false =>
    rw [hsd] at h hc
    simp only [cond_false] at h hc
    cases hb : bytesA T H src dst' (ev x) with
    | none => rw [hb] at h; cases h
    | some r =>
      unfold bytesA at hb
      split at hb
      · rename_i d e s h0 h1 h2
        rw [h1] at hc; cases hc
      · cases hb
  case call c =>
    obtain ⟨callee, args, ts⟩ := c
    cases callee with
    | builtin b => cases b <;> first | exact absurd (show (2 : Nat) = 0 from hc) (by decide) | (simp only [effA] at h; cases h)
    | value f => exact absurd (show (2 : Nat) = 0 from hc) (by decide)
    | invoke r n => exact absurd (show (2 : Nat) = 0 from hc) (by decide)
  all_goals (simp only [effA] at h; cases h)

theorem opA_cls0 {H H' : AHeap} {ev : Operand → Value} {o : Oper} {an : AN} (hc : cls T o = 0) (h : opA T H ev o = some (an, H')) : H' = H ∧ ∃ v, an = .val v ∧ (valA T ev o = some v ∨ valA T ev o = none ∧ readA T H ev o = some v) := by
  unfold opA at h
  cases hv : valA T ev o with
  | some v => rw [hv] at h; cases h; exact ⟨rfl, v, rfl, .inl rfl⟩
  | none =>
    rw [hv] at h
    cases hr : readA T H ev o with
    | some v => simp only [hr] at h; cases h; exact ⟨rfl, v, rfl, .inr ⟨rfl, rfl⟩⟩
    | none => simp only [hr] at h; exact (effA_cls0 hc h).elim

/-- One that makes a block makes it whatever else there is. -/
theorem opA_cls1 {H H' : AHeap} {ev : Operand → Value} {o : Oper} {an : AN} (hc : cls T o = 1) (h : opA T H ev o = some (an, H')) :
    (∃ v, an = .val v ∧ H' = H ∧ valA T ev o = some v) ∨
    ∃ v x, an = .val v ∧ H' = H.new x ∧ x.wr = true ∧ ∀ H2 : AHeap, H2.next = H.next → opA T H2 ev o = some (.val v, H2.new x) := by
  obtain ⟨dst, op, type, pos, after, guard⟩ := o
  unfold opA at h
  cases hv : valA T ev ⟨dst, op, type, pos, after, guard⟩ with
  | some v => rw [hv] at h; cases h; exact .inl ⟨v, rfl, rfl, rfl⟩
  | none =>
    right
    rw [hv] at h
    have hrd : ∀ H2, readA T H2 ev ⟨dst, op, type, pos, after, guard⟩ = none := by
      intro H2
      cases op <;> simp only [cls] at hc <;> first | (exact absurd hc (by decide)) | rfl | skip
      case convert src dst' x =>
        simp only [readA]
        split
        · rename_i h0; rw [h0] at hc; cases hc
        · unfold ptrA
          split
          · rename_i h0 h1 h2; first | (rw [h1] at hc; cases hc) | (rw [h2] at hc; cases hc)
          · rename_i h0 h1 h2; first | (rw [h1] at hc; cases hc) | (rw [h2] at hc; cases hc)
          · rfl
      case call c =>
        obtain ⟨callee, args, ts⟩ := c
        cases callee with
        | builtin b => cases b <;> first | rfl | exact absurd (show (0 : Nat) = 1 from hc) (by decide)
        | value f => rfl
        | invoke r n => rfl
    simp only [hrd] at h
    have lift : ∀ (r : AHeap → Option (Value × AHeap)), (∀ v H', r H = some (v, H') → ∃ x, H' = H.new x ∧ x.wr = true ∧ ∀ H2 : AHeap, H2.next = H.next → r H2 = some (v, H2.new x)) →
        (∀ H2, effA T H2 ev ⟨dst, op, type, pos, after, guard⟩ = match r H2 with | some (v, H') => some (.val v, H') | none => none) →
        ∃ v x, an = .val v ∧ H' = H.new x ∧ x.wr = true ∧ ∀ H2 : AHeap, H2.next = H.next → opA T H2 ev ⟨dst, op, type, pos, after, guard⟩ = some (.val v, H2.new x) := by
      intro r h1 h2
      rw [h2 H] at h
      cases hr : r H with
      | none => rw [hr] at h; cases h
      | some p =>
        obtain ⟨v, H1⟩ := p
        rw [hr] at h
        simp only [Option.some.injEq, Prod.mk.injEq] at h
        obtain ⟨rfl, rfl⟩ := h
        obtain ⟨x, e1, ew, e2⟩ := h1 v H1 hr
        refine ⟨v, x, rfl, e1, ew, fun H2 hn => ?_⟩
        unfold opA
        simp only [hv, hrd, h2 H2, e2 H2 hn]
    have box : ∀ e (u : Value) v H', boxA T H e u = some (v, H') → ∃ x, H' = H.new x ∧ x.wr = true ∧ ∀ H2 : AHeap, H2.next = H.next → boxA T H2 e u = some (v, H2.new x) := by
      intro e u v H' hb
      unfold boxA at hb ⊢
      cases hi : T.info e with
      | none => rw [hi] at hb; cases hb
      | some i => rw [hi] at hb; cases hb; exact ⟨_, rfl, rfl, fun H2 hn => by simp [hn]⟩
    have row : ∀ e l n c v H', rowA T H e l n c = some (v, H') → ∃ x, H' = H.new x ∧ x.wr = true ∧ ∀ H2 : AHeap, H2.next = H.next → rowA T H2 e l n c = some (v, H2.new x) := by
      intro e l n c v H' hb
      unfold rowA at hb ⊢
      cases hi : T.info e with
      | none => rw [hi] at hb; cases hb
      | some i => rw [hi] at hb; cases hb; exact ⟨_, rfl, rfl, fun H2 hn => by simp [hn]⟩
    cases op <;> simp only [cls] at hc <;> first | (exact absurd hc (by decide)) | skip
    case alloc e =>
      refine lift (fun H2 => allocA T H2 e) (fun v H1 hb => ?_) (fun H2 => rfl)
      simp only [allocA] at hb ⊢
      cases hi : T.info e with
      | none => rw [hi] at hb; cases hb
      | some i =>
        simp only [hi] at hb ⊢
        cases hz : i.zero with
        | none => rw [hz] at hb; cases hb
        | some z =>
          simp only [hz] at hb ⊢
          cases hf : flat 2 z with
          | false => rw [hf] at hb; cases hb
          | true => rw [hf] at hb; simp only [cond_true] at hb ⊢; exact box e z v H1 hb
    case box e x => exact lift (fun H2 => boxA T H2 e (ev x)) (fun v H1 hb => box e _ v H1 hb) (fun H2 => rfl)
    case buildSlice t len ps =>
      refine lift (fun H2 => buildSliceA T H2 t len (ps.toList.map fun p => (p.1, ev p.2))) (fun v H1 hb => ?_) (fun H2 => rfl)
      simp only [buildSliceA] at hb ⊢
      split at hb
      · split at hb
        · rename_i i z hi hz
          cases hq : Nat.ble (len * i.size) 1000 with
          | false => rw [hq] at hb; cases hb
          | true =>
            rw [hq] at hb
            simp only [cond_true] at hb ⊢
            split at hb
            · exact row _ _ _ _ v H1 hb
            · cases hb
        · cases hb
      · cases hb
    case makeMap t r =>
      cases r with
      | none => exact lift (fun H2 => some (makeMapA H2)) (fun v H1 hb => by cases hb; exact ⟨_, rfl, rfl, fun H2 hn => by simp [makeMapA, hn]⟩) (fun H2 => rfl)
      | some x => simp [effA] at h
    case makeSlice t l c =>
      refine lift (fun H2 => makeSliceA T H2 t (ev l) (ev c)) (fun v H1 hb => ?_) (fun H2 => rfl)
      simp only [makeSliceA] at hb ⊢
      split at hb
      · split at hb
        · rename_i l0 _ c0 _ _ _ _ _ i z hi hz
          cases hq : (decide (0 ≤ l0 ∧ l0 ≤ c0 ∧ c0 ≤ 100000) && Nat.ble i.bytes 1000 && Nat.beq z.size i.size) with
          | false => rw [hq] at hb; cases hb
          | true =>
            rw [hq] at hb
            simp only [cond_true] at hb ⊢
            exact row _ _ _ _ v H1 hb
        · cases hb
      · cases hb
    case convert src dst' x =>
      have hsd : Nat.beq src dst' = false := by
        cases hsd : Nat.beq src dst' with
        | false => rfl
        | true =>
          rw [hsd] at hc
          split at hc
          · cases hc
          · cases hc
      refine lift (fun H2 => bytesA T H2 src dst' (ev x)) (fun v H1 hb => ?_) (fun H2 => by simp only [effA, hsd, cond_false]; rfl)
      simp only [bytesA] at hb ⊢
      split at hb
      · split at hb
        · rename_i d e s _ _ _ _ _ i _ _
          cases hq : (Nat.beq i.size 1 && Nat.ble s.size 1000000) with
          | false => rw [hq] at hb; cases hb
          | true => rw [hq] at hb; simp only [cond_true] at hb ⊢; cases hb; exact ⟨_, rfl, rfl, fun H2 hn => by simp [hn]⟩
        · cases hb
      · cases hb
    case call c =>
      exfalso
      obtain ⟨callee, args, ts⟩ := c
      cases callee with
      | builtin b => cases b <;> first | exact absurd (show (2 : Nat) = 1 from hc) (by decide) | exact absurd (show (0 : Nat) = 1 from hc) (by decide)
      | value f => exact absurd (show (2 : Nat) = 1 from hc) (by decide)
      | invoke r n => exact absurd (show (2 : Nat) = 1 from hc) (by decide)
end Go.AM
end

section
/- The abstract machine, part M: a region in whatever order. -/
namespace Go.AM
variable {T : Tab}

/-! Equal values. -/
def veq : Nat → Value → Value → Bool
  | _, .bool a, .bool b => a == b
  | _, .int k a, .int l b => decide (k = l) && decide (a = b)
  | _, .float k a, .float l b => decide (k = l) && Nat.beq a b
  | _, .complex k a c, .complex l b d => decide (k = l) && Nat.beq a b && Nat.beq c d
  | _, .string a, .string b => decide (a.data.toList = b.data.toList)
  | _, .pointer a, .pointer b => decide (a = b)
  | _, .slice a n c, .slice b m d => decide (a = b) && Nat.beq n m && Nat.beq c d
  | _, .map a, .map b => decide (a = b)
  | _, .nilFunc, .nilFunc => true
  | _, .nilIface, .nilIface => true
  | n + 1, .iface t a, .iface u b => Nat.beq t u && veq n a b
  | n + 1, .agg a, .agg b => Nat.beq a.size b.size && (a.toList.zip b.toList).all fun p => veq n p.1 p.2
  | n + 1, .tuple a, .tuple b => Nat.beq a.size b.size && (a.toList.zip b.toList).all fun p => veq n p.1 p.2
  | n + 1, .func f a c, .func g b d => decide (f = g) && Nat.beq a.size b.size && (a.toList.zip b.toList).all (fun p => veq n p.1 p.2) && Nat.beq c.size d.size && (c.toList.zip d.toList).all fun p => veq n p.1 p.2
  | _, _, _ => false

theorem zip_eq {f : Value → Value → Bool} (hf : ∀ a b, f a b = true → a = b) {a b : Array Value} (hs : Nat.beq a.size b.size = true) (h : (a.toList.zip b.toList).all (fun p => f p.1 p.2) = true) : a = b := by
  have hs' : a.size = b.size := by simpa using hs
  refine Array.ext hs' fun i h1 h2 => hf _ _ ?_
  have hm : (a[i], b[i]) ∈ a.toList.zip b.toList := by
    have hl : i < (a.toList.zip b.toList).length := by simp; omega
    have : (a.toList.zip b.toList)[i] = (a[i], b[i]) := by simp
    rw [← this]
    exact List.getElem_mem hl
  exact List.all_eq_true.1 h _ hm

theorem veq_eq : ∀ (n : Nat) (a b : Value), veq n a b = true → a = b := by
  intro n
  induction n with
  | zero =>
    intro a b h
    cases a <;> cases b <;> simp [veq] at h <;> simp_all
    rename_i x y
    cases x; cases y
    simp at h
    rw [h]
  | succ n ih =>
    intro a b h
    cases a <;> cases b <;> simp only [veq, Bool.and_eq_true, decide_eq_true_eq] at h <;> try (first | (cases h; done) | skip)
    case agg a b => rw [zip_eq ih h.1 h.2]
    case tuple a b => rw [zip_eq ih h.1 h.2]
    case iface t a u b =>
      have : t = u := by simpa using h.1
      rw [this, ih _ _ h.2]
    case func f a c g b d =>
      obtain ⟨⟨⟨⟨h1, h2⟩, h3⟩, h4⟩, h5⟩ := h
      rw [h1, zip_eq ih h2 h3, zip_eq ih h4 h5]
    case string x y =>
      cases x; cases y
      simp at h
      rw [h]
    all_goals simp_all

/-! Reading in a greater heap. -/
def Sub' (H H' : AHeap) : Prop := ∀ b o, H.get b = some o → H'.get b = some o

theorem readA_mono {H H' : AHeap} (hs : Sub' H H') {ev : Operand → Value} {o : Oper} {v : Value} (h : readA T H ev o = some v) : readA T H' ev o = some v := by
  have hld : ∀ {b k x}, ld H b k = some x → ld H' b k = some x := by
    intro b k x h
    unfold ld at *
    split at h
    · rename_i c e st hb; try rw [hs _ _ hb]; exact h
    · rename_i c e hb; try rw [hs _ _ hb]; exact h
    · cases h
  have hldN : ∀ {b k n x}, ldN H b k n = some x → ldN H' b k n = some x := by
    intro b k n x h
    unfold ldN at *
    split at h
    · rename_i c e st hb; try rw [hs _ _ hb]; exact h
    · rename_i c e hb; try rw [hs _ _ hb]; exact h
    · cases h
  unfold readA at *
  split at h
  · rename_i t a ha
    try rw [ha]
    try simp only
    unfold loadV at *
    split at h
    · rename_i b k hp
      try rw [hp]
      try simp only
      cases hg : T.agg t with
      | none => try rw [hg] at h; cases h
      | some g =>
        try rw [hg] at h
        cases g with
        | true =>
          try simp only at h ⊢
          cases hi : T.info t with
          | none => try rw [hi] at h; cases h
          | some i =>
            try rw [hi] at h
            try simp only at h ⊢
            cases hn : ldN H b k i.size with
            | none => try rw [hn] at h; cases h
            | some l => try rw [hn] at h; try rw [hldN hn]; exact h
        | false => simp only at h ⊢; exact hld h
    · cases h
  · rename_i t x lo hi mx ho
    try rw [ho]
    try simp only
    unfold sliceA at *
    split at h
    · rename_i e a n c hu hx
      try rw [hu, hx]
      try simp only
      split at h
      · rename_i inf lo' hi' mx' q1 q2 q3 q4
        try rw [q1, q2, q3, q4]
        try simp only
        cases hq : okBounds (normCap n c) n lo' hi' mx' with
        | false => try rw [hq] at h; cases h
        | true =>
          try rw [hq] at h
          try simp only [cond_true] at h ⊢
          unfold sliceB at *
          split at h
          · exact h
          · rename_i b k
            try simp only
            cases hq2 : (Nat.blt (mx'.getD (normCap n c)) U && Nat.beq (mx'.getD (normCap n c)) (lo'.getD 0)) with
            | true => try rw [hq2] at h; exact h
            | false =>
              try rw [hq2] at h
              try simp only [cond_false] at h ⊢
              split at h
              · rename_i c0 e' st hb; try rw [hs _ _ hb]; exact h
              · rename_i c0 e' hb; try rw [hs _ _ hb]; exact h
              · cases h
          · cases h
      · cases h
    · cases h
  · rename_i t m k ok ho
    try rw [ho]
    try simp only
    unfold lookA at *
    split at h
    · rename_i kt et hu
      try rw [hu]
      try simp only
      cases he : entries H (ev m) with
      | none => try rw [he] at h; cases h
      | some es =>
        have he' : entries H' (ev m) = some es := by
          unfold entries at *
          split at he
          · exact he
          · rename_i r hm
            try rw [hm]
            try simp only
            split at he
            · rename_i es0 c hb; try rw [hs _ _ hb]; exact he
            · cases he
          · cases he
        try rw [he] at h
        try rw [he']
        exact h
    · cases h
  · rename_i op t x y yt ho
    try rw [ho]
    try simp only
    have hpl : ∀ b, plainAt H b = true → plainAt H' b = true := by
      intro b h
      unfold plainAt at *
      split at h
      · rename_i c0 cs e hb; rw [hs _ _ hb]; exact h
      · cases h
    have hep : ∀ r, eqPtr T H t (ev x) (ev y) = some r → eqPtr T H' t (ev x) (ev y) = some r := by
      intro r h
      unfold eqPtr at *
      split at h
      · rename_i e b p c q hu hx hy
        try rw [hu, hx, hy]
        try simp only
        cases hi : T.info e with
        | none => try rw [hi] at h; cases h
        | some i =>
          try rw [hi] at h
          try simp only at h ⊢
          cases hz : Nat.beq i.size 0 with
          | true => try rw [hz] at h; cases h
          | false =>
            try rw [hz] at h
            try simp only [cond_false] at h ⊢
            cases hbc : Nat.beq b c with
            | true => try rw [hbc] at h; exact h
            | false =>
              try rw [hbc] at h
              try simp only [cond_false] at h ⊢
              cases hpp : (plainAt H b && plainAt H c) with
              | false => try rw [hpp] at h; cases h
              | true =>
                try rw [hpp] at h
                simp only [Bool.and_eq_true] at hpp
                try rw [hpl _ hpp.1, hpl _ hpp.2]
                exact h
      · cases h
    unfold binPtr at *
    split at h
    · rename_i r hr; try rw [hep _ hr]; exact h
    · rename_i r hr; try rw [hep _ hr]; exact h
    · cases h
  · rename_i src dst x ho
    try rw [ho]
    try simp only
    split at h
    · rename_i hud
      try rw [hud]
      try simp only
      unfold textA at *
      split at h
      · exact h
      · rename_i e b k n c h1 h2 h3
        try rw [h1, h2, h3]
        try simp only
        split at h
        · rename_i hu
          try rw [hu]
          try simp only
          cases hz : Nat.beq n 0 with
          | true => try rw [hz] at h; exact h
          | false =>
            try rw [hz] at h
            try simp only [cond_false] at h ⊢
            cases hl : ldN H b k n with
            | none => try rw [hl] at h; cases h
            | some l => try rw [hl] at h; try rw [hldN hl]; exact h
        · cases h
      · cases h
    · exact ptrA_mono hs h
  · rename_i args ho
    try rw [ho]
    try simp only
    exact h
  · rename_i args ts ho
    try rw [ho]
    try simp only
    split at h
    · rename_i x t h1 h2
      try rw [h1, h2]
      try simp only
      unfold lenM at *
      split at h
      · rename_i kk e r hu hx
        try rw [hu, hx]
        try simp only
        split at h
        · rename_i es c hb; try rw [hs _ _ hb]; exact h
        · cases h
      · cases h
    · cases h
  · cases h
end Go.AM
end

section
/- The abstract machine, part N: a region whose order is open. -/
namespace Go.AM
variable {T : Tab}

/-! One step, told by what it leaves. -/
theorem stepA_gen (hT : T.Ok) (hC : T.Calls) {K : Kall} (hK : KOk T K) {Q : Exit → Act → World → Prop} {ops : Array Oper} {i : Nat} {o : Oper} {env env' : Env} {H H' : AHeap} (h : stepA T K ops i env H = some (env', H')) (hoi : ops[i]? = some o)
    {γ : Gam} {a : Act} {w : World} (hr : HRT T γ H w) (hf : Free γ H.next H'.next) (he : ∀ x ∈ o.op.operands, VR γ (evA env x) (a.eval x)) (hw : Region.wanted o (yielded ops a.tmps) = Region.wanted o (yielded ops env)) :
    wpOp T.P ops Q i (fun a' w' => ∃ γ' v v', env' = putA env o.dst v ∧ a' = a.put o.dst v' ∧ VR γ' v v' ∧ StepT T γ H w γ' H' w') a w := by
  unfold stepA at h
  unfold wpOp
  rw [hoi] at h ⊢
  simp only at h ⊢
  rw [hw]
  cases hww : Region.wanted o (yielded ops env) with
  | false =>
    rw [hww] at h; cases h
    simp only [Bool.false_eq_true, if_false]
    exact ⟨γ, undef, undef, rfl, rfl, undef_rel, Step.refl hr⟩
  | true =>
    rw [hww] at h
    simp only [cond_true] at h
    simp only [if_true]
    left
    unfold Oper.wp
    split at h
    · rename_i v H1 h1
      cases h
      obtain ⟨γ', nx, w', g1, g2, g3⟩ := opA_ok hT hC hr h1 hf he
      cases g2 with
      | val hv => rw [g1, Oper.upon_value]; exact ⟨γ', _, _, rfl, rfl, hv, g3⟩
    · rename_i H1 h1
      cases h
      obtain ⟨γ', nx, w', g1, g2, g3⟩ := opA_ok hT hC hr h1 hf he
      cases g2
      rw [g1, Oper.upon_skip]
      exact ⟨γ', _, _, rfl, rfl, undef_rel, g3⟩
    · rename_i f args H1 h1
      split at h
      · rename_i v H2 h2
        cases h
        obtain ⟨γ', nx, w', g1, g2, g3⟩ := opA_ok hT hC hr h1 (hf.left (hK.next _ _ _ _ _ h2)) he
        cases g2 with
        | enter hl =>
          rw [g1, Oper.upon_enter]
          refine (hK.ok f args H1 v _ h2 γ' w' _ g3.hr (hf.right g3) hl).mono ?_
          rintro e w'' ⟨γ'', v', rfl, q1, q2⟩
          exact ⟨γ'', _, _, rfl, rfl, q1, g3.trans q2⟩
      · cases h
    · cases h

theorem stepA_put {K : Kall} {ops : Array Oper} {i : Nat} {o : Oper} {env env' : Env} {H H' : AHeap} (h : stepA T K ops i env H = some (env', H')) (hoi : ops[i]? = some o) : ∃ v, env' = putA env o.dst v := by
  unfold stepA at h
  rw [hoi] at h
  simp only at h
  cases hw : Region.wanted o (yielded ops env) with
  | false => rw [hw] at h; cases h; exact ⟨_, rfl⟩
  | true =>
    rw [hw] at h; simp only [cond_true] at h
    split at h
    · cases h; exact ⟨_, rfl⟩
    · cases h; exact ⟨_, rfl⟩
    · split at h
      · cases h; exact ⟨_, rfl⟩
      · cases h
    · cases h

/-! Any finite heap. -/
theorem Tr.bound {α : Type} : ∀ t : Tr α, ∃ n, ∀ b, n ≤ b → t.get b = none := by
  intro t
  induction t with
  | nil => exact ⟨0, fun b _ => rfl⟩
  | node l v r il ir =>
    obtain ⟨n, hn⟩ := il
    obtain ⟨m, hm⟩ := ir
    refine ⟨2 * n + 2 * m + 4, fun b hb => ?_⟩
    simp only [Tr.get]
    rw [beq_false (by omega)]
    simp only [cond_false]
    cases hq : Nat.beq (b % 2) 1 with
    | true => exact hn _ (by omega)
    | false => exact hm _ (by omega)

theorem realize (m : Nat) (f : Nat → Option AObj) : ∀ n, ∃ H : AHeap, H.next = m ∧ ∀ b, H.get b = if b < n then f b else none := by
  intro n
  induction n with
  | zero => exact ⟨⟨m, .nil⟩, rfl, fun b => by simp [AHeap.get, Tr.get]⟩
  | succ n ih =>
    obtain ⟨H, h1, h2⟩ := ih
    refine ⟨H.put n (f n), h1, fun b => ?_⟩
    rw [AHeap.get_put]
    by_cases e : b = n
    · subst e; simp
    · rw [if_neg e, h2]
      by_cases hb : b < n
      · rw [if_pos hb, if_pos (by omega)]
      · rw [if_neg hb, if_neg (by omega)]

/-- What another heap has, and what of an elder one neither a third one has. -/
theorem over (m : Nat) (Hn H1 HL : AHeap) : ∃ HX : AHeap, HX.next = m ∧ ∀ b o, HX.get b = some o ↔ Hn.get b = some o ∨ (Hn.get b = none ∧ H1.get b = none ∧ HL.get b = some o) := by
  obtain ⟨n1, h1⟩ := Tr.bound Hn.objs
  obtain ⟨n2, h2⟩ := Tr.bound HL.objs
  obtain ⟨HX, e1, e2⟩ := realize m (fun b => match Hn.get b with | some o => some o | none => match H1.get b with | some _ => none | none => HL.get b) (n1 + n2)
  refine ⟨HX, e1, fun b o => ?_⟩
  rw [e2]
  by_cases hb : b < n1 + n2
  · rw [if_pos hb]
    cases g1 : Hn.get b with
    | some x => simp
    | none =>
      cases g2 : H1.get b with
      | some x => simp
      | none => simp
  · rw [if_neg hb]
    have q1 : Hn.get b = none := h1 b (by omega)
    have q2 : HL.get b = none := h2 b (by omega)
    simp [q1, q2]

/-- A step of a part of a heap is one of the whole. -/
theorem Step.extend {I : TypeId → Option TypeInfo} {G : Nat} {γ γ' : Gam} {H1 Hn HL HX : AHeap} {w w' : World} (hl : HR I G γ HL w) (hsub : Sub' H1 HL) (hs : Step I G γ H1 w γ' Hn w')
    (hx : ∀ b o, HX.get b = some o ↔ Hn.get b = some o ∨ (Hn.get b = none ∧ H1.get b = none ∧ HL.get b = some o)) :
    HR I G γ' HX w' ∧ (∀ B, B < w.heap.size → (∀ b o A, HL.get b = some o → o.wr = true → γ b = some A → A.B ≠ B) → w'.heap[B]? = w.heap[B]?) ∧
      (∀ b o A, HX.get b = some o → γ' b = some A → w.heap.size ≤ A.B ∨ ∃ c p D, HL.get c = some p ∧ γ c = some D ∧ D.B = A.B ∧ (o.wr = true → p.wr = true)) := by
  -- what is beside
  have beside : ∀ b o, H1.get b = none → HL.get b = some o → ∃ A, γ b = some A ∧ γ' b = some A ∧ A.B < w.heap.size ∧ OR I γ' A w' o ∧ ∀ c p D, H1.get c = some p → γ c = some D → (o.wr = true ∨ p.wr = true) → D.B ≠ A.B := by
    intro b o h1 hb
    obtain ⟨A, g1, g2⟩ := hl.live b o hb
    have hne : ∀ c p D, H1.get c = some p → γ c = some D → (o.wr = true ∨ p.wr = true) → D.B ≠ A.B := fun c p D hc hD hq e => by
      have := hl.inj c b p o D A (hsub c p hc) hb hD g1 e hq.symm
      subst this; rw [h1] at hc; cases hc
    exact ⟨A, g1, hs.sub b A g1, g2.lt, g2.mono hs.sub (hs.frame A.B g2.lt fun c p D hc hq hD => hne c p D hc hD (.inr hq)), hne⟩
  refine ⟨⟨?_, ?_, ?_⟩, ?_, ?_⟩
  · intro b o hb
    rcases (hx b o).1 hb with h | ⟨h1, h2, h3⟩
    · exact hs.hr.live b o h
    · obtain ⟨A, g1, g2, g3, g4, g5⟩ := beside b o h2 h3
      exact ⟨A, g2, g4⟩
  · intro b c o p A D hb hc hA hD e hq
    have cross : ∀ b c o p A D, Hn.get b = some o → H1.get c = none → HL.get c = some p → γ' b = some A → γ' c = some D → (o.wr = true ∨ p.wr = true) → A.B ≠ D.B := by
      intro b c o p A D g1 g2 g3 g4 g5 hq e
      obtain ⟨D', q1, q2, q3, q4, q5⟩ := beside c p g2 g3
      rw [g5] at q2; cases q2
      rcases hs.fresh b o A g1 g4 with h | ⟨c', p', D', r1, r2, r3, r4⟩
      · omega
      · exact q5 c' p' D' r1 r2 (hq.symm.imp id r4) (r3.trans e)
    rcases (hx b o).1 hb with h | ⟨h1, h2, h3⟩
    · rcases (hx c p).1 hc with k | ⟨k1, k2, k3⟩
      · exact hs.hr.inj b c o p A D h k hA hD e hq
      · exact absurd e (cross b c o p A D h k2 k3 hA hD hq)
    · rcases (hx c p).1 hc with k | ⟨k1, k2, k3⟩
      · exact absurd e.symm (cross c b p o D A k h2 h3 hD hA hq.symm)
      · obtain ⟨A', q1, q2, _⟩ := beside b o h2 h3
        obtain ⟨D', r1, r2, _⟩ := beside c p k2 k3
        rw [hA] at q2; cases q2
        rw [hD] at r2; cases r2
        exact hl.inj b c o p A D h3 k3 q1 r1 e hq
  · exact hs.hr.glob
  · intro B hB hn
    exact hs.frame B hB fun b o A hb hw hA => hn b o A (hsub b o hb) hw hA
  · intro b o A hb hA
    rcases (hx b o).1 hb with h | ⟨h1, h2, h3⟩
    · rcases hs.fresh b o A h hA with k | ⟨c, p, D, k1, k2, k3, k4⟩
      · exact .inl k
      · exact .inr ⟨c, p, D, hsub c p k1, k2, k3, k4⟩
    · obtain ⟨A', q1, q2, _⟩ := beside b o h2 h3
      rw [hA] at q2; cases q2
      exact .inr ⟨b, o, A, h3, q1, rfl, id⟩

/-! The plan of a region. -/
def starts (T : Tab) (ops : Array Oper) : List Nat := 0 :: ((List.range ops.size).filter fun i => match ops[i]? with | some o => Nat.beq (cls T o) 2 | none => false).map (· + 1)

def isCls (T : Tab) (ops : Array Oper) (i c : Nat) : Bool := match ops[i]? with | some o => Nat.beq (cls T o) c | none => false

def Plan.at (pl : Plan) (i : Nat) : List Nat := pl.bf.getD i []

/-- Can the operation not be carried out when just the effects ahead of s have been? -/
def excluded (T : Tab) (ops : Array Oper) (pl : Plan) (i s : Nat) : Bool :=
  (List.range ops.size).any fun e => isCls T ops e 2 && ((Nat.ble s e && (pl.at i).contains e) || (Nat.blt e s && (pl.at e).contains i))

def covered (T : Tab) (ops : Array Oper) (pl : Plan) (i s : Nat) : Bool :=
  Nat.ble s i && (List.range ops.size).all fun j => cond (Nat.ble s j && Nat.blt j i) (!isCls T ops j 2 && (cond (isCls T ops j 1) ((pl.at i).contains j) true)) true

def planAt (T : Tab) (ops : Array Oper) (pl : Plan) (i : Nat) (o : Oper) : Bool :=
  o.after.toList.all (fun e => cond (Region.binds .any e) (Nat.blt e.on i) true) &&
  (pl.at i).all (fun j => Nat.blt j i && o.after.toList.any fun e => (Nat.beq e.on j || (pl.at e.on).contains j) && Region.binds .any e) &&
  (match o.guard with | some (g, _) => (pl.at i).contains g | none => true) &&
  ((List.range ops.size).all fun j => match ops[j]? with
    | none => false
    | some p => (match p.dst with
        | some d => cond ((o.looksAt ops).contains d) (Nat.beq i j || (pl.at i).contains j || (pl.at j).contains i) true && (Nat.beq i j || o.dst != some d)
        | none => true) &&
      cond (Nat.beq (cls T o) 2 && Nat.blt j i && (Nat.beq (cls T p) 2 || Nat.beq (cls T p) 1)) ((pl.at i).contains j) true &&
      cond (Nat.beq (cls T o) 2 && Nat.blt i j && Nat.beq (cls T p) 1) (pl.news.contains (i, j)) true) &&
  cond (Nat.beq (cls T o) 0 && mayRead o) ((starts T ops).all fun s => excluded T ops pl i s || covered T ops pl i s || pl.pairs.contains (i, s)) true

def planOk (T : Tab) (ops : Array Oper) (pl : Plan) : Bool :=
  (List.range ops.size).all fun i => match ops[i]? with | some o => planAt T ops pl i o | none => false

/-- The frames and heaps ahead of each operation, and behind all. -/
def traceA (T : Tab) (K : Kall) (ops : Array Oper) : List Nat → Env → AHeap → Option (List (Env × AHeap))
  | [], env, H => some [(env, H)]
  | i :: r, env, H => match stepA T K ops i env H with
    | some (env', H') => match traceA T K ops r env' H' with
      | some l => some ((env, H) :: l)
      | none => none
    | none => none

def chkPair (T : Tab) (ops : Array Oper) (tr : List (Env × AHeap)) (p : Nat × Nat) : Bool :=
  match ops[p.1]?, tr[p.1]?, tr[p.2]? with
  | some o, some (env, H), some (_, Hs) => cond (Region.wanted o (yielded ops env)) (match valA T (evA env) o with
    | some _ => true
    | none => match readA T Hs (evA env) o, readA T H (evA env) o with
      | some v, some u => veq 4 v u
      | _, _ => false) true
  | _, _, _ => false

def chkNew (tr : List (Env × AHeap)) (p : Nat × Nat) : Bool :=
  match tr[p.1]?, tr[p.2]? with
  | some (_, H), some (_, H') => match H.get H'.next with
    | none => true
    | some _ => false
  | _, _ => false

def drawA (T : Tab) (K : Kall) (pl : Plan) (ops : Array Oper) (env : Env) (H : AHeap) : Option (Env × AHeap) :=
  match traceA T K ops (List.range ops.size) env H with
  | some tr => cond (pl.pairs.all (chkPair T ops tr) && pl.news.all (chkNew tr)) tr.getLast? none
  | none => none

theorem traceA_spec {K : Kall} {ops : Array Oper} : ∀ (l : List Nat) {env : Env} {H : AHeap} {tr : List (Env × AHeap)}, traceA T K ops l env H = some tr →
    tr.length = l.length + 1 ∧ tr[0]? = some (env, H) ∧ ∀ (k i : Nat), l[k]? = some i → ∃ p q, tr[k]? = some p ∧ tr[k + 1]? = some q ∧ stepA T K ops i p.1 p.2 = some q := by
  intro l
  induction l with
  | nil => intro env H tr h; simp [traceA] at h; subst h; exact ⟨rfl, rfl, fun k i hk => by simp at hk⟩
  | cons i r ih =>
    intro env H tr h
    simp only [traceA] at h
    split at h
    · rename_i e1 H1 h1
      split at h
      · rename_i l' hl
        cases h
        obtain ⟨g1, g2, g3⟩ := ih hl
        refine ⟨by simp [g1], rfl, fun k j hk => ?_⟩
        cases k with
        | zero =>
          simp at hk; subst hk
          exact ⟨(env, H), (e1, H1), rfl, by simpa using g2, h1⟩
        | succ k =>
          obtain ⟨p, q, q1, q2, q3⟩ := g3 k j (by simpa using hk)
          exact ⟨p, q, by simpa using q1, by simpa using q2, q3⟩
      · cases h
    · cases h
end Go.AM
end

section
/- The abstract machine, part O: a region whose order is open comes to what it comes to in the order of the text. -/
namespace Go.AM
variable {T : Tab}

/-- What holds of a run in the order of the text. -/
structure Run (T : Tab) (K : Kall) (ops : Array Oper) (pl : Plan) (E : Nat → Env) (Hh : Nat → AHeap) : Prop where
  step : ∀ i, i < ops.size → stepA T K ops i (E i) (Hh i) = some (E (i + 1), Hh (i + 1))
  plan : planOk T ops pl = true
  pairs : ∀ r s o, (r, s) ∈ pl.pairs → ops[r]? = some o → Region.wanted o (yielded ops (E r)) = true → valA T (evA (E r)) o = none → ∃ v, readA T (Hh s) (evA (E r)) o = some v ∧ readA T (Hh r) (evA (E r)) o = some v
  news : ∀ i j, (i, j) ∈ pl.news → (Hh i).get (Hh j).next = none

section
variable {K : Kall} {ops : Array Oper} {pl : Plan} {E : Nat → Env} {Hh : Nat → AHeap}

theorem Run.at (R : Run T K ops pl E Hh) {i : Nat} {o : Oper} (ho : ops[i]? = some o) : planAt T ops pl i o = true := by
  have hi : i < ops.size := by
    rcases Nat.lt_or_ge i ops.size with h | h
    · exact h
    · rw [Array.getElem?_eq_none h] at ho; cases ho
  have := List.all_eq_true.1 R.plan i (by simpa using hi)
  rw [ho] at this
  exact this

theorem lt_of_some {i : Nat} {o : Oper} (ho : ops[i]? = some o) : i < ops.size := by
  rcases Nat.lt_or_ge i ops.size with h | h
  · exact h
  · rw [Array.getElem?_eq_none h] at ho; cases ho

theorem some_of_lt {i : Nat} (hi : i < ops.size) : ∃ o, ops[i]? = some o := ⟨ops[i], by simp [hi]⟩

/-- Two operations of a plan. -/
theorem Run.two (R : Run T K ops pl E Hh) {i j : Nat} {o p : Oper} (ho : ops[i]? = some o) (hp : ops[j]? = some p) :
    (∀ d, p.dst = some d → d ∈ o.looksAt ops → i = j ∨ j ∈ pl.at i ∨ i ∈ pl.at j) ∧ (∀ d, p.dst = some d → i ≠ j → o.dst ≠ some d) ∧
    (cls T o = 2 → j < i → (cls T p = 2 ∨ cls T p = 1) → j ∈ pl.at i) ∧ (cls T o = 2 → i < j → cls T p = 1 → (i, j) ∈ pl.news) := by
  have h := R.at ho
  unfold planAt at h
  simp only [Bool.and_eq_true] at h
  have h2 := List.all_eq_true.1 h.1.2 j (by simpa using lt_of_some hp)
  rw [hp] at h2
  simp only [Bool.and_eq_true] at h2
  obtain ⟨⟨a, b⟩, c⟩ := h2
  refine ⟨fun d hd hl => ?_, fun d hd hne e => ?_, fun h1 h3 h4 => ?_, fun h1 h3 h4 => ?_⟩
  · rw [hd] at a
    simp only [Bool.and_eq_true] at a
    have a1 := a.1
    have hc : (o.looksAt ops).contains d = true := by simpa using hl
    rw [hc] at a1
    simp only [cond_true, Bool.or_eq_true] at a1
    rcases a1 with (a1 | a1) | a1
    · left; simpa using a1
    · right; left; simpa using a1
    · right; right; simpa using a1
  · rw [hd] at a
    simp only [Bool.and_eq_true, Bool.or_eq_true] at a
    rcases a.2 with a2 | a2
    · exact hne (by simpa using a2)
    · rw [e] at a2; simp at a2
  · have q : (Nat.beq (cls T o) 2 && Nat.blt j i && (Nat.beq (cls T p) 2 || Nat.beq (cls T p) 1)) = true := by
      have e3 : Nat.blt j i = true := by simpa using h3
      rw [h1, e3]
      rcases h4 with h4 | h4 <;> rw [h4] <;> rfl
    rw [q] at b
    simpa using b
  · have q : (Nat.beq (cls T o) 2 && Nat.blt i j && Nat.beq (cls T p) 1) = true := by
      have e3 : Nat.blt i j = true := by simpa using h3
      rw [h1, e3, h4]; rfl
    rw [q] at c
    simpa using c

theorem Run.edges (R : Run T K ops pl E Hh) {i : Nat} {o : Oper} (ho : ops[i]? = some o) :
    (∀ e ∈ o.after, Region.binds .any e = true → e.on < i) ∧ (∀ j ∈ pl.at i, j < i ∧ ∃ e ∈ o.after, Region.binds .any e = true ∧ (e.on = j ∨ j ∈ pl.at e.on)) ∧ (∀ g b, o.guard = some (g, b) → g ∈ pl.at i) := by
  have h := R.at ho
  unfold planAt at h
  simp only [Bool.and_eq_true] at h
  obtain ⟨⟨⟨⟨a, b⟩, c⟩, _⟩, _⟩ := h
  refine ⟨fun e he hb => ?_, fun j hj => ?_, fun g b hg => ?_⟩
  · have := List.all_eq_true.1 a e (by simpa using he)
    rw [hb] at this
    simpa using this
  · have := List.all_eq_true.1 b j hj
    simp only [Bool.and_eq_true] at this
    refine ⟨by simpa using this.1, ?_⟩
    obtain ⟨e, he, hq⟩ := List.any_eq_true.1 this.2
    simp only [Bool.or_eq_true, Bool.and_eq_true] at hq
    refine ⟨e, by simpa using he, hq.2, ?_⟩
    rcases hq.1 with hq | hq
    · left; simpa using hq
    · right; simpa using hq
  · rw [hg] at c
    simpa using c

theorem Run.read (R : Run T K ops pl E Hh) {i s : Nat} {o : Oper} (ho : ops[i]? = some o) (hc : cls T o = 0) (hm : mayRead o = true) (hs : s ∈ starts T ops) :
    excluded T ops pl i s = true ∨ covered T ops pl i s = true ∨ (i, s) ∈ pl.pairs := by
  have h := R.at ho
  unfold planAt at h
  simp only [Bool.and_eq_true] at h
  have h2 := h.2
  rw [hc, hm] at h2
  have h3 := List.all_eq_true.1 h2 s hs
  simp only [Bool.or_eq_true] at h3
  rcases h3 with (h3 | h3) | h3
  · exact .inl h3
  · exact .inr (.inl h3)
  · exact .inr (.inr (by simpa using h3))

theorem Run.mono (R : Run T K ops pl E Hh) (hK : KOk T K) {i j : Nat} (hij : i ≤ j) (hj : j ≤ ops.size) : (Hh i).next ≤ (Hh j).next := by
  induction j with
  | zero => have : i = 0 := by omega
            subst this; exact Nat.le_refl _
  | succ j ih =>
    by_cases e : i = j + 1
    · subst e; exact Nat.le_refl _
    · exact Nat.le_trans (ih (by omega) (by omega)) (stepA_next hK (R.step j (by omega)))

theorem Run.size (R : Run T K ops pl E Hh) {i : Nat} (hi : i ≤ ops.size) : (E i).size = (E 0).size := by
  induction i with
  | zero => rfl
  | succ i ih =>
    obtain ⟨o, ho⟩ := some_of_lt (ops := ops) (show i < ops.size by omega)
    obtain ⟨v, hv⟩ := stepA_put (R.step i (by omega)) ho
    rw [hv, ← ih (by omega)]
    cases o.dst <;> simp [putA]

/-- A slot that nothing writes. -/
theorem Run.keep (R : Run T K ops pl E Hh) {i j t : Nat} (hij : i ≤ j) (hj : j ≤ ops.size) (hn : ∀ k o, i ≤ k → k < j → ops[k]? = some o → o.dst ≠ some t) : (E j).getD t undef = (E i).getD t undef := by
  induction j with
  | zero => have : i = 0 := by omega
            subst this; rfl
  | succ j ih =>
    by_cases e : i = j + 1
    · subst e; rfl
    · obtain ⟨o, ho⟩ := some_of_lt (ops := ops) (show j < ops.size by omega)
      obtain ⟨v, hv⟩ := stepA_put (R.step j (by omega)) ho
      rw [← ih (by omega) (by omega) (fun k o h1 h2 => hn k o h1 (by omega)), hv]
      have hne := hn j o (by omega) (by omega) ho
      cases hd : o.dst with
      | none => rfl
      | some d =>
        have : d ≠ t := fun e => hne (by rw [hd, e])
        simp [putA, Array.getElem?_setIfInBounds_ne this]

/-- Between two effects there come new blocks alone. -/
theorem Run.between (R : Run T K ops pl E Hh) {s j : Nat} (hsj : s ≤ j) (hj : j ≤ ops.size) (hno : ∀ k o, s ≤ k → k < j → ops[k]? = some o → cls T o ≠ 2) :
    ∀ b x, (Hh j).get b = some x → (Hh s).get b = some x ∨ ∃ k o y, s ≤ k ∧ k < j ∧ ops[k]? = some o ∧ cls T o = 1 ∧ Hh (k + 1) = (Hh k).new y ∧ b = (Hh k).next ∧ x = y := by
  induction j with
  | zero => have : s = 0 := by omega
            subst this; intro b x h; exact .inl h
  | succ j ih =>
    by_cases e : s = j + 1
    · subst e; intro b x h; exact .inl h
    · intro b x h
      obtain ⟨o, ho⟩ := some_of_lt (ops := ops) (show j < ops.size by omega)
      have ih' := ih (by omega) (by omega) (fun k o h1 h2 => hno k o h1 (by omega))
      have up : (Hh j).get b = some x → (Hh s).get b = some x ∨ ∃ k o y, s ≤ k ∧ k < j + 1 ∧ ops[k]? = some o ∧ cls T o = 1 ∧ Hh (k + 1) = (Hh k).new y ∧ b = (Hh k).next ∧ x = y := by
        intro h
        rcases ih' b x h with h | ⟨k, o, y, q1, q2, q3⟩
        · exact .inl h
        · exact .inr ⟨k, o, y, q1, by omega, q3⟩
      have hne := hno j o (by omega) (by omega) ho
      have hst := R.step j (by omega)
      unfold stepA at hst
      rw [ho] at hst
      simp only at hst
      cases hw : Region.wanted o (yielded ops (E j)) with
      | false =>
        rw [hw] at hst
        simp only [cond_false, Option.some.injEq, Prod.mk.injEq] at hst
        exact up (by rw [← hst.2] at h; exact h)
      | true =>
        rw [hw] at hst; simp only [cond_true] at hst
        have hcl : cls T o = 0 ∨ cls T o = 1 := by
          have : cls T o ≤ 2 := cls_le T o
          omega
        rcases hcl with hcl | hcl
        · split at hst
          · rename_i v H1 h1
            obtain ⟨q1, _⟩ := opA_cls0 hcl h1
            simp only [Option.some.injEq, Prod.mk.injEq] at hst
            exact up (by rw [← hst.2, q1] at h; exact h)
          · rename_i H1 h1
            obtain ⟨q1, v, q2, _⟩ := opA_cls0 hcl h1
            cases q2
          · rename_i f args H1 h1
            obtain ⟨q1, v, q2, _⟩ := opA_cls0 hcl h1
            cases q2
          · cases hst
        · split at hst
          · rename_i v H1 h1
            simp only [Option.some.injEq, Prod.mk.injEq] at hst
            rcases opA_cls1 hcl h1 with ⟨v', q1, q2, _⟩ | ⟨v', y, q1, q2, _⟩
            · exact up (by rw [← hst.2, q2] at h; exact h)
            · rw [← hst.2, q2, AHeap.get_new] at h
              split at h
              · rename_i e1
                cases h
                exact .inr ⟨j, o, _, by omega, by omega, ho, hcl, by rw [← hst.2, q2], e1, rfl⟩
              · exact up h
          · rename_i H1 h1
            rcases opA_cls1 hcl h1 with ⟨v', q1, _⟩ | ⟨v', y, q1, _⟩ <;> cases q1
          · rename_i f args H1 h1
            rcases opA_cls1 hcl h1 with ⟨v', q1, _⟩ | ⟨v', y, q1, _⟩ <;> cases q1
          · cases hst

/-- What holds while a region is gone through in another order: what is listed has been done; the heap is the one ahead of s, and some new blocks. -/
structure Inv (T : Tab) (ops : Array Oper) (pl : Plan) (E : Nat → Env) (Hh : Nat → AHeap) (γ0 : Gam) (H0 : AHeap) (w0 : World) (d : List Deferred) (L : Array Bool) (a : Act) (w : World) (γ : Gam) (HL : AHeap) (s : Nat) : Prop where
  size : L.size = ops.size
  closed : ∀ i, i < ops.size → L.getD i true = true → ∀ j ∈ pl.at i, L.getD j true = true
  defers : a.defers = d
  next : HL.next = (Hh ops.size).next
  stp : StepT T γ0 H0 w0 γ HL w
  effs : ∀ i o, ops[i]? = some o → cls T o = 2 → (L.getD i true = true ↔ i < s)
  start : s ∈ starts T ops
  base : Sub' (Hh s) HL
  news : ∀ i o y, ops[i]? = some o → cls T o = 1 → L.getD i true = true → s ≤ i → Hh (i + 1) = (Hh i).new y → HL.get (Hh i).next = some y
  free : ∀ i, i < ops.size → L.getD i true = false → Free γ (Hh i).next (Hh (i + 1)).next
  tsize : a.tmps.size = (E 0).size
  done : ∀ i o t, ops[i]? = some o → o.dst = some t → L.getD i true = true → VR γ ((E ops.size).getD t undef) (a.tmps.getD t undef)
  todo : ∀ t, (∀ i o, ops[i]? = some o → o.dst = some t → L.getD i true = false) → VR γ ((E 0).getD t undef) (a.tmps.getD t undef)

theorem start_le {s : Nat} (hs : s ∈ starts T ops) : s ≤ ops.size := by
  unfold starts at hs
  rcases List.mem_cons.1 hs with h | h
  · omega
  · obtain ⟨i, hi, rfl⟩ := List.mem_map.1 h
    have := (List.mem_filter.1 hi).1
    simp at this; omega

theorem start_of {i : Nat} {o : Oper} (ho : ops[i]? = some o) (hc : cls T o = 2) : i + 1 ∈ starts T ops := by
  unfold starts
  refine List.mem_cons_of_mem _ (List.mem_map.2 ⟨i, List.mem_filter.2 ⟨by simpa using lt_of_some ho, ?_⟩, rfl⟩)
  rw [ho]; simp [hc]

variable {γ0 : Gam} {H0 : AHeap} {w0 : World} {d : List Deferred} {L : Array Bool} {a : Act} {w : World} {γ : Gam} {HL : AHeap} {s : Nat}

theorem Run.unique (R : Run T K ops pl E Hh) {i j t : Nat} {o p : Oper} (ho : ops[i]? = some o) (hp : ops[j]? = some p) (h1 : o.dst = some t) (h2 : p.dst = some t) : i = j := by
  rcases Nat.decEq i j with h | h
  · exact absurd h1 ((R.two ho hp).2.1 t h2 h)
  · exact h

/-- A slot that an operation looks at. -/
theorem Inv.looks (R : Run T K ops pl E Hh) (V : Inv T ops pl E Hh γ0 H0 w0 d L a w γ HL s) {i : Nat} {o : Oper} (ho : ops[i]? = some o) (hn : L.getD i true = false) (hbf : ∀ j ∈ pl.at i, L.getD j true = true) {t : Nat} (ht : t ∈ o.looksAt ops) :
    VR γ ((E i).getD t undef) (a.tmps.getD t undef) := by
  have hi := lt_of_some ho
  by_cases hw : ∃ (j : Nat) (p : Oper), ops[j]? = some p ∧ p.dst = some t
  · obtain ⟨j, p, hp, hpd⟩ := hw
    have hj := lt_of_some hp
    have uniq : ∀ k q, ops[k]? = some q → q.dst = some t → k = j := fun k q hk hq => R.unique hk hp hq hpd
    rcases (R.two ho hp).1 t hpd ht with h | h | h
    · subst h
      rw [R.keep (Nat.zero_le i) (by omega) (fun k q _ hk hq e => by have := uniq k q hq e; omega)]
      exact V.todo t fun k q hk hq => by rw [uniq k q hk hq]; exact hn
    · have hji := ((R.edges ho).2.1 j h).1
      rw [← R.keep (show i ≤ ops.size by omega) (Nat.le_refl _) (fun k q hk _ hq e => by have := uniq k q hq e; omega)]
      exact V.done j p t hp hpd (hbf j h)
    · have hij := ((R.edges hp).2.1 i h).1
      rw [R.keep (Nat.zero_le i) (by omega) (fun k q _ hk hq e => by have := uniq k q hq e; omega)]
      refine V.todo t fun k q hk hq => ?_
      rw [uniq k q hk hq]
      cases hL : L.getD j true with
      | false => rfl
      | true => rw [V.closed j hj hL i h] at hn; cases hn
  · rw [R.keep (Nat.zero_le i) (by omega) (fun k q _ _ hq e => hw ⟨k, q, hq, e⟩)]
    exact V.todo t fun k q hk hq => absurd ⟨k, q, hk, hq⟩ hw

theorem mem_looks {o : Oper} {t : Nat} (h : Operand.tmp t ∈ o.op.operands) : t ∈ o.looksAt ops := by
  unfold Oper.looksAt
  refine List.mem_append_left _ (List.mem_filterMap.2 ⟨.tmp t, by simpa using h, rfl⟩)

theorem Inv.operands (R : Run T K ops pl E Hh) (V : Inv T ops pl E Hh γ0 H0 w0 d L a w γ HL s) {i : Nat} {o : Oper} (ho : ops[i]? = some o) (hn : L.getD i true = false) (hbf : ∀ j ∈ pl.at i, L.getD j true = true) (hok : operOk T.G o = true) :
    ∀ x ∈ o.op.operands, VR γ (evA (E i) x) (a.eval x) := by
  intro x hx
  have hxo : operandOk T.G x = true := List.all_eq_true.1 hok x (by simpa using hx)
  cases x with
  | tmp t => exact V.looks R ho hn hbf (mem_looks hx)
  | const v => exact flat_refl hxo
  | global g =>
    have hg : g < T.G := by simpa [operandOk] using hxo
    obtain ⟨A, h1, h2, h3⟩ := V.stp.hr.glob g hg
    have := VR.ptr (γ := γ) (b := g) (o := 0) (A := A) h1
    rw [h2, h3] at this
    exact this
  | func f => exact .func rfl (fun i h => by simp at h) rfl (fun i h => by simp at h)

theorem getD_of_lt {c : Array Value} {t : Nat} (h : t < c.size) : c[t]? = some (c.getD t undef) := by
  simp [h]

theorem Inv.wanted (R : Run T K ops pl E Hh) (V : Inv T ops pl E Hh γ0 H0 w0 d L a w γ HL s) {i : Nat} {o : Oper} (ho : ops[i]? = some o) (hn : L.getD i true = false) (hbf : ∀ j ∈ pl.at i, L.getD j true = true) :
    Region.wanted o (yielded ops a.tmps) = Region.wanted o (yielded ops (E i)) := by
  unfold Region.wanted
  cases hg : o.guard with
  | none => rfl
  | some gb =>
    obtain ⟨g, b⟩ := gb
    have : yielded ops a.tmps g = yielded ops (E i) g := by
      unfold yielded
      cases hd : (ops[g]?).bind (·.dst) with
      | none => rfl
      | some t =>
        simp only [Option.bind_some]
        have hl : t ∈ o.looksAt ops := by
          unfold Oper.looksAt
          refine List.mem_append_right _ ?_
          rw [hg]
          simp only
          rw [hd]; simp
        have hv := V.looks R ho hn hbf hl
        have hsz : (E i).size = (E 0).size := R.size (by have := lt_of_some ho; omega)
        rcases Nat.lt_or_ge t (Array.size (E 0)) with ht | ht
        · rw [getD_of_lt (show t < a.tmps.size by rw [V.tsize]; exact ht), getD_of_lt (show t < (E i).size by rw [hsz]; exact ht)]
          generalize a.tmps.getD t undef = y at hv
          generalize (E i).getD t undef = x at hv
          cases hv <;> rfl
        · rw [Array.getElem?_eq_none (by rw [V.tsize]; exact ht), Array.getElem?_eq_none (by rw [hsz]; exact ht)]
    simp only [this]

/-- An operation has been carried out. -/
theorem new_ne {H : AHeap} {y : AObj} (h : H = H.new y) : False := by
  have := congrArg AHeap.next h
  rw [AHeap.next_new] at this
  omega

theorem new_inj {H : AHeap} {x y : AObj} (h : H.new x = H.new y) : x = y := by
  have := congrArg (fun G => AHeap.get G H.next) h
  simp only [AHeap.get_new, if_true] at this
  exact Option.some.inj this

theorem Run.newWr (R : Run T K ops pl E Hh) {j : Nat} {o : Oper} {y : AObj} (ho : ops[j]? = some o) (hc : cls T o = 1) (hy : Hh (j + 1) = (Hh j).new y) : y.wr = true := by
  have st := R.step j (lt_of_some ho)
  unfold stepA at st
  rw [ho] at st
  simp only at st
  cases hw : Region.wanted o (yielded ops (E j)) with
  | false =>
    rw [hw] at st
    simp only [cond_false, Option.some.injEq, Prod.mk.injEq] at st
    rw [← st.2] at hy
    exact (new_ne hy).elim
  | true =>
    rw [hw] at st
    simp only [cond_true] at st
    split at st
    · rename_i v H1 h1
      simp only [Option.some.injEq, Prod.mk.injEq] at st
      rw [← st.2] at hy
      rcases opA_cls1 hc h1 with ⟨v', q1, q2, _⟩ | ⟨v', x, q1, q2, q3, _⟩
      · rw [q2] at hy; exact (new_ne hy).elim
      · rw [q2] at hy; rw [← new_inj hy]; exact q3
    · rename_i H1 h1
      rcases opA_cls1 hc h1 with ⟨v', q1, _⟩ | ⟨v', x, q1, _⟩ <;> cases q1
    · rename_i f args H1 h1
      rcases opA_cls1 hc h1 with ⟨v', q1, _⟩ | ⟨v', x, q1, _⟩ <;> cases q1
    · cases st

theorem Inv.next' (R : Run T K ops pl E Hh) (hK : KOk T K) (V : Inv T ops pl E Hh γ0 H0 w0 d L a w γ HL s) (h0 : (Hh 0).next = H0.next) {i : Nat} {o : Oper} (ho : ops[i]? = some o) (hn : L.getD i true = false) (hbf : ∀ j ∈ pl.at i, L.getD j true = true)
    {H1 Hn : AHeap} (hsub : Sub' H1 HL) (hn1 : H1.next = (Hh i).next) (hn2 : Hn.next = (Hh (i + 1)).next) {γ' : Gam} {v v' : Value} {w' : World} (hE : E (i + 1) = putA (E i) o.dst v) (hv : VR γ' v v') (hs : StepT T γ H1 w γ' Hn w')
    {s' : Nat} (hs' : s' ∈ starts T ops) (heffs : ∀ k p, ops[k]? = some p → cls T p = 2 → ((L.setIfInBounds i true).getD k true = true ↔ k < s')) (hss : s ≤ s') (hbase : ∀ b x, (Hh s').get b = some x → Hn.get b = some x ∨ (Hn.get b = none ∧ H1.get b = none ∧ HL.get b = some x))
    (hnew : ∀ y, cls T o = 1 → s' ≤ i → Hh (i + 1) = (Hh i).new y → Hn.get (Hh i).next = some y)
    (hkeep : ∀ j p y, j ≠ i → ops[j]? = some p → cls T p = 1 → L.getD j true = true → s' ≤ j → Hh (j + 1) = (Hh j).new y → HL.get (Hh j).next = some y → H1.get (Hh j).next = none ∨ Hn.get (Hh j).next = some y) :
    ∃ HX, Inv T ops pl E Hh γ0 H0 w0 d (L.setIfInBounds i true) (a.put o.dst v') w' γ' HX s' := by
  have hi := lt_of_some ho
  obtain ⟨HX, x1, x2⟩ := over (Hh ops.size).next Hn H1 HL
  obtain ⟨e1, e2, e3⟩ := Step.extend V.stp.hr hsub hs x2
  have hLi : ∀ k, (L.setIfInBounds i true).getD k true = true ↔ (k = i ∨ L.getD k true = true) := by
    intro k
    by_cases e : i = k
    · subst e
      have : i < L.size := by rw [V.size]; exact hi
      simp [this]
    · have e2 : (L.setIfInBounds i true).getD k true = L.getD k true := by
        simp [Array.getElem?_setIfInBounds_ne e]
      rw [e2]
      constructor
      · intro h; exact .inr h
      · rintro (h | h)
        · exact absurd h.symm e
        · exact h
  have hLf : ∀ k, (L.setIfInBounds i true).getD k true = false → k ≠ i ∧ L.getD k true = false := by
    intro k h
    refine ⟨fun e => ?_, ?_⟩
    · rw [(hLi k).2 (.inl e)] at h; cases h
    · cases hk : L.getD k true with
      | false => rfl
      | true => rw [(hLi k).2 (.inr hk)] at h; cases h
  have hm0 := R.mono hK (Nat.zero_le i) (by omega)
  have hm1 := R.mono hK (show i + 1 ≤ ops.size by omega) (Nat.le_refl _)
  have hm2 := R.mono hK (show i ≤ i + 1 by omega) (by omega)
  refine ⟨HX, ?_⟩
  exact {
    size := by simp [V.size]
    closed := fun k hk hL j hj => by
      rcases (hLi k).1 hL with h | h
      · subst h; exact (hLi j).2 (.inr (hbf j hj))
      · exact (hLi j).2 (.inr (V.closed k hk h j hj))
    defers := (put_defers' a o.dst v').trans V.defers
    next := x1
    stp := {
      le := by rw [x1, ← h0]; omega
      agree := fun b hb => by
        rw [hs.agree b (by rw [hn1, hn2]; rw [x1, ← h0] at hb; omega)]
        exact V.stp.agree b (by rw [V.next]; rw [x1] at hb; exact hb)
      sub := V.stp.sub.trans hs.sub
      hr := e1
      frame := fun B hB hnn => by
        rw [e2 B (Nat.lt_of_lt_of_le hB V.stp.size) ?_, V.stp.frame B hB hnn]
        intro b o A hb hwr hA e
        rcases V.stp.fresh b o A hb hA with h1 | ⟨c, p, D, h1, h2, h3, h4⟩
        · omega
        · exact hnn c p D h1 (h4 hwr) h2 (h3.trans e)
      fresh := fun b o A hb hA => by
        rcases e3 b o A hb hA with h1 | ⟨c, p, D, h1, h2, h3, w1⟩
        · have := V.stp.size; left; omega
        · rcases V.stp.fresh c p D h1 h2 with h4 | ⟨c', p', D', h4, h5, h6, w2⟩
          · left; omega
          · exact .inr ⟨c', p', D', h4, h5, h6.trans h3, fun q => w2 (w1 q)⟩
      size := Nat.le_trans V.stp.size hs.size
      os := hs.os.trans V.stp.os
      output := hs.output.trans V.stp.output
      tape := hs.tape.trans V.stp.tape }
    effs := heffs
    start := hs'
    base := fun b x hb => (x2 b x).2 (hbase b x hb)
    news := fun j p y hp hc hL hsj hy => by
      rcases (hLi j).1 hL with h | h
      · subst h
        rw [hp] at ho; cases ho
        exact (x2 _ _).2 (.inl (hnew y hc hsj hy))
      · by_cases hji : j = i
        · subst hji; rw [h] at hn; cases hn
        · have hHL := V.news j p y hp hc h (by omega) hy
          rcases hkeep j p y hji hp hc h hsj hy hHL with q | q
          · -- the step made nothing of that name
            cases hz : Hn.get (Hh j).next with
            | none => exact (x2 _ _).2 (.inr ⟨hz, q, hHL⟩)
            | some z =>
              exfalso
              obtain ⟨A, g1, g2⟩ := V.stp.hr.live _ _ hHL
              have g3 := hs.sub _ _ g1
              rcases hs.fresh _ z A hz g3 with k | ⟨c, pp, D, k1, k2, k3, _⟩
              · have := g2.lt; omega
              · have := V.stp.hr.inj c _ pp y D A (hsub c pp k1) hHL k2 g1 k3 (.inr (R.newWr hp hc hy))
                subst this; rw [q] at k1; cases k1
          · exact (x2 _ _).2 (.inl q)
    free := fun k hk hL b h1 h2 => by
      obtain ⟨hki, hLk⟩ := hLf k hL
      have hf := V.free k hk hLk b h1 h2
      rw [hs.agree b ?_]
      · exact hf
      · rw [hn1, hn2]
        rcases Nat.lt_or_gt_of_ne hki with h | h
        · have := R.mono hK (show k + 1 ≤ i by omega) (by omega); left; omega
        · have := R.mono hK (show i + 1 ≤ k by omega) (by omega); right; omega
    tsize := by rw [put_tmps, ← V.tsize]; cases o.dst <;> simp [putA]
    done := fun k p t hp hd hL => by
      rcases (hLi k).1 hL with h | h
      · subst h
        rw [hp] at ho; cases ho
        have hEn : (E ops.size).getD t undef = (E (k + 1)).getD t undef := R.keep (show k + 1 ≤ ops.size by omega) (Nat.le_refl _) (fun j q h1 _ hq e => by have := R.unique hq hp e hd; omega)
        rw [hEn, hE, put_tmps, hd]
        simp only [putA]
        have hsz : (E k).size = (E 0).size := R.size (by omega)
        by_cases ht : t < (E 0).size
        · have q1 : t < (E k).size := by omega
          have q2 : t < a.tmps.size := by rw [V.tsize]; exact ht
          simp [q1, q2, hv]
        · have q1 : ¬ t < (E k).size := by omega
          have q2 : ¬ t < a.tmps.size := by rw [V.tsize]; exact ht
          simp [q1, q2, undef_rel]
      · have hne : o.dst ≠ some t := fun e => by
          have := R.unique ho hp e hd
          subst this; rw [h] at hn; cases hn
        have := (V.done k p t hp hd h).mono hs.sub
        rw [put_tmps]
        cases hod : o.dst with
        | none => exact this
        | some t' =>
          have : t' ≠ t := fun e => hne (by rw [hod, e])
          simp only [putA]
          simpa [Array.getElem?_setIfInBounds_ne this] using ‹VR γ' ((E ops.size).getD t undef) (a.tmps.getD t undef)›
    todo := fun t hall => by
      have hne : o.dst ≠ some t := fun e => by
        have := hall i o ho e
        rw [(hLi i).2 (.inl rfl)] at this; cases this
      have := (V.todo t fun k p hp hd => (hLf k (hall k p hp hd)).2).mono hs.sub
      rw [put_tmps]
      cases hod : o.dst with
      | none => exact this
      | some t' =>
        have hh : t' ≠ t := fun e => hne (by rw [hod, e])
        simp only [putA]
        simpa [Array.getElem?_setIfInBounds_ne hh] using this }
end
end Go.AM
end

