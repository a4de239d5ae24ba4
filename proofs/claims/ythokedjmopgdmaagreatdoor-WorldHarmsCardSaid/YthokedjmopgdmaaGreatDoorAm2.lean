/- A part of the proof that WorldHarms answers true at every input: the abstract machine: single operations keep the match. -/
import Derived.Test.YthokedjmopgdmaaGreatDoorAm1
import Derived.Laws.BytesArg
import Derived.Lib.ConvBytes
import Derived.Laws.IdiomStrings
import Derived.Deep.AppendSrc
import Derived.Lib.AppendZerosOnto
set_option linter.all false
section
/- The abstract machine, part E: operations that read memory. -/
namespace Go.AM
variable {T : Tab}

abbrev HRT (T : Tab) := HR T.info T.G
abbrev StepT (T : Tab) := Step T.info T.G

def loadV (T : Tab) (H : AHeap) (t : TypeId) (x : Value) : Option Value :=
  match x with
  | .pointer (some ⟨b, o, none⟩) => match T.agg t with
    | some true => match T.info t with
      | some i => match ldN H b o i.size with
        | some l => some (.agg l.toArray)
        | none => none
      | none => none
    | some false => ld H b o
    | none => none
  | _ => none

theorem run_load_cell {P : Program} {w : World} {a : Addr} {v : Value} (h : w.cell? a = some v) : (load a).run P w = .ok v w := by simp [h]

theorem loadV_ok (hT : T.Ok) {γ : Gam} {H : AHeap} {w : World} (h : HRT T γ H w) {t : TypeId} {x x' v : Value} (hl : loadV T H t x = some v) (hx : VR γ x x') :
    ∃ v', (Instr.loadAt t x').run T.P w = .ok v' w ∧ VR γ v v' := by
  unfold loadV at hl
  split at hl
  · rename_i b o
    cases hx with
    | ptr hA =>
      rename_i A
      cases ha : T.agg t with
      | none => simp [ha] at hl
      | some g =>
        cases g with
        | true =>
          simp only [ha] at hl
          cases hi : T.info t with
          | none => simp [hi] at hl
          | some i =>
            simp only [hi] at hl
            cases hn : ldN H b o i.size with
            | none => simp [hn] at hl
            | some l =>
              simp only [hn, Option.some.injEq] at hl
              subst hl
              obtain ⟨l', h1, h2, h3⟩ := cells_of h hA hn
              refine ⟨.agg l'.toArray, ?_, VR.agg' h1.toArray⟩
              have := run_cells (P := T.P) h3
              rw [h2] at this
              simp [Instr.loadAt, Instr.sureAddr, loadVar, hT.run_agg ha, hT.run_size hi, this]
        | false =>
          simp only [ha] at hl
          obtain ⟨v', h1, h2⟩ := cell_of h hA hl
          exact ⟨v', by simp [Instr.loadAt, Instr.sureAddr, loadVar, hT.run_agg ha, h1], h2⟩
  · cases hl

/-! A slice of a slice. -/
def optNat : Option Value → Option (Option Nat)
  | none => some none
  | some (.int _ i) => cond (decide (0 ≤ i)) (some (some i.toNat)) none
  | _ => none

def normCap (n c : Nat) : Nat := if c < U then c else if c < U + n then U + n else c
def capLow (c : Nat) : Nat := if c < U then c else c - U

def okBounds (c n : Nat) (lo hi mx : Option Nat) : Bool :=
  (match mx with | some k => Nat.ble k (capLow c) && Nat.blt k U && hi.isSome | none => true) && (match hi with | some k => Nat.ble k (capLow (mx.getD c)) | none => true) && Nat.ble (lo.getD 0) (hi.getD n)

def sliceB (H : AHeap) (e : TypeId) (s : Nat) (a : Option Addr) (l h m : Nat) : Option Value :=
  match a with
  | none => some (.slice none (h - l) (m - l))
  | some ⟨b, o, none⟩ => cond (Nat.blt m U && Nat.beq m l) (some (.slice (some ⟨b, o, none⟩) (h - l) (m - l)))
    (match H.get b with
      | some (.cells _ e' _) => cond (Nat.beq e' e) (some (.slice (some ⟨b, o + l * s, none⟩) (h - l) (m - l))) none
      | some (.ro _ e') => cond (Nat.beq e' e) (some (.slice (some ⟨b, o + l * s, none⟩) (h - l) (m - l))) none
      | _ => none)
  | _ => none

def sliceA (T : Tab) (H : AHeap) (t : TypeId) (x : Value) (lo hi mx : Option Value) : Option Value :=
  match T.und t, x with
  | some (.slice e), .slice a n c => match T.info e, optNat lo, optNat hi, optNat mx with
    | some inf, some lo, some hi, some mx => cond (okBounds (normCap n c) n lo hi mx) (sliceB H e inf.size a (lo.getD 0) (hi.getD n) (mx.getD (normCap n c))) none
    | _, _, _, _ => none
  | _, _ => none

theorem U_pos : 0 < U := by unfold U; exact Nat.two_pow_pos _

theorem capOk_norm {n c c' : Nat} (h : capOk c c') (hn : n ≤ c') : capOk (normCap n c) c' := by
  unfold capOk normCap at *
  split at h
  · rename_i h1; rw [if_pos h1, if_pos h1]; exact h
  · rename_i h1
    rw [if_neg h1]
    split
    · rw [if_neg (by omega)]; omega
    · first | exact h | (rw [if_neg (by omega)]; omega)

theorem normCap_ge {n c : Nat} (h : ¬ normCap n c < U) : U + n ≤ normCap n c := by
  unfold normCap at *
  split at h
  · rename_i h1; exact absurd h1 h
  · rename_i h1
    rw [if_neg h1]
    split <;> omega

theorem capLow_le {c c' : Nat} (h : capOk c c') : capLow c ≤ c' := by
  unfold capOk capLow at *
  split at h <;> rename_i h1 <;> simp [h1] <;> omega

theorem sliceBound_ok {P : Program} {w : World} {k : IntKind} {i : Int} {y : Nat} {code : BoundsCode} (h : 0 ≤ i) (hy : i.toNat ≤ y) : (Instr.sliceBound (.int k i) y code).run P w = .ok i.toNat w := by
  have : i ≤ y := by omega
  simp [Instr.sliceBound, asIntOf, h, this]

theorem optNat_eq {x : Option Value} {r : Option Nat} (h : optNat x = some r) :
    (x = none ∧ r = none) ∨ ∃ k i, x = some (.int k i) ∧ 0 ≤ i ∧ r = some i.toNat := by
  unfold optNat at h
  split at h
  · left; cases h; exact ⟨rfl, rfl⟩
  · rename_i k i
    by_cases hi : 0 ≤ i
    · simp [hi] at h; right; exact ⟨k, i, rfl, hi, h.symm⟩
    · simp [hi] at h
  · cases h

/-- Options of related values. -/
def VO (γ : Gam) (x x' : Option Value) : Prop := match x, x' with
  | none, none => True
  | some v, some v' => VR γ v v'
  | _, _ => False

theorem VO.int {γ : Gam} {k : IntKind} {i : Int} {x : Option Value} (h : VO γ (some (.int k i)) x) : x = some (.int k i) := by
  cases x with
  | none => exact h.elim
  | some v => cases h; rfl
theorem VO.none' {γ : Gam} {x : Option Value} (h : VO γ none x) : x = none := by
  cases x with
  | none => rfl
  | some v => exact h.elim

theorem bounds_ok {P : Program} {w : World} {γ : Gam} {n c c' : Nat} {lo hi mx lo' hi' mx' : Option Value} {rl rh rm : Option Nat} (h1 : optNat lo = some rl) (h2 : optNat hi = some rh) (h3 : optNat mx = some rm)
    (v1 : VO γ lo lo') (v2 : VO γ hi hi') (v3 : VO γ mx mx') (hc : capOk c c') (hok : okBounds c n rl rh rm = true) :
    (Instr.sliceBounds true n c' lo' hi' mx').run P w = .ok (rl.getD 0, rh.getD n, rm.getD c') w := by
  unfold okBounds at hok
  simp only [Bool.and_eq_true] at hok
  obtain ⟨⟨hm, hh⟩, hl⟩ := hok
  have hle := capLow_le hc
  rcases optNat_eq h3 with ⟨rfl, rfl⟩ | ⟨k3, i3, rfl, p3, rfl⟩
  · rw [VO.none' v3]
    rcases optNat_eq h2 with ⟨rfl, rfl⟩ | ⟨k2, i2, rfl, p2, rfl⟩
    · rw [VO.none' v2]
      rcases optNat_eq h1 with ⟨rfl, rfl⟩ | ⟨k1, i1, rfl, p1, rfl⟩
      · rw [VO.none' v1]; simp [Instr.sliceBounds]
      · rw [VO.int v1]
        simp only [Option.getD_some, Option.getD_none] at hl
        simp [Instr.sliceBounds, sliceBound_ok p1 (Nat.le_of_ble_eq_true hl)]
    · rw [VO.int v2]
      try simp only [Option.getD_some, Option.getD_none] at hh
      try simp only [Option.getD_some, Option.getD_none] at hl
      have hh := Nat.le_of_ble_eq_true hh
      rcases optNat_eq h1 with ⟨rfl, rfl⟩ | ⟨k1, i1, rfl, p1, rfl⟩
      · rw [VO.none' v1]
        simp [Instr.sliceBounds, sliceBound_ok p2 (show i2.toNat ≤ c' by omega)]
      · rw [VO.int v1]
        simp [Instr.sliceBounds, sliceBound_ok p2 (show i2.toNat ≤ c' by omega), sliceBound_ok p1 (Nat.le_of_ble_eq_true hl)]
  · rw [VO.int v3]
    simp only [Bool.and_eq_true] at hm
    have hm1 := Nat.le_of_ble_eq_true hm.1.1
    have hm2 : i3.toNat < U := by simpa using hm.1.2
    rcases optNat_eq h2 with ⟨rfl, rfl⟩ | ⟨k2, i2, rfl, p2, rfl⟩
    · simp at hm
    · rw [VO.int v2]
      try simp only [Option.getD_some, Option.getD_none] at hh
      try simp only [Option.getD_some, Option.getD_none] at hl
      have hh := Nat.le_of_ble_eq_true hh
      simp only [capLow, hm2, if_true] at hh
      rcases optNat_eq h1 with ⟨rfl, rfl⟩ | ⟨k1, i1, rfl, p1, rfl⟩
      · rw [VO.none' v1]
        simp [Instr.sliceBounds, sliceBound_ok p3 (show i3.toNat ≤ c' by omega), sliceBound_ok p2 hh]
      · rw [VO.int v1]
        simp [Instr.sliceBounds, sliceBound_ok p3 (show i3.toNat ≤ c' by omega), sliceBound_ok p2 hh, sliceBound_ok p1 (Nat.le_of_ble_eq_true hl)]

theorem elem_size {γ : Gam} {H : AHeap} {w : World} (h : HRT T γ H w) {b : Nat} {c : List Value} {e : TypeId} {st : Fl} {A : At} {inf : TypeInfo} (hb : H.get b = some (.cells c e st)) (hA : γ b = some A) (hi : T.info e = some inf) : A.s = inf.size := by
  obtain ⟨A', h1, cc, fr, h2, h3, h4, ⟨⟨i, h5, h6⟩, _⟩, h7⟩ := h.live b _ hb
  rw [hA] at h1; cases h1
  rw [hi] at h5; cases h5; exact h6.symm

theorem elem_size_ro {γ : Gam} {H : AHeap} {w : World} (h : HRT T γ H w) {b : Nat} {c : List Value} {e : TypeId} {A : At} {inf : TypeInfo} (hb : H.get b = some (.ro c e)) (hA : γ b = some A) (hi : T.info e = some inf) : A.s = inf.size := by
  obtain ⟨A', h1, cc, e', fr, h2, h3, ⟨i, h5, h6⟩, h7⟩ := h.live b _ hb
  rw [hA] at h1; cases h1
  rw [hi] at h5; cases h5; exact h6.symm

theorem sliceA_ok (hT : T.Ok) {γ : Gam} {H : AHeap} {w : World} (hr : HRT T γ H w) {t : TypeId} {x x' v : Value} {lo hi mx lo' hi' mx' : Option Value}
    (h : sliceA T H t x lo hi mx = some v) (hx : VR γ x x') (v1 : VO γ lo lo') (v2 : VO γ hi hi') (v3 : VO γ mx mx') :
    ∃ v', (Instr.sliceAt t x' lo' hi' mx').run T.P w = .ok v' w ∧ VR γ v v' := by
  unfold sliceA at h
  split at h
  · rename_i e a n c0 hu
    split at h
    · rename_i inf rl rh rm hinf h1 h2 h3
      obtain ⟨c, hc0⟩ : ∃ c, normCap n c0 = c := ⟨_, rfl⟩
      rw [hc0] at h
      cases hok : okBounds c n rl rh rm with
      | false => rw [hok] at h; cases h
      | true =>
        rw [hok] at h
        simp only [cond_true] at h
        have hok' := hok
        unfold okBounds at hok'
        simp only [Bool.and_eq_true] at hok'
        obtain ⟨⟨q1, q2⟩, q3⟩ := hok'
        obtain ⟨m, hm⟩ : ∃ m, rm.getD c = m := ⟨_, rfl⟩
        obtain ⟨hg, hh⟩ : ∃ m, rh.getD n = m := ⟨_, rfl⟩
        obtain ⟨l, hl⟩ : ∃ m, rl.getD 0 = m := ⟨_, rfl⟩
        rw [hm] at q2
        rw [hl, hh] at q3
        rw [hm, hh, hl] at h
        have hlh := Nat.le_of_ble_eq_true q3
        have run : ∀ (a' : Option Addr) (c' : Nat), capOk c c' → (Instr.sliceAt t (.slice a' n c') lo' hi' mx').run T.P w =
            .ok (.slice (if rm.getD c' = l then a' else a'.map (·.add (l * inf.size))) (hg - l) (rm.getD c' - l)) w := by
          intro a' c' hc
          have := bounds_ok (P := T.P) (w := w) (n := n) h1 h2 h3 v1 v2 v3 hc hok
          rw [hl, hh] at this
          simp [Instr.sliceAt, hT.run_und hu, Instr.slice, this, hT.run_size hinf]
        have mk : ∀ c', capOk c c' → n ≤ c' → ∃ m', rm.getD c' = m' ∧ capOk m m' ∧ hg ≤ m' ∧ m' ≤ c' := by
          intro c' hc hn
          have hle := capLow_le hc
          cases rm with
          | some k =>
            simp only [Option.getD_some] at hm
            simp only [Bool.and_eq_true] at q1
            have hk1 := Nat.le_of_ble_eq_true q1.1.1
            have hk : k < U := by simpa using q1.1.2
            subst hm
            refine ⟨k, rfl, by simp [capOk, hk], ?_, by omega⟩
            cases rh with
            | none => simp at q1
            | some j =>
              simp only [Option.getD_some] at hh; subst hh
              have := Nat.le_of_ble_eq_true q2
              simpa [capLow, hk] using this
          | none =>
            simp only [Option.getD_none] at hm
            subst hm
            refine ⟨c', rfl, hc, ?_, Nat.le_refl _⟩
            cases rh with
            | none => simp only [Option.getD_none] at hh; omega
            | some j => simp only [Option.getD_some] at hh; subst hh; have := Nat.le_of_ble_eq_true q2; omega
        -- a capacity that is less by l
        have less : ∀ m', capOk m m' → hg ≤ m' → (m < U ∨ U + hg ≤ m) → capOk (m - l) (m' - l) := by
          intro m' hmm hg' hmu
          unfold capOk at *
          split at hmm <;> rename_i hmU
          · rw [if_pos (by omega)]; omega
          · rw [if_neg (by omega)]; omega
        have mbig : m < U ∨ U + hg ≤ m := by
          by_cases hmU : m < U
          · exact .inl hmU
          · right
            cases rm with
            | some k => simp only [Option.getD_some] at hm; simp only [Bool.and_eq_true] at q1; subst hm; exact absurd (by simpa using q1.1.2) hmU
            | none =>
              simp only [Option.getD_none] at hm; subst hm
              cases rh with
              | some j => simp only [Option.getD_some] at hh; subst hh; have := Nat.le_of_ble_eq_true q2; simp only [capLow, if_neg hmU] at this; omega
              | none =>
                simp only [Option.getD_none] at hh; subst hh; subst hc0
                exact normCap_ge hmU
        unfold sliceB at h
        cases hx with
        | nilSlice =>
          simp only [Option.some.injEq] at h
          subst h
          have hc : capOk c 0 := by rw [← hc0]; exact capOk_norm (by simp [capOk, U_pos]) (Nat.le_refl _)
          obtain ⟨m', e1, e2, e3, e4⟩ := mk 0 hc (Nat.le_refl _)
          have : m' = 0 := by omega
          subst this
          have hg0 : hg = 0 := by omega
          have hl0 : l = 0 := by omega
          refine ⟨_, run none 0 hc, ?_⟩
          rw [e1]
          have hm0 : m = 0 := by
            rcases mbig with h | h
            · simp only [capOk, if_pos h] at e2; exact e2.symm
            · exfalso
              subst hc0
              cases rm with
              | some k => simp only [Option.getD_some] at hm; simp only [Bool.and_eq_true] at q1; subst hm; (have : k < U := by simpa using q1.1.2); omega
              | none => simp only [Option.getD_none] at hm; subst hm; simp only [normCap, U_pos, if_true] at h; have := U_pos; omega
          subst hg0; subst hl0; subst hm0
          exact .nilSlice
        | slice hA hc hN hn =>
          rename_i b o c1 A
          have hc' : capOk c c1 := by rw [← hc0]; exact capOk_norm hc hn
          obtain ⟨m', e1, e2, e3, e4⟩ := mk c1 hc' hn
          refine ⟨_, run _ c1 hc', ?_⟩
          rw [e1]
          have e5 := less m' e2 e3 mbig
          simp only at h
          cases hq : (Nat.blt m U && Nat.beq m l) with
          | true =>
            rw [hq] at h
            simp only [cond_true, Option.some.injEq] at h
            subst h
            simp only [Bool.and_eq_true] at hq
            have hmU : m < U := by simpa using hq.1
            have hml : m = l := by simpa using hq.2
            have : m' = m := by simpa [capOk, hmU] using e2
            subst this
            rw [if_pos hml]
            refine .slice hA e5 ?_ (by omega)
            have : (m' - l) * A.s ≤ c1 * A.s := Nat.mul_le_mul_right _ (by omega)
            omega
          | false =>
            rw [hq] at h
            simp only [cond_false] at h
            split at h
            · rename_i cc e' st hb
              cases he : Nat.beq e' e with
              | false => rw [he] at h; cases h
              | true =>
                rw [he] at h
                simp only [cond_true, Option.some.injEq] at h
                subst h
                have : e' = e := by simpa using he
                subst this
                have hs := elem_size hr hb hA hinf
                by_cases hml : m' = l
                · rw [if_pos hml]
                  have hg0 : hg - l = 0 := by omega
                  have hm0 : m' - l = 0 := by omega
                  rw [hg0, hm0]
                  rw [hm0] at e5
                  exact .noSlice e5 rfl
                · rw [if_neg hml]
                  simp only [Option.map_some, add_off]
                  rw [Nat.add_assoc]
                  refine .slice hA e5 ?_ (by omega)
                  rw [hs]
                  rw [hs] at hN
                  have h6 : l * inf.size + (m' - l) * inf.size = m' * inf.size := by rw [← Nat.add_mul]; congr 1; omega
                  have h7 : m' * inf.size ≤ c1 * inf.size := Nat.mul_le_mul_right _ e4
                  omega
            · rename_i cc e' hb
              cases he : Nat.beq e' e with
              | false => rw [he] at h; cases h
              | true =>
                rw [he] at h
                simp only [cond_true, Option.some.injEq] at h
                subst h
                have : e' = e := by simpa using he
                subst this
                have hs := elem_size_ro hr hb hA hinf
                by_cases hml : m' = l
                · rw [if_pos hml]
                  have hg0 : hg - l = 0 := by omega
                  have hm0 : m' - l = 0 := by omega
                  rw [hg0, hm0]
                  rw [hm0] at e5
                  exact .noSlice e5 rfl
                · rw [if_neg hml]
                  simp only [Option.map_some, add_off]
                  rw [Nat.add_assoc]
                  refine .slice hA e5 ?_ (by omega)
                  rw [hs]
                  rw [hs] at hN
                  have h6 : l * inf.size + (m' - l) * inf.size = m' * inf.size := by rw [← Nat.add_mul]; congr 1; omega
                  have h7 : m' * inf.size ≤ c1 * inf.size := Nat.mul_le_mul_right _ e4
                  omega
            · cases h
        | noSlice hc hsp =>
          rename_i a a'
          have hc' : capOk c 0 := by rw [← hc0]; exact capOk_norm hc (Nat.le_refl _)
          obtain ⟨m', e1, e2, e3, e4⟩ := mk 0 hc' (Nat.le_refl _)
          have : m' = 0 := by omega
          subst this
          have hg0 : hg = 0 := by omega
          have hl0 : l = 0 := by omega
          refine ⟨_, run _ 0 hc', ?_⟩
          rw [e1]
          have e5 := less 0 e2 e3 mbig
          subst hg0; subst hl0
          obtain ⟨b, o, sp⟩ := a
          simp only at hsp; subst hsp
          simp only at h
          cases hq : (Nat.blt m U && Nat.beq m 0) with
          | true =>
            rw [hq] at h
            simp only [cond_true, Option.some.injEq] at h
            subst h
            exact .noSlice e5 rfl
          | false =>
            rw [hq] at h
            simp only [cond_false] at h
            split at h
            · rename_i cc e' st hb
              cases he : Nat.beq e' e with
              | false => rw [he] at h; cases h
              | true =>
                rw [he] at h
                simp only [cond_true, Option.some.injEq] at h
                subst h
                exact .noSlice e5 rfl
            · rename_i cc e' hb
              cases he : Nat.beq e' e with
              | false => rw [he] at h; cases h
              | true =>
                rw [he] at h
                simp only [cond_true, Option.some.injEq] at h
                subst h
                exact .noSlice e5 rfl
            · cases h
    · cases h
  · cases h
end Go.AM
end

section
/- The abstract machine, part F: reads of maps and lengths, pointers held against one another, bytes as a text. -/
namespace Go.AM
variable {T : Tab}

/-! A key of a map. -/
def askA (T : Tab) (kt : TypeId) (k : Value) : List MapEntry → Nat → Option (Option (Nat × Value))
  | [], _ => some none
  | e :: es, i => cond (flat 2 e.key) (match pureA T.P (Op.equal kt k e.key) with
    | some true => some (some (i, e.val))
    | some false => askA T kt k es (i + 1)
    | none => none) none

def keysFlat (es : List MapEntry) : Bool := es.all fun e => flat 2 e.key

def findA (T : Tab) (kt : TypeId) (k : Value) (es : List MapEntry) : Option (Option (Nat × Value)) :=
  match T.und kt with
  | some kd => cond (keysFlat es) (match Instr.findNow kd k es 0 with
    | some r => some r
    | none => askA T kt k es 0) none
  | none => none

/-- What is found. -/
def FR (γ : Gam) (r r' : Option (Nat × Value)) : Prop := match r, r' with
  | none, none => True
  | some (i, v), some (i', v') => i = i' ∧ VR γ v v'
  | _, _ => False

theorem ER.cons_inv {γ : Gam} {e : MapEntry} {es l : List MapEntry} (h : ER γ (e :: es) l) : ∃ e' es', l = e' :: es' ∧ VR γ e.key e'.key ∧ VR γ e.val e'.val ∧ e.born = e'.born ∧ ER γ es es' := by
  match l, h with
  | [], h => simp [ER] at h
  | e' :: es', h =>
    obtain ⟨h1, h2, h3⟩ := h.2 0 e e' rfl rfl
    exact ⟨e', es', rfl, h1, h2, h3, by simpa using h.1, fun i x x' a a' => h.2 (i + 1) x x' (by simpa using a) (by simpa using a')⟩

theorem ER.nil_inv {γ : Gam} {l : List MapEntry} (h : ER γ [] l) : l = [] := List.eq_nil_of_length_eq_zero (by simpa using h.1.symm)

theorem now_ok {γ : Gam} {kd : TypeDesc} {k : Value} : ∀ (es es' : List MapEntry) (i : Nat), keysFlat es = true → ER γ es es' →
    match Instr.findNow kd k es i with
    | some r => ∃ r', Instr.findNow kd k es' i = some r' ∧ FR γ r r'
    | none => Instr.findNow kd k es' i = none := by
  intro es
  induction es with
  | nil =>
    intro es' i _ h
    rw [h.nil_inv]
    simp [Instr.findNow, FR]
  | cons e es ih =>
    intro es' i hf h
    obtain ⟨e', r', rfl, h1, h2, h3, h4⟩ := h.cons_inv
    simp only [keysFlat, List.all_cons, Bool.and_eq_true] at hf
    have hk : e'.key = e.key := flat_eq hf.1 h1
    simp only [Instr.findNow, hk]
    cases hs : Instr.sameNow kd k e.key with
    | none => simp
    | some b =>
      cases b with
      | true => simp [FR, h2]
      | false => exact ih r' (i + 1) hf.2 h4

theorem ask_ok {γ : Gam} {kt : TypeId} {k : Value} {w : World} : ∀ (es es' : List MapEntry) (i : Nat) (r : Option (Nat × Value)), askA T kt k es i = some r → ER γ es es' →
    ∃ r', (Instr.findAsking kt k es' i).run T.P w = .ok r' w ∧ FR γ r r' := by
  intro es
  induction es with
  | nil =>
    intro es' i r h he
    rw [he.nil_inv]
    simp [askA] at h; subst h
    exact ⟨none, by simp [Instr.findAsking], trivial⟩
  | cons e es ih =>
    intro es' i r h he
    obtain ⟨e', r', rfl, h1, h2, h3, h4⟩ := he.cons_inv
    simp only [askA] at h
    cases hf : flat 2 e.key with
    | false => rw [hf] at h; cases h
    | true =>
      rw [hf] at h
      simp only [cond_true] at h
      have hk : e'.key = e.key := flat_eq hf h1
      cases hp : pureA T.P (Op.equal kt k e.key) with
      | none => rw [hp] at h; cases h
      | some b =>
        rw [hp] at h
        simp only [Instr.findAsking, Sem.run_bind, hk, pureA_run hp, Result.andThen_ok]
        cases b with
        | true => simp only at h; cases h; exact ⟨_, rfl, rfl, h2⟩
        | false => simp only at h; exact ih r' (i + 1) r h h4

theorem findA_ok (hT : T.Ok) {γ : Gam} {kt : TypeId} {k : Value} {es es' : List MapEntry} {r : Option (Nat × Value)} {w : World} (h : findA T kt k es = some r) (he : ER γ es es') :
    ∃ r', (Instr.findKey kt k es').run T.P w = .ok r' w ∧ FR γ r r' := by
  unfold findA at h
  cases hu : T.und kt with
  | none => simp [hu] at h
  | some kd =>
    simp only [hu] at h
    cases hf : keysFlat es with
    | false => rw [hf] at h; cases h
    | true =>
      rw [hf] at h
      simp only [cond_true] at h
      have := now_ok (kd := kd) (k := k) es es' 0 hf he
      cases hn : Instr.findNow kd k es 0 with
      | some r0 =>
        rw [hn] at h this
        simp only [Option.some.injEq] at h
        subst h
        obtain ⟨r', h1, h2⟩ := this
        refine ⟨r', ?_, h2⟩
        simp only [Instr.findKey, Sem.run_bind, hT.run_und hu, Result.andThen_ok, h1]
        rfl
      | none =>
        rw [hn] at h this
        simp only at h this
        obtain ⟨r', h1, h2⟩ := ask_ok es es' 0 r h he
        refine ⟨r', ?_, h2⟩
        simp only [Instr.findKey, Sem.run_bind, hT.run_und hu, Result.andThen_ok, this]
        exact h1

def entries (H : AHeap) (m : Value) : Option (List MapEntry) :=
  match m with
  | .map none => some []
  | .map (some r) => match H.get r with
    | some (.map es _) => some es
    | _ => none
  | _ => none

theorem run_getObj_map {P : Program} {w : World} {r : Nat} {es : Array MapEntry} {c : Nat} (h : w.heap[r]? = some (.map es c)) : (getObj r).run P w = .ok (.map es c) w := by
  simp [getObj, Sem.run, h]

theorem map_at {γ : Gam} {H : AHeap} {w : World} (h : HRT T γ H w) {b : Nat} {A : At} {es : List MapEntry} {c : Nat} (hA : γ b = some A) (hb : H.get b = some (.map es c)) :
    ∃ es', w.heap[A.B]? = some (.map es' c) ∧ ER γ es es'.toList := by
  obtain ⟨A', h1, es', h2, h3⟩ := h.live b _ hb
  rw [hA] at h1; cases h1
  exact ⟨es', h2, h3⟩

def okd (ok : Bool) (v : Value) (b : Bool) : Value := if ok then .tuple #[v, .bool b] else v

theorem okd_ok {γ : Gam} {ok b : Bool} {v v' : Value} (h : VR γ v v') : VR γ (okd ok v b) (okd ok v' b) := by
  unfold okd
  split
  · exact VR.tuple' (VL.toArray (VL.cons h (VL.cons (.bool b) (VL.nil _))))
  · exact h

def lookA (T : Tab) (H : AHeap) (t : TypeId) (m k : Value) (ok : Bool) : Option Value :=
  match T.und t with
  | some (.map kt et) => match entries H m with
    | some es => cond (flat 2 k) (match pureA T.P (Instr.checkKey es.isEmpty 10000 kt k), findA T kt k es with
      | some (), some (some (_, v)) => some (okd ok v true)
      | some (), some none => match T.info et with
        | some i => match i.zero with
          | some z => cond (flat 2 z) (some (okd ok z false)) none
          | none => none
        | none => none
      | _, _ => none) none
    | none => none
  | _ => none

/-- A map is these entries. -/
def MapIs (w : World) (m' : Value) (es' : Array MapEntry) : Prop := (m' = .map none ∧ es' = #[]) ∨ ∃ r c, m' = .map (some r) ∧ w.heap[r]? = some (.map es' c)

theorem keys_ok {γ : Gam} {H : AHeap} {w : World} (h : HRT T γ H w) {m m' : Value} {es : List MapEntry} (he : entries H m = some es) (hm : VR γ m m') :
    ∃ es' : Array MapEntry, ER γ es es'.toList ∧ MapIs w m' es' := by
  unfold entries at he
  split at he
  · cases he; cases hm
    exact ⟨#[], ⟨rfl, fun i e e' h => by simp at h⟩, .inl ⟨rfl, rfl⟩⟩
  · rename_i r
    split at he
    · rename_i es0 c hb
      cases he
      cases hm with
      | map hA =>
        obtain ⟨es', h1, h2⟩ := map_at h hA hb
        exact ⟨es', h2, .inr ⟨_, _, rfl, h1⟩⟩
    · cases he
  · cases he

theorem look_run (hT : T.Ok) {w : World} {t kt et : TypeId} {m' k : Value} {es' : Array MapEntry} {ok : Bool} {r' : Option (Nat × Value)} (hu : T.und t = some (.map kt et)) (hm : MapIs w m' es')
    (hc : (Instr.checkKey es'.isEmpty 10000 kt k).run T.P w = .ok () w) (hf : (Instr.findKey kt k es'.toList).run T.P w = .ok r' w) :
    (Instr.lookup t m' k ok).run T.P w = match r' with | some (_, v) => .ok (okd ok v true) w | none => ((zeroValue et).run T.P w).andThen fun z w => .ok (okd ok z false) w := by
  rcases hm with ⟨rfl, rfl⟩ | ⟨r, c, rfl, hr⟩
  · unfold Instr.lookup
    simp only [Sem.run_bind, hT.run_und hu, Result.andThen_ok, Sem.run_pure, hc, hf]
    cases r' with
    | none => simp only [Sem.run_bind, Sem.run_pure]; cases (zeroValue et).run T.P w <;> rfl
    | some x => rfl
  · unfold Instr.lookup
    simp only [Sem.run_bind, hT.run_und hu, Result.andThen_ok, Sem.run_pure, run_getObj_map hr, hc, hf]
    cases r' with
    | none => simp only [Sem.run_bind, Sem.run_pure]; cases (zeroValue et).run T.P w <;> rfl
    | some x => rfl

theorem lookA_ok (hT : T.Ok) {γ : Gam} {H : AHeap} {w : World} (h : HRT T γ H w) {t : TypeId} {m m' k k' v : Value} {ok : Bool} (hl : lookA T H t m k ok = some v) (hm : VR γ m m') (hk : VR γ k k') :
    ∃ v', (Instr.lookup t m' k' ok).run T.P w = .ok v' w ∧ VR γ v v' := by
  unfold lookA at hl
  split at hl
  · rename_i kt et hu
    cases he : entries H m with
    | none => simp [he] at hl
    | some es =>
      simp only [he] at hl
      cases hf : flat 2 k with
      | false => rw [hf] at hl; cases hl
      | true =>
        rw [hf] at hl
        simp only [cond_true] at hl
        have hk' : k' = k := flat_eq hf hk
        subst hk'
        obtain ⟨es', h1, h2⟩ := keys_ok h he hm
        have hempty : es'.isEmpty = es.isEmpty := by
          have := h1.1
          have e1 : es'.isEmpty = decide (es'.size = 0) := rfl
          rw [e1]
          cases es with
          | nil => simp at this; simp [this]
          | cons a b => simp at this; simp [← this]
        split at hl
        · rename_i i0 v0 hp hfd
          cases hl
          obtain ⟨r', h3, h4⟩ := findA_ok hT (w := w) hfd h1
          match r', h4 with
          | some (i1, v1), h4 =>
            refine ⟨okd ok v1 true, ?_, okd_ok h4.2⟩
            rw [look_run hT hu h2 (by rw [hempty]; exact pureA_run hp w) h3]
        · rename_i hp hfd
          obtain ⟨r', h3, h4⟩ := findA_ok hT (w := w) hfd h1
          match r', h4 with
          | none, h4 =>
            cases hi : T.info et with
            | none => simp [hi] at hl
            | some i =>
              simp only [hi] at hl
              cases hz : i.zero with
              | none => simp [hz] at hl
              | some z =>
                simp only [hz] at hl
                cases hfz : flat 2 z with
                | false => rw [hfz] at hl; cases hl
                | true =>
                  rw [hfz] at hl
                  simp only [cond_true, Option.some.injEq] at hl
                  subst hl
                  refine ⟨okd ok z false, ?_, okd_ok (flat_refl hfz)⟩
                  rw [look_run hT hu h2 (by rw [hempty]; exact pureA_run hp w) h3]
                  simp [hT.run_zero hi hz]
        · cases hl
  · cases hl

def lenM (T : Tab) (H : AHeap) (t : TypeId) (x : Value) : Option Value :=
  match T.und t, x with
  | some (.map _ _), .map (some r) => match H.get r with
    | some (.map es _) => some (goInt es.length)
    | _ => none
  | _, _ => none

theorem lenM_ok (hT : T.Ok) {γ : Gam} {H : AHeap} {w : World} (h : HRT T γ H w) {t ty : TypeId} {ts : Array TypeId} {x x' v : Value} (ht : ts[0]? = some t) (hl : lenM T H t x = some v) (hx : VR γ x x') :
    ∃ v', (Builtin.len_ ts ty #[x']).run T.P w = .ok v' w ∧ VR γ v v' := by
  unfold lenM at hl
  split at hl
  · rename_i k e r hu
    split at hl
    · rename_i es c hb
      cases hl
      cases hx with
      | map hA =>
        obtain ⟨es', h1, h2⟩ := map_at h hA hb
        refine ⟨goInt es'.size, by simp [Builtin.len_, ht, hT.run_und hu, run_getObj_map h1], ?_⟩
        have : es'.size = es.length := by have := h2.1; simpa using this.symm
        rw [this]; exact .int _ _
    · cases hl
  · cases hl

/-! Two pointers. -/
def plainAt (H : AHeap) (b : Nat) : Bool :=
  match H.get b with
  | some (.cells (_ :: _) _ st) => !st.st
  | _ => false

def eqPtr (T : Tab) (H : AHeap) (t : TypeId) (x y : Value) : Option Bool :=
  match T.und t, x, y with
  | some (.pointer e), .pointer (some ⟨b, o, none⟩), .pointer (some ⟨c, p, none⟩) => match T.info e with
    | some i => cond (Nat.beq i.size 0) none (cond (Nat.beq b c) (some (Nat.beq o p)) (cond (plainAt H b && plainAt H c) (some false) none))
    | none => none
  | _, _, _ => none

theorem plain_at {γ : Gam} {H : AHeap} {w : World} (h : HRT T γ H w) {b : Nat} {A : At} (hA : γ b = some A) (hp : plainAt H b = true) :
    ∃ cc e o, (H.get b = some o ∧ o.wr = true) ∧ w.heap[A.B]? = some (.cells cc e (0, 0)) ∧ 0 < cc.size := by
  unfold plainAt at hp
  split at hp
  · rename_i v c e st hb
    obtain ⟨A', h1, cc, fr, h2, h3, h4, h5, h6, h7⟩ := h.live b _ hb
    rw [hA] at h1; cases h1
    rcases h4 with rfl | ⟨h4, _⟩
    · refine ⟨cc, e, _, ⟨hb, rfl⟩, h2, ?_⟩
      simp at h6; omega
    · rw [h4] at hp; cases hp
  · cases hp

theorem eqPtr_ok (hT : T.Ok) {γ : Gam} {H : AHeap} {w : World} (h : HRT T γ H w) {t : TypeId} {x y x' y' : Value} {r : Bool} (he : eqPtr T H t x y = some r) (hx : VR γ x x') (hy : VR γ y y') :
    (Op.equal t x' y').run T.P w = .ok r w := by
  unfold eqPtr at he
  split at he
  · rename_i e b o c p hu
    cases hi : T.info e with
    | none => simp [hi] at he
    | some i =>
      simp only [hi] at he
      cases hz : Nat.beq i.size 0 with
      | true => rw [hz] at he; cases he
      | false =>
        rw [hz] at he
        simp only [cond_false] at he
        have hne : i.size ≠ 0 := by intro e; rw [e] at hz; simp at hz
        cases hx with
        | ptr hA =>
          rename_i A
          cases hy with
          | ptr hC =>
            rename_i C
            have go : (Op.equal t (.pointer (some ⟨A.B, A.o + o, none⟩)) (.pointer (some ⟨C.B, C.o + p, none⟩))).run T.P w = (sameAddr ⟨A.B, A.o + o, none⟩ ⟨C.B, C.o + p, none⟩).run T.P w := by
              unfold Op.equal Op.maxDepth
              rw [show (10000 : Nat) = 9999 + 1 from rfl, Op.equalIn]
              simp only [Sem.run_bind, hT.run_und hu, Result.andThen_ok, hT.run_size hi, hne, ne_eq, not_false_eq_true, if_true]
            rw [go]
            cases hbc : Nat.beq b c with
            | true =>
              rw [hbc] at he
              simp only [cond_true, Option.some.injEq] at he
              have : b = c := by simpa using hbc
              subst this
              rw [hA] at hC; cases hC
              subst he
              simp only [sameAddr, beq_self_eq_true, if_true]
              by_cases hop : o = p
              · subst hop; simp
              · have : Nat.beq o p = false := beq_false hop
                simp [this]; omega
            | false =>
              rw [hbc] at he
              simp only [cond_false] at he
              cases hpl : (plainAt H b && plainAt H c) with
              | false => rw [hpl] at he; cases he
              | true =>
                rw [hpl] at he
                simp only [cond_true, Option.some.injEq] at he
                subst he
                simp only [Bool.and_eq_true] at hpl
                obtain ⟨c1, e1, o1, g1, h1, h1'⟩ := plain_at h hA hpl.1
                obtain ⟨c2, e2, o2, g2, h2, h2'⟩ := plain_at h hC hpl.2
                have hBC : A.B ≠ C.B := fun e => by
                  have := h.inj b c _ _ A C g1.1 g2.1 hA hC e (.inl g1.2)
                  subst this; simp at hbc
                have f1 : ∀ k, w.frozen? ⟨A.B, k, none⟩ = false := fun k => by simp [World.frozen?, h1]
                have f2 : ∀ k, w.frozen? ⟨C.B, k, none⟩ = false := fun k => by simp [World.frozen?, h2]
                have s1 : w.shape? A.B = some (e1, c1.size) := by simp [World.shape?, h1]
                have s2 : w.shape? C.B = some (e2, c2.size) := by simp [World.shape?, h2]
                have z1 : c1.size ≠ 0 := by omega
                have z2 : c2.size ≠ 0 := by omega
                have hb : (A.B == C.B) = false := by simp [hBC]
                simp [sameAddr, hb, f1, f2, noView, viewAt, s1, s2, mayBeOne, stringish, z2]
  · cases he

def binPtr (T : Tab) (H : AHeap) (op : BinOp) (t : TypeId) (x y : Value) : Option Value :=
  match op, eqPtr T H t x y with
  | .eql, some r => some (.bool r)
  | .neq, some r => some (.bool (!r))
  | _, _ => none

theorem binPtr_ok (hT : T.Ok) {γ : Gam} {H : AHeap} {w : World} (h : HRT T γ H w) {op : BinOp} {t : TypeId} {p q : Operand} {x y x' y' v : Value} (he : binPtr T H op t x y = some v) (hx : VR γ x x') (hy : VR γ y y') :
    ∃ v', (do eqGuard op t p q x' y'; binOp op t x' y' : Sem Value).run T.P w = .ok v' w ∧ VR γ v v' := by
  unfold binPtr at he
  split at he
  · rename_i r hr
    cases he
    have h1 := eqPtr_ok hT h hr hx hy
    unfold eqPtr at hr
    split at hr
    · cases hx; cases hy
      refine ⟨_, ?_, .bool r⟩
      simp only [eqGuard_at_pointer, Sem.run_bind, Sem.run_pure, Result.andThen_ok]
      show (do pure (.bool (← Op.equal t _ _)) : Sem Value).run T.P w = _
      simp only [Sem.run_bind, h1, Result.andThen_ok, Sem.run_pure]
    · cases hr
  · rename_i r hr
    cases he
    have h1 := eqPtr_ok hT h hr hx hy
    unfold eqPtr at hr
    split at hr
    · cases hx; cases hy
      refine ⟨_, ?_, .bool (!r)⟩
      simp only [eqGuard_at_pointer, Sem.run_bind, Sem.run_pure, Result.andThen_ok]
      show (do pure (.bool (!(← Op.equal t _ _))) : Sem Value).run T.P w = _
      simp only [Sem.run_bind, h1, Result.andThen_ok, Sem.run_pure]
    · cases hr
  · cases he

/-! Bytes as a text. -/
def u8s : List Value → Option (List UInt8)
  | [] => some []
  | .int .u8 n :: r => match u8s r with
    | some l => some (UInt8.ofNat n.toNat :: l)
    | none => none
  | _ :: _ => none

def textA (T : Tab) (H : AHeap) (src dst : TypeId) (x : Value) : Option Value :=
  match T.und src, T.und dst, x with
  | some (.slice e), some .string, .slice none 0 _ => match T.und e with
    | some (.int .u8) => some (.string .empty)
    | _ => none
  | some (.slice e), some .string, .slice (some ⟨b, o, none⟩) n _ => match T.und e with
    | some (.int .u8) => cond (Nat.beq n 0) (some (.string .empty)) (match ldN H b o n with
      | some l => match u8s l with
        | some bs => some (.string ⟨bs.toArray⟩)
        | none => none
      | none => none)
    | _ => none
  | _, _, _ => none

theorem u8s_ok {γ : Gam} : ∀ (l l' : List Value) (bs : List UInt8), u8s l = some bs → VL γ l l' → ∃ ns : List Int, l' = ns.map (Value.int .u8) ∧ bs = ns.map fun n => UInt8.ofNat n.toNat := by
  intro l
  induction l with
  | nil =>
    intro l' bs h hl
    have : l' = [] := List.eq_nil_of_length_eq_zero (by simpa using hl.1.symm)
    subst this
    simp [u8s] at h; subst h
    exact ⟨[], rfl, rfl⟩
  | cons v r ih =>
    intro l' bs h hl
    match l', hl with
    | [], hl => simp [VL] at hl
    | v' :: r', hl =>
      have h0 := hl.2 0 v v' rfl rfl
      unfold u8s at h
      split at h
      · rename_i hx; cases hx
      · rename_i n r0 hx
        injection hx with hx1 hx2
        subst hx1; subst hx2
        cases hu : u8s r with
        | none => rw [hu] at h; cases h
        | some bs' =>
          rw [hu] at h
          cases h
          obtain ⟨ns, h1, h2⟩ := ih r' bs' hu ⟨by simpa using hl.1, fun j x x' a a' => hl.2 (j + 1) x x' (by simpa using a) (by simpa using a')⟩
          cases h0
          exact ⟨n :: ns, by simp [h1], by simp [h2]⟩
      · cases h

theorem textA_ok (hT : T.Ok) {γ : Gam} {H : AHeap} {w : World} (h : HRT T γ H w) {src dst : TypeId} {x x' v : Value} (ht : textA T H src dst x = some v) (hx : VR γ x x') :
    ∃ v', (convert src dst x').run T.P w = .ok v' w ∧ VR γ v v' := by
  unfold textA at ht
  split at ht
  · rename_i e c hs hd
    split at ht
    · rename_i he
      cases ht
      cases hx
      exact ⟨_, run_convert_bytes_nil w src e (hT.und hs) (hT.und he) 0 0 dst (hT.und hd), .string _⟩
    · cases ht
  · rename_i e b o n c hs hd
    split at ht
    · rename_i he
      cases hn : Nat.beq n 0 with
      | true =>
        rw [hn] at ht
        simp only [cond_true, Option.some.injEq] at ht
        subst ht
        have : n = 0 := by simpa using hn
        subst this
        have key : ∀ (a : Option Addr) (c' : Nat), (convert src dst (.slice a 0 c')).run T.P w = .ok (.string ByteArray.empty) w := by
          intro a c'
          rw [run_convert_bytes_string w src dst e _ 0 c' (hT.und hs) (hT.und he) (hT.und hd)]
          cases a with
          | none => simp [Conv.bytesToString]
          | some a => rw [run_bytesToString w a 0 c' [] (by simp [loadCells, loadCellsFrom])]; rfl
        cases hx with
        | slice hA _ _ _ => exact ⟨_, key _ _, .string _⟩
        | noSlice _ _ => exact ⟨_, key _ _, .string _⟩
      | false =>
        rw [hn] at ht
        simp only [cond_false] at ht
        cases hl : ldN H b o n with
        | none => simp [hl] at ht
        | some l =>
          simp only [hl] at ht
          cases hu : u8s l with
          | none => rw [hu] at ht; cases ht
          | some bs =>
            rw [hu] at ht
            simp only [Option.some.injEq] at ht
            subst ht
            cases hx with
            | slice hA h1 h2 h3 =>
              rename_i c' A
              obtain ⟨l', g1, g2, g3⟩ := cells_of h hA hl
              obtain ⟨ns, e1, e2⟩ := u8s_ok l l' bs hu g1
              subst e1
              have hr := run_cells (P := T.P) g3
              rw [g2] at hr
              refine ⟨_, ?_, .string _⟩
              rw [run_convert_bytes_string w src dst e _ n c' (hT.und hs) (hT.und he) (hT.und hd), run_bytesToString w _ n c' ns hr, foldl_push_bytes, e2]
              congr 2
              simp [ByteArray.empty, ByteArray.emptyWithCapacity]
              rfl
            | noSlice _ _ => simp at hn
    · cases ht
  · cases ht
end Go.AM
end

section
/- The abstract machine, part G: operations that make and write memory. -/
namespace Go.AM
variable {T : Tab}

/-- A block has another name now, and other cells are told of it. -/
theorem Step.move {I : TypeId → Option TypeInfo} {G : Nat} {γ : Gam} {H : AHeap} {w w' : World} (h : HR I G γ H w) (hf : γ H.next = none) {b : Nat} {o o' : AObj} {A D : At} (hb : H.get b = some o) (hwr : o.wr = true) (hA : γ b = some A) (hD : D.B = A.B)
    (hx : OR I (add γ H.next D) D w' o') (hw : ∀ B, B ≠ A.B → w'.heap[B]? = w.heap[B]?) (hs : w'.heap.size = w.heap.size) (h1 : w'.os = w.os) (h2 : w'.output = w.output) (h3 : w'.tape = w.tape) :
    Step I G γ H w (add γ H.next D) ((H.put b none).new o') w' := by
  have hother : ∀ c p D, c ≠ b → H.get c = some p → γ c = some D → D.B ≠ A.B := fun c p D hc hp hD e => hc (h.inj c b p o D A hp hb hD hA e (.inr hwr))
  have hget : ∀ c p, ((H.put b none).new o').get c = some p → (c = H.next ∧ p = o') ∨ (c ≠ H.next ∧ c ≠ b ∧ H.get c = some p) := by
    intro c p hc
    rw [AHeap.get_new, AHeap.next_put] at hc
    split at hc
    · left; cases hc; exact ⟨by assumption, rfl⟩
    · right
      rename_i hne
      rw [AHeap.get_put] at hc
      split at hc
      · cases hc
      · rename_i e; exact ⟨hne, e, hc⟩
  exact {
    le := by rw [AHeap.next_new, AHeap.next_put]; omega
    agree := fun c hc => by rw [AHeap.next_new, AHeap.next_put] at hc; exact add_ne (by omega)
    sub := sub_add hf
    hr := {
      live := fun c p hc => by
        rcases hget c p hc with ⟨rfl, rfl⟩ | ⟨e1, e2, e3⟩
        · exact ⟨D, add_same, hx⟩
        · obtain ⟨E, g1, g2⟩ := h.live c p e3
          exact ⟨E, by rw [add_ne e1]; exact g1, g2.mono (sub_add hf) (hw _ (hother c p E e2 e3 g1))⟩
      inj := fun c d p q E F hc hd hE hF e hq => by
        rcases hget c p hc with ⟨rfl, rfl⟩ | ⟨e1, e2, e3⟩
        · rcases hget d q hd with ⟨rfl, rfl⟩ | ⟨f1, f2, f3⟩
          · rfl
          · rw [add_same] at hE; cases hE
            rw [add_ne f1] at hF
            exact absurd (e.symm.trans hD) (hother d q F f2 f3 hF)
        · rw [add_ne e1] at hE
          rcases hget d q hd with ⟨rfl, rfl⟩ | ⟨f1, f2, f3⟩
          · rw [add_same] at hF; cases hF
            exact absurd (e.trans hD) (hother c p E e2 e3 hE)
          · rw [add_ne f1] at hF
            exact h.inj c d p q E F e3 f3 hE hF e hq
      glob := fun g hg => by
        obtain ⟨E, g1, g2⟩ := h.glob g hg
        exact ⟨E, sub_add hf g E g1, g2⟩ }
    frame := fun B hB hn => hw B (fun e => hn b o A hb hwr hA e.symm)
    fresh := fun c p E hc hE => by
      right
      rcases hget c p hc with ⟨rfl, rfl⟩ | ⟨e1, e2, e3⟩
      · rw [add_same] at hE; cases hE
        exact ⟨b, o, A, hb, hA, hD.symm, fun _ => hwr⟩
      · rw [add_ne e1] at hE
        exact ⟨c, p, E, e3, hE, rfl, id⟩
    size := by omega
    os := h1
    output := h2
    tape := h3 }

theorem CR.of_list {γ : Gam} {l l' : List Value} (h : VL γ l l') : CR γ 0 l l'.toArray := by
  intro k v hv
  obtain ⟨v', h1, h2⟩ := h.get hv
  exact ⟨v', by simpa using h1, h2⟩

theorem CR.of_list_more {γ : Gam} {l l' : List Value} {m : Array Value} (h : VL γ l l') : CR γ 0 l (l'.toArray ++ m) := by
  intro k v hv
  obtain ⟨v', h1, h2⟩ := h.get hv
  have : k < l'.length := by
    rcases Nat.lt_or_ge k l'.length with h | h
    · exact h
    · rw [List.getElem?_eq_none h] at h1; cases h1
  refine ⟨v', ?_, h2⟩
  rw [Nat.zero_add, Array.getElem?_append_left (by simpa using this)]
  simpa using h1

/-- A new block with these cells. -/
theorem new_cells {P : Program} {st : Fl} {I : TypeId → Option TypeInfo} {G : Nat} {γ : Gam} {H : AHeap} {w : World} (h : HR I G γ H w) (hf : γ H.next = none) {l : List Value} {cc : Array Value} {e : TypeId} {i : TypeInfo}
    (hi : I e = some i) (hc : CR γ 0 l cc) (hl : l.length ≤ cc.size) (hx : st.ex = true → l.length = cc.size) :
    ∃ D, (newRow e cc).run P w = .ok ⟨w.heap.size, 0, none⟩ { w with heap := w.heap.push (.cells cc e) } ∧ D = { B := w.heap.size, o := 0, N := cc.size, s := i.size } ∧
      Step I G γ H w (add γ H.next D) (H.new (.cells l e st)) { w with heap := w.heap.push (.cells cc e) } := by
  refine ⟨_, by simp [newRow], rfl, ?_⟩
  refine Step.new h hf rfl ?_
  exact ⟨cc, (0, 0), by simp, rfl, .inl rfl, ⟨⟨i, hi, rfl⟩, fun q => ⟨rfl, hx q⟩⟩, by simpa using hl, (hc.mono (sub_add hf))⟩

/-! alloc, box, buildSlice, makeSlice, makeMap. -/
def boxA (T : Tab) (H : AHeap) (e : TypeId) (v : Value) : Option (Value × AHeap) :=
  match T.info e with
  | some _ => some (.pointer (some ⟨H.next, 0, none⟩), H.new (.cells v.cells.toList e ⟨false, true⟩))
  | none => none

theorem boxA_ok (_hT : T.Ok) {γ : Gam} {H H' : AHeap} {w : World} (h : HRT T γ H w) (hf : γ H.next = none) {e : TypeId} {v v' r : Value} (hb : boxA T H e v = some (r, H')) (hv : VR γ v v') :
    ∃ γ' r' w', (Instr.box e v').run T.P w = .ok r' w' ∧ VR γ' r r' ∧ StepT T γ H w γ' H' w' := by
  unfold boxA at hb
  split at hb
  · rename_i i hi
    cases hb
    obtain ⟨D, h1, h2, h3⟩ := new_cells (P := T.P) h hf hi (CR.of_list hv.cells) (by have := hv.cells.1; simp at this ⊢; omega) (st := ⟨false, true⟩) (fun _ => by have := hv.cells.1; simp at this ⊢; omega)
    simp only [Array.toArray_toList] at h1 h3
    refine ⟨_, .pointer (some ⟨w.heap.size, 0, none⟩), _, ?_, ?_, h3⟩
    · simp only [Instr.box, newVar, Sem.run_bind, h1, Result.andThen_ok, Sem.run_pure]
    · have := VR.ptr (γ := add γ H.next D) (b := H.next) (o := 0) (A := D) add_same
      subst h2; exact this
  · cases hb

def allocA (T : Tab) (H : AHeap) (e : TypeId) : Option (Value × AHeap) :=
  match T.info e with
  | some i => match i.zero with
    | some z => cond (flat 2 z) (boxA T H e z) none
    | none => none
  | none => none

theorem allocA_ok (hT : T.Ok) {γ : Gam} {H H' : AHeap} {w : World} (h : HRT T γ H w) (hf : γ H.next = none) {e : TypeId} {r : Value} (hb : allocA T H e = some (r, H')) :
    ∃ γ' r' w', (Instr.alloc e true (.tuple #[])).run T.P w = .ok r' w' ∧ VR γ' r r' ∧ StepT T γ H w γ' H' w' := by
  unfold allocA at hb
  split at hb
  · rename_i i hi
    split at hb
    · rename_i z hz
      cases hfz : flat 2 z with
      | false => rw [hfz] at hb; cases hb
      | true =>
        rw [hfz] at hb
        obtain ⟨γ', r', w', h1, h2, h3⟩ := boxA_ok hT h hf hb (flat_refl hfz)
        refine ⟨γ', r', w', ?_, h2, h3⟩
        simp only [Instr.box, newVar, Sem.run_bind] at h1
        simp only [Instr.alloc, newVar, Sem.run_bind, hT.run_zero hi hz, Result.andThen_ok]
        exact h1
    · cases hb
  · cases hb

def rowA (T : Tab) (H : AHeap) (e : TypeId) (l : List Value) (n c : Nat) : Option (Value × AHeap) :=
  match T.info e with
  | some _ => some (.slice (some ⟨H.next, 0, none⟩) n c, H.new (.cells l e ⟨false, false⟩))
  | none => none

def zeros (z : Array Value) (n : Nat) : Array Value := (Array.range n).map fun i => z[i % z.size]!

theorem VA.getElem! {γ : Gam} {c c' : Array Value} (h : VA γ c c') {i : Nat} (hi : i < c.size) : VR γ c[i]! c'[i]! := by
  have hi' : i < c'.size := h.1 ▸ hi
  rw [getElem!_pos c i hi, getElem!_pos c' i hi']
  exact h.2 i hi hi'

theorem zeros_ok {γ : Gam} {z : Array Value} (h : VA γ z z) (hz : 0 < z.size) (n : Nat) : VA γ (zeros z n) (zeros z n) := by
  refine ⟨rfl, fun i h1 h2 => ?_⟩
  simp only [zeros, Array.getElem_map, Array.getElem_range]
  exact h.getElem! (Nat.mod_lt _ hz)

def zeroCellsOf (T : Tab) (e : TypeId) : Option (Array Value) :=
  match T.info e with
  | some i => match i.zero with
    | some z => cond (flat 2 z && Nat.blt 0 z.cells.size) (some z.cells) none
    | none => none
  | none => none

theorem zeroCellsOf_ok {γ : Gam} {e : TypeId} {c : Array Value} (h : zeroCellsOf T e = some c) : VA γ c c ∧ 0 < c.size ∧ ∃ i z, T.info e = some i ∧ i.zero = some z ∧ c = z.cells := by
  unfold zeroCellsOf at h
  split at h
  · rename_i i hi
    split at h
    · rename_i z hz
      cases hc : (flat 2 z && Nat.blt 0 z.cells.size) with
      | false => rw [hc] at h; cases h
      | true =>
        rw [hc] at h
        simp only [cond_true, Option.some.injEq] at h
        subst h
        simp only [Bool.and_eq_true] at hc
        exact ⟨flat_cells hc.1, by simpa using hc.2, i, z, hi, hz, rfl⟩
    · cases h
  · cases h

def buildSliceA (T : Tab) (H : AHeap) (t : TypeId) (len : Nat) (ps : List (Nat × Value)) : Option (Value × AHeap) :=
  match T.und t with
  | some (.slice e) => match T.info e, zeroCellsOf T e with
    | some i, some z => cond (Nat.ble (len * i.size) 1000) (match Instr.fill (fun k => some (k * i.size, i.size)) (cond (Nat.beq (len * i.size) 0) #[] (zeros z (len * i.size))) ps with
      | some cells => rowA T H e cells.toList len len
      | none => none) none
    | _, _ => none
  | _ => none

theorem slice_new {γ : Gam} {b B N s n c c' : Nat} (hc : capOk c c') (hN : c' * s ≤ N) (hn : n ≤ c') : VR (add γ b { B, o := 0, N, s }) (.slice (some ⟨b, 0, none⟩) n c) (.slice (some ⟨B, 0, none⟩) n c') := by
  have := VR.slice (γ := add γ b { B, o := 0, N, s }) (b := b) (o := 0) (n := n) (c := c) (c' := c') (A := { B, o := 0, N, s }) add_same hc (by simpa using hN) hn
  exact this

theorem fill_size (place : Nat → Option (Nat × Nat)) : ∀ (ps : List (Nat × Value)) (c r : Array Value), Instr.fill place c ps = some r → r.size = c.size := by
  intro ps
  induction ps with
  | nil => intro c r h; simp [Instr.fill] at h; subst h; rfl
  | cons p q ih =>
    intro c r h
    obtain ⟨i, v⟩ := p
    simp only [Instr.fill] at h
    split at h
    · cases h
    · split at h
      · cases h
      · rw [ih _ _ h]
        rename_i off size _ _
        have : ∀ (l : List (Value × Nat)) (c : Array Value), (l.foldl (fun cs (x : Value × Nat) => cs.setIfInBounds (off + x.2) x.1) c).size = c.size := by
          intro l
          induction l with
          | nil => intro c; rfl
          | cons x r ih => intro c; simp only [List.foldl_cons, ih]; simp
        rw [← Array.foldl_toList]
        exact this _ _

theorem buildSliceA_ok (hT : T.Ok) {γ : Gam} {H H' : AHeap} {w : World} (h : HRT T γ H w) (hf : γ H.next = none) {t : TypeId} {len : Nat} {ps : List (Nat × Value)} {ps' : Array (Nat × Value)} {r : Value}
    (hb : buildSliceA T H t len ps = some (r, H')) (hl : ps.length = ps'.size) (hp : ∀ (i : Nat) (p p' : Nat × Value), ps[i]? = some p → ps'[i]? = some p' → p.1 = p'.1 ∧ VR γ p.2 p'.2) :
    ∃ γ' r' w', (Instr.buildSlice t len ps').run T.P w = .ok r' w' ∧ VR γ' r r' ∧ StepT T γ H w γ' H' w' := by
  unfold buildSliceA at hb
  split at hb
  · rename_i e hu
    split at hb
    · rename_i i z hi hz
      obtain ⟨hz1, hz2, i', z', hi', hzz, rfl⟩ := zeroCellsOf_ok (γ := γ) hz
      rw [hi] at hi'; cases hi'
      cases hle : Nat.ble (len * i.size) 1000 with
      | false => rw [hle] at hb; cases hb
      | true =>
        rw [hle] at hb
        simp only [cond_true] at hb
        have hle' := Nat.le_of_ble_eq_true hle
        split at hb
        · rename_i cells hfl
          unfold rowA at hb
          rw [hi] at hb
          simp only [Option.some.injEq, Prod.mk.injEq] at hb
          obtain ⟨rfl, rfl⟩ := hb
          -- the start
          obtain ⟨st, hst⟩ : ∃ st, (cond (Nat.beq (len * i.size) 0) #[] (zeros z'.cells (len * i.size)) : Array Value) = st := ⟨_, rfl⟩
          have hst2 : st = (if len * i.size = 0 then (#[] : Array Value) else zeros z'.cells (len * i.size)) := by
            rw [← hst]
            by_cases e0 : len * i.size = 0
            · rw [beq_true e0, if_pos e0]; rfl
            · rw [beq_false e0, if_neg e0]; rfl
          have hsv : VA γ st st := by
            rw [hst2]; split
            · exact ⟨rfl, fun i h => by simp at h⟩
            · exact zeros_ok hz1 hz2 _
          have hss : st.size = len * i.size := by
            rw [hst2]; split
            · rename_i e0; rw [e0]; rfl
            · simp [zeros]
          rw [hst] at hfl
          obtain ⟨r', h1, h2⟩ := fill_ok (γ := γ) _ ps ps'.toList st st cells (by simpa using hl) (fun i p p' a a' => hp i p p' a (by simpa using a')) hsv hfl
          obtain ⟨D, g1, g2, g3⟩ := new_cells (P := T.P) (st := ⟨false, false⟩) h hf hi (CR.of_list h2.toList) (by have := h2.1; simp; omega) (fun q => by cases q)
          simp only [Array.toArray_toList] at g1 g3
          refine ⟨_, .slice (some ⟨w.heap.size, 0, none⟩) len len, _, ?_, ?_, g3⟩
          · have hno : ¬ len * i.size > 2 ^ 24 := by omega
            simp only [Instr.buildSlice, Sem.run_bind, hT.run_und hu, Result.andThen_ok, hT.run_size hi, hno, if_false]
            by_cases e0 : len * i.size = 0
            · have hst3 : st = #[] := by rw [hst2, if_pos e0]
              rw [if_pos e0]
              have e1 : ((Array.range (len * i.size)).map fun k => (#[] : Array Value)[k % (#[] : Array Value).size]!) = st := by rw [hst3, e0]; simp
              simp only [Sem.run_bind, Sem.run_pure, Result.andThen_ok, e1, h1, g1]
            · have hst3 : st = zeros z'.cells (len * i.size) := by rw [hst2, if_neg e0]
              rw [if_neg e0]
              have e1 : ((Array.range (len * i.size)).map fun k => z'.cells[k % z'.cells.size]!) = st := by rw [hst3]; rfl
              simp only [Sem.run_bind, Sem.run_pure, Result.andThen_ok, hT.run_zero hi hzz, e1, h1, g1]
          · subst g2
            refine slice_new ?_ ?_ (Nat.le_refl _)
            · unfold capOk
              split
              · rfl
              · omega
            · rw [← h2.1, fill_size _ _ _ _ hfl, hss]; exact Nat.le_refl _
        · cases hb
    · cases hb
  · cases hb
end Go.AM
end

section
/- The abstract machine, part H: append, copy, clear, stores, new maps and slices. -/
namespace Go.AM
variable {T : Tab}

theorem setCells_heap (B : Nat) : ∀ (vs : List Value) (off : Nat) (w : World) (cc : Array Value) (e : TypeId) (fr : Nat × Nat), w.heap[B]? = some (.cells cc e fr) → off + vs.length ≤ cc.size →
    ∃ cc', (w.setCells B off vs).heap[B]? = some (.cells cc' e fr) ∧ cc'.size = cc.size ∧ (∀ j, j < vs.length → cc'[off + j]? = vs[j]?) ∧ (∀ i, i < off ∨ off + vs.length ≤ i → cc'[i]? = cc[i]?) ∧
      (∀ C, C ≠ B → (w.setCells B off vs).heap[C]? = w.heap[C]?) ∧ (w.setCells B off vs).heap.size = w.heap.size ∧ (w.setCells B off vs).os = w.os ∧ (w.setCells B off vs).output = w.output ∧ (w.setCells B off vs).tape = w.tape := by
  intro vs
  induction vs with
  | nil =>
    intro off w cc e fr h hl
    exact ⟨cc, h, rfl, fun j hj => by simp at hj, fun _ _ => rfl, fun _ _ => rfl, rfl, rfl, rfl, rfl⟩
  | cons v r ih =>
    intro off w cc e fr h hl
    simp only [List.length_cons] at hl
    have hB : (w.setCell ⟨B, off, none⟩ v).heap[B]? = some (.cells (cc.setIfInBounds off v) e fr) := by
      simp only [World.setCell, Array.getElem?_modify, if_pos, h]
      rfl
    have hC : ∀ C, C ≠ B → (w.setCell ⟨B, off, none⟩ v).heap[C]? = w.heap[C]? := fun C hC => by
      simp only [World.setCell, Array.getElem?_modify, if_neg (Ne.symm hC)]
    obtain ⟨cc', h1, h2, h3, h4, h5, h6, h7, h8, h9⟩ := ih (off + 1) _ _ e fr hB (by simp; omega)
    refine ⟨cc', h1, by simpa using h2, ?_, ?_, fun C hc => (h5 C hc).trans (hC C hc), by rw [World.setCells, h6]; simp [World.setCell], h7, h8, h9⟩
    · intro j hj
      cases j with
      | zero =>
        rw [Nat.add_zero, h4 off (.inl (by omega))]
        have : off < cc.size := by omega
        simp [this]
      | succ j =>
        rw [show off + (j + 1) = off + 1 + j from by omega, h3 j (by simpa using hj)]
        simp
    · intro i hi
      simp only [List.length_cons] at hi
      rw [h4 i (by omega), Array.getElem?_setIfInBounds_ne (by omega)]

/-! What is appended. -/
def srcA (T : Tab) (H : AHeap) (size : Nat) (tx : TypeId) (x : Value) : Option (Nat × List Value) :=
  match T.und tx, x with
  | some (.slice _), .slice none 0 0 => some (0, [])
  | some (.slice _), .slice (some ⟨b, o, none⟩) k _ => cond (Nat.beq k 0) (some (0, [])) (match ldN H b o (k * size) with
    | some l => cond (l.all one) (some (k, l)) none
    | none => none)
  | some .string, .string s => cond (Nat.beq size 1) (some (s.size, byteCells s)) none
  | _, _ => none

theorem byteCells_flat {γ : Gam} (s : ByteArray) : VL γ (byteCells s) (byteCells s) := by
  refine ⟨rfl, fun i v v' h h' => ?_⟩
  rw [h] at h'; cases h'
  unfold byteCells at h
  rw [List.getElem?_map] at h
  cases hx : s.data.toList[i]? with
  | none => rw [hx] at h; cases h
  | some b => rw [hx] at h; cases h; exact .int _ _

theorem ones_ok {γ : Gam} {l l' : List Value} (h : VL γ l l') (ho : l.all one = true) : ∀ u ∈ l', u.oneCell' = true := by
  intro u hu
  obtain ⟨i, hi, rfl⟩ := List.getElem_of_mem hu
  have hi' : i < l.length := h.1 ▸ hi
  exact one_cell (h.2 i l[i] l'[i] (by simp [hi']) (by simp [hi])) (List.all_eq_true.1 ho _ (by simp))

theorem srcA_ok (hT : T.Ok) {γ : Gam} {H : AHeap} {w : World} (h : HRT T γ H w) {size : Nat} {tx : TypeId} {x x' : Value} {k : Nat} {l : List Value} (hs : srcA T H size tx x = some (k, l)) (hx : VR γ x x') :
    ∃ l', VL γ l l' ∧ Src T.P size tx x' k l' w := by
  unfold srcA at hs
  split at hs
  · rename_i e hu
    cases hs; cases hx
    exact ⟨[], VL.nil _, Src.ofNil w (hT.und hu) 0⟩
  · rename_i e b o n c hu
    cases hk : Nat.beq n 0 with
    | true =>
      rw [hk] at hs
      simp only [cond_true, Option.some.injEq, Prod.mk.injEq] at hs
      obtain ⟨rfl, rfl⟩ := hs
      have : n = 0 := by simpa using hk
      subst this
      cases hx with
      | slice hA _ _ _ => exact ⟨[], VL.nil _, Src.ofSlice w (hT.und hu) _ 0 _ [] (by simp) (fun j u h => by simp at h) (fun u h => by cases h)⟩
      | noSlice _ _ => exact ⟨[], VL.nil _, Src.ofSlice w (hT.und hu) _ 0 _ [] (by simp) (fun j u h => by simp at h) (fun u h => by cases h)⟩
    | false =>
      rw [hk] at hs
      simp only [cond_false] at hs
      cases hl : ldN H b o (n * size) with
      | none => simp [hl] at hs
      | some l0 =>
        simp only [hl] at hs
        cases ho : l0.all one with
        | false => rw [ho] at hs; cases hs
        | true =>
          rw [ho] at hs
          simp only [cond_true, Option.some.injEq, Prod.mk.injEq] at hs
          obtain ⟨rfl, rfl⟩ := hs
          cases hx with
          | slice hA _ _ _ =>
            obtain ⟨l', g1, g2, g3⟩ := cells_of h hA hl
            exact ⟨l', g1, Src.ofSlice w (hT.und hu) _ n _ l' g2 (fun j u hj => by rw [add_off]; exact g3 j u hj) (ones_ok g1 ho)⟩
          | noSlice _ _ => simp at hk
  · rename_i s hu
    cases hz : Nat.beq size 1 with
    | false => rw [hz] at hs; cases hs
    | true =>
      rw [hz] at hs
      simp only [cond_true, Option.some.injEq, Prod.mk.injEq] at hs
      obtain ⟨rfl, rfl⟩ := hs
      have : size = 1 := by simpa using hz
      subst this
      cases hx
      exact ⟨byteCells s, byteCells_flat s, Src.ofString w (hT.und hu) s⟩
  · cases hs

def zeroFits (i : TypeInfo) : Bool := match i.zero with
  | some z => Nat.beq z.cells.size i.size
  | none => false

/-- A new row of an append. -/
def growA (H : AHeap) (e : TypeId) (bytes : Nat) (l : List Value) (n : Nat) : Option (Value × AHeap) :=
  cond (Nat.ble (n * bytes) 1000000000 && Nat.ble n 1000000000) (some (.slice (some ⟨H.next, 0, none⟩) n (U + n), H.new (.cells l e ⟨false, false⟩))) none

def appendA (T : Tab) (H : AHeap) (t tx : TypeId) (x y : Value) : Option (Value × AHeap) :=
  match T.und t with
  | some (.slice e) => match T.info e with
    | some i => match srcA T H i.size tx y with
      | some (k, news) => match x with
        | .slice none 0 0 => cond (Nat.beq k 0) (some (x, H)) (cond (zeroFits i) (growA H e i.bytes news k) none)
        | .slice (some ⟨b, o, none⟩) n c => cond (Nat.beq k 0) (some (x, H))
          (cond (Nat.blt c U && Nat.ble (n + k) c)
            (match stN H b (o + n * i.size) news with
              | some H' => some (.slice (some ⟨b, o, none⟩) (n + k) c, H')
              | none => none)
            (match (cond (Nat.beq n 0) (some []) (ldN H b o (n * i.size)) : Option (List Value)) with
              | some olds => cond (zeroFits i) (cond (Nat.blt c U) (growA H e i.bytes (olds ++ news) (n + k))
                (match H.get b with
                  | some (.cells _ e' st) => cond (Nat.beq e' e && Nat.ble ((n + k) * i.bytes) 1000000000 && Nat.ble (n + k) 1000000000)
                    (some (.slice (some ⟨H.next, 0, none⟩) (n + k) (U + (n + k)), (H.put b none).new (.cells (olds ++ news) e ⟨st.st, false⟩))) none
                  | _ => none)) none
              | none => none))
        | _ => none
      | none => none
    | none => none
  | _ => none

theorem grown_ge (w : World) (need old : Nat) (e : TypeId) : need ≤ grownCap w need old e := by simp [grownCap, Question.cut]

theorem zeroCells_size (z : Array Value) (n : Nat) : (Builtin.zeroCells z n).size = n * z.size := by simp [Builtin.zeroCells]

theorem blt_false {a b : Nat} (h : Nat.blt a b = false) : ¬ a < b := fun hlt => by
  have : Nat.blt a b = true := by simpa using hlt
  rw [this] at h; cases h

theorem cap_exact {c c' : Nat} (h : capOk c c') (hc : c < U) : c' = c := by
  unfold capOk at h
  rw [if_pos hc] at h
  exact h

/-- A new row of an append, in the world. -/
theorem grow_ok (hT : T.Ok) {γ : Gam} {H H0 : AHeap} {w : World} (h : HRT T γ H w) (hf : γ H.next = none) (h0 : H0.next = H.next) (hsub : ∀ b o, H0.get b = some o → H.get b = some o) {t tx ty e : TypeId} {i : TypeInfo} {st : Bool}
    (hu : T.und t = some (.slice e)) (hi : T.info e = some i) (hz : zeroFits i = true) {base : Option Addr} {sLen sCap k : Nat} {x' : Value} {olds news olds' news' : List Value}
    (hold : (Builtin.firstCells i.size sLen (.slice base sLen sCap)).run T.P w.drew = .ok olds'.toArray w.drew)
    (hol : olds.length = sLen * i.size) (ho : VL γ olds olds') (hs : Src T.P i.size tx x' k news' w) (hn : VL γ news news') (hg : sCap < sLen + k) (hb1 : (sLen + k) * i.bytes ≤ 1000000000) (hb2 : sLen + k ≤ 1000000000) :
    ∃ γ' r' w', (Builtin.append_ #[t, tx] ty #[.slice base sLen sCap, x']).run T.P w = .ok r' w' ∧ VR γ' (.slice (some ⟨H.next, 0, none⟩) (sLen + k) (U + (sLen + k))) r' ∧
      StepT T γ H w γ' (H0.new (.cells (olds ++ news) e ⟨st, false⟩)) w' := by
  obtain ⟨z, hz, hzs⟩ : ∃ z, i.zero = some z ∧ z.cells.size = i.size := by
    unfold zeroFits at hz
    split at hz
    · rename_i z e; exact ⟨z, e, by simpa using hz⟩
    · cases hz
  have hrun := run_append_grow_src (P := T.P) w t tx ty e i z (hT.und hu) (hT.info e i hi) hz base sLen sCap olds' hold x' k news' hs hg (by omega) (growslice_fits hg (by omega))
  have s1 := Step.drop h h0 hsub
  have s2 := Step.drew s1.hr (w.drawn + 1)
  obtain ⟨D, g1, g2, g3⟩ := new_cells (P := T.P) (st := ⟨st, false⟩) s2.hr (by rw [h0]; exact hf) hi (l := olds ++ news) (cc := (olds' ++ news').toArray ++ Builtin.zeroCells z.cells (grownCap w (sLen + k) sCap e - (sLen + k)))
    (CR.of_list_more (ho.append hn)) (by have := (ho.append hn).1; simp at this ⊢; omega) (fun q => by cases q)
  refine ⟨_, _, _, hrun, ?_, s1.trans (s2.trans g3)⟩
  subst g2
  rw [h0]
  refine slice_new ?_ ?_ (grown_ge _ _ _ _)
  · unfold capOk
    rw [if_neg (by omega)]
    have := grown_ge w (sLen + k) sCap e
    omega
  · have hsz : (olds' ++ news').length = (sLen + k) * i.size := by
      rw [← (ho.append hn).1, List.length_append, hol, hn.1, hs.newsLen, Nat.add_mul]
    simp only [Array.size_append, List.size_toArray, hsz, zeroCells_size, hzs]
    rw [← Nat.add_mul]
    have := grown_ge w (sLen + k) sCap e
    exact Nat.mul_le_mul_right _ (by omega)

theorem growA_ok (hT : T.Ok) {γ : Gam} {H H' : AHeap} {w : World} (h : HRT T γ H w) (hf : γ H.next = none) {t tx ty e : TypeId} {i : TypeInfo} (hu : T.und t = some (.slice e)) (hi : T.info e = some i)
    (hz : zeroFits i = true) {base : Option Addr} {sLen sCap k : Nat} {x' : Value} {olds news olds' news' : List Value} (hold : (Builtin.firstCells i.size sLen (.slice base sLen sCap)).run T.P w.drew = .ok olds'.toArray w.drew)
    (hol : olds.length = sLen * i.size) (ho : VL γ olds olds') (hs : Src T.P i.size tx x' k news' w) (hn : VL γ news news') (hg : sCap < sLen + k) {r : Value} (hr : growA H e i.bytes (olds ++ news) (sLen + k) = some (r, H')) :
    ∃ γ' r' w', (Builtin.append_ #[t, tx] ty #[.slice base sLen sCap, x']).run T.P w = .ok r' w' ∧ VR γ' r r' ∧ StepT T γ H w γ' H' w' := by
  unfold growA at hr
  cases hb : (Nat.ble ((sLen + k) * i.bytes) 1000000000 && Nat.ble (sLen + k) 1000000000) with
  | false => rw [hb] at hr; cases hr
  | true =>
    rw [hb] at hr
    simp only [cond_true, Option.some.injEq, Prod.mk.injEq] at hr
    obtain ⟨rfl, rfl⟩ := hr
    simp only [Bool.and_eq_true] at hb
    exact grow_ok hT h hf rfl (fun _ _ h => h) hu hi hz hold hol ho hs hn hg (Nat.le_of_ble_eq_true hb.1) (Nat.le_of_ble_eq_true hb.2)

theorem firsts_drew {P : Program} {γ : Gam} {T : Tab} {H : AHeap} {w : World} (h : HRT T γ H w) {b o n size c' : Nat} {A : At} {olds : List Value} (hA : γ b = some A)
    (ho : (cond (Nat.beq n 0) (some []) (ldN H b o (n * size)) : Option (List Value)) = some olds) :
    ∃ olds', VL γ olds olds' ∧ olds.length = n * size ∧ (Builtin.firstCells size n (.slice (some ⟨A.B, A.o + o, none⟩) n c')).run P w.drew = .ok olds'.toArray w.drew ∧ ∀ j v, olds'[j]? = some v → w.cell? ⟨A.B, A.o + o + j, none⟩ = some v := by
  cases hn : Nat.beq n 0 with
  | true =>
    rw [hn] at ho; simp only [cond_true, Option.some.injEq] at ho; subst ho
    have : n = 0 := by simpa using hn
    subst this
    exact ⟨[], VL.nil _, by simp, by simp [Builtin.firstCells, loadCells, loadCellsFrom], fun j v h => by simp at h⟩
  | false =>
    rw [hn] at ho; simp only [cond_false] at ho
    obtain ⟨l', g1, g2, g3⟩ := cells_of h hA ho
    refine ⟨l', g1, by rw [g1.1, g2], ?_, g3⟩
    exact run_firstCells_some (P := P) w.drew size n _ n c' l' g2 (fun j v hj => by rw [add_off]; exact g3 j v hj)

theorem append_unknown (hT : T.Ok) {γ : Gam} {H : AHeap} {w : World} (h : HRT T γ H w) (hfr : γ H.next = none) {t tx ty e' : TypeId} {i : TypeInfo} {b o n c k : Nat} {cs0 olds news news' : List Value} {st : Fl} {y' x' : Value}
    (hu : T.und t = some (.slice e')) (hi : T.info e' = some i) (hz : zeroFits i = true) (hb : H.get b = some (.cells cs0 e' st)) (hol : (cond (Nat.beq n 0) (some []) (ldN H b o (n * i.size)) : Option (List Value)) = some olds)
    (hn1 : VL γ news news') (hn2 : Src T.P i.size tx y' k news' w) (hk0 : k ≠ 0) (hq2 : (n + k) * i.bytes ≤ 1000000000) (hq3 : n + k ≤ 1000000000) (_hcU : ¬ c < U) (hx : VR γ (.slice (some ⟨b, o, none⟩) n c) x') :
    ∃ γ' r' w', (Builtin.append_ #[t, tx] ty #[x', y']).run T.P w = .ok r' w' ∧ VR γ' (.slice (some ⟨H.next, 0, none⟩) (n + k) (U + (n + k))) r' ∧
      StepT T γ H w γ' ((H.put b none).new (.cells (olds ++ news) e' ⟨st.st, false⟩)) w' := by
  have hsub : ∀ c o, (H.put b none).get c = some o → H.get c = some o := fun c o hc => by
    rw [AHeap.get_put] at hc
    split at hc
    · cases hc
    · exact hc
  cases hx with
  | slice hA h1 h2 h3 =>
    rename_i c' A
    obtain ⟨olds', q1, q2, q3, q4⟩ := firsts_drew (P := T.P) (c' := c') h hA hol
    rcases Nat.lt_or_ge c' (n + k) with hlt | hge
    · exact grow_ok hT (H0 := H.put b none) h hfr rfl hsub hu hi hz q3 q2 q1 hn2 hn1 hlt hq2 hq3
    · -- there is room
      have hs := elem_size h hb hA hi
      obtain ⟨A', g1, cc, fr, g2, g3, g4, g5, g6, g7⟩ := h.live b _ hb
      rw [hA] at g1; cases g1
      have hnl := hn2.newsLen
      have hfit : A.o + o + n * i.size + news'.length ≤ cc.size := by
        rw [hnl, g3]
        rw [hs] at h2
        have : n * i.size + k * i.size ≤ c' * i.size := by rw [← Nat.add_mul]; exact Nat.mul_le_mul_right _ hge
        omega
      have hcell : ∀ j, j < news'.length → (w.cell? ⟨A.B, A.o + o + n * i.size + j, none⟩).isSome = true := fun j hj => by
        have : A.o + o + n * i.size + j < cc.size := by omega
        simp [World.cell?, g2, this]
      have hfz : ∀ j, j < news'.length → w.frozen? ⟨A.B, A.o + o + n * i.size + j, none⟩ = false := fun j hj => by
        simp only [World.frozen?, g2]
        rcases g4 with rfl | ⟨_, g4⟩
        · simp
        · simp; intro; omega
      obtain ⟨cc', e1, e2, e3, e4, e5, e6, e7, e8, e9⟩ := setCells_heap A.B news' (A.o + o + n * i.size) w cc e' fr g2 hfit
      refine ⟨add γ H.next ⟨A.B, A.o + o, A.N, A.s⟩, _, _, run_append_room_src (P := T.P) w t tx ty e' i (hT.und hu) (hT.info e' i hi) A.B (A.o + o) n c' y' k news' hn2 hge hcell hfz, ?_, ?_⟩
      · have := VR.slice (γ := add γ H.next ⟨A.B, A.o + o, A.N, A.s⟩) (b := H.next) (o := 0) (n := n + k) (c := U + (n + k)) (c' := c') (A := ⟨A.B, A.o + o, A.N, A.s⟩) add_same
          (by unfold capOk; rw [if_neg (by omega)]; omega) (by simpa using h2) hge
        exact this
      · refine Step.move h hfr hb rfl hA rfl ?_ e5 e6 e7 e8 e9
        refine ⟨cc', fr, e1, by rw [e2, g3], g4, ⟨g5.1, fun q => by cases q⟩, ?_, ?_⟩
        · simp only [List.length_append, q2, hn1.1, hnl]
          rw [hnl] at hfit
          rw [g3] at hfit
          omega
        · intro j v hj
          rw [List.getElem?_append] at hj
          split at hj
          · rename_i hjl
            obtain ⟨v', f1, f2⟩ := q1.get hj
            refine ⟨v', ?_, f2.mono (sub_add hfr)⟩
            show cc'[A.o + o + j]? = some v'
            rw [e4 _ (.inl (by omega))]
            have := q4 j v' f1
            simpa [World.cell?, g2] using this
          · rename_i hjl
            obtain ⟨v', f1, f2⟩ := hn1.get hj
            refine ⟨v', ?_, f2.mono (sub_add hfr)⟩
            show cc'[A.o + o + j]? = some v'
            have hj2 : j - olds.length < news'.length := by
              rcases Nat.lt_or_ge (j - olds.length) news'.length with h | h
              · exact h
              · rw [List.getElem?_eq_none h] at f1; cases f1
            have := e3 _ hj2
            rw [f1] at this
            rw [show A.o + o + j = A.o + o + n * i.size + (j - olds.length) from by omega]
            exact this
  | noSlice h1 h2 =>
    simp at hol
    subst hol
    exact grow_ok hT (H0 := H.put b none) h hfr rfl hsub hu hi hz (base := some _) (sLen := 0) (sCap := 0) (olds := []) (olds' := []) (by simp [Builtin.firstCells, loadCells, loadCellsFrom]) (by simp) (VL.nil _) hn2 hn1 (by omega) hq2 hq3

theorem appendA_ok (hT : T.Ok) {γ : Gam} {H H' : AHeap} {w : World} (h : HRT T γ H w) (hf : Free γ H.next H'.next) {t tx ty : TypeId} {x y x' y' r : Value} (ha : appendA T H t tx x y = some (r, H')) (hx : VR γ x x') (hy : VR γ y y') :
    ∃ γ' r' w', (Builtin.append_ #[t, tx] ty #[x', y']).run T.P w = .ok r' w' ∧ VR γ' r r' ∧ StepT T γ H w γ' H' w' := by
  unfold appendA at ha
  split at ha
  · rename_i e hu
    cases hi : T.info e with
    | none => simp [hi] at ha
    | some i =>
      simp only [hi] at ha
      cases hs : srcA T H i.size tx y with
      | none => simp [hs] at ha
      | some kn =>
        obtain ⟨k, news⟩ := kn
        simp only [hs] at ha
        obtain ⟨news', hn1, hn2⟩ := srcA_ok hT h hs hy
        -- nothing is appended
        have nothing : ∀ (base : Option Addr) (n c : Nat), n ≤ c → k = 0 → (Builtin.append_ #[t, tx] ty #[.slice base n c, y']).run T.P w = .ok (.slice base n c) w := by
          intro base n c hle hk
          subst hk
          have hl0 : news' = [] := List.eq_nil_of_length_eq_zero (by rw [hn2.newsLen]; simp)
          subst hl0
          have hle' : n + 0 ≤ c := hle
          rcases hn2.kind with ⟨e', hk⟩ | hk <;> cases base <;>
            simp [Builtin.append_, run_underlying (hT.und hu), run_underlying hk, sizeOf, typeInfo, hT.info e i hi, hn2.len, hle, hn2.cells, storeCells]
        split at ha
        · cases hk : Nat.beq k 0 with
          | true =>
            rw [hk] at ha; simp only [cond_true, Option.some.injEq, Prod.mk.injEq] at ha
            obtain ⟨rfl, rfl⟩ := ha
            cases hx
            exact ⟨γ, _, w, nothing none 0 0 (Nat.le_refl _) (by simpa using hk), .nilSlice, Step.refl h⟩
          | false =>
            rw [hk] at ha; simp only [cond_false] at ha
            cases hz : zeroFits i with
            | false => rw [hz] at ha; cases ha
            | true =>
              rw [hz] at ha; simp only [cond_true] at ha
              cases hx
              have hk0 : k ≠ 0 := by intro e; subst e; simp at hk
              have hfr : γ H.next = none := by
                refine hf H.next (Nat.le_refl _) ?_
                unfold growA at ha
                cases hb : (Nat.ble (k * i.bytes) 1000000000 && Nat.ble k 1000000000) with
                | false => rw [hb] at ha; cases ha
                | true => rw [hb] at ha; simp only [cond_true, Option.some.injEq, Prod.mk.injEq] at ha; rw [← ha.2]; simp [AHeap.next_new]
              exact growA_ok hT h hfr hu hi hz (base := none) (sLen := 0) (sCap := 0) (olds := []) (olds' := []) (by simp [Builtin.firstCells]) (by simp) (VL.nil _) hn2 hn1 (by omega) (by simpa using ha)
        · rename_i b o n c
          cases hk : Nat.beq k 0 with
          | true =>
            rw [hk] at ha; simp only [cond_true, Option.some.injEq, Prod.mk.injEq] at ha
            obtain ⟨rfl, rfl⟩ := ha
            have hk0 : k = 0 := by simpa using hk
            cases hx with
            | slice hA h1 h2 h3 => exact ⟨γ, _, w, nothing _ _ _ h3 hk0, .slice hA h1 h2 h3, Step.refl h⟩
            | noSlice h1 h2 => exact ⟨γ, _, w, nothing _ _ _ (Nat.le_refl _) hk0, .noSlice h1 h2, Step.refl h⟩
          | false =>
            rw [hk] at ha; simp only [cond_false] at ha
            have hk0 : k ≠ 0 := by intro e; subst e; simp at hk
            cases hroom : (Nat.blt c U && Nat.ble (n + k) c) with
            | true =>
              rw [hroom] at ha; simp only [cond_true] at ha
              simp only [Bool.and_eq_true] at hroom
              have hcU : c < U := by simpa using hroom.1
              have hle := Nat.le_of_ble_eq_true hroom.2
              cases hx with
              | slice hA h1 h2 h3 =>
                rename_i c' A
                have hcc : c' = c := by simpa [capOk, hcU] using h1
                subst hcc
                cases hst : stN H b (o + n * i.size) news with
                | none => simp [hst] at ha
                | some H1 =>
                  simp only [hst, Option.some.injEq, Prod.mk.injEq] at ha
                  obtain ⟨rfl, rfl⟩ := ha
                  obtain ⟨w', g1, g2⟩ := stN_ok (P := T.P) hA (o + n * i.size) news news' 0 H H1 w h hn1 (by simpa using hst)
                  refine ⟨γ, _, w', ?_, .slice hA h1 h2 (by omega), g2⟩
                  rcases hn2.kind with ⟨e', hk⟩ | hk <;>
                    simp [Builtin.append_, run_underlying (hT.und hu), run_underlying hk, sizeOf, typeInfo, hT.info e i hi, hn2.len, hle, hn2.cells, add_off, Nat.add_assoc, g1]
              | noSlice h1 h2 =>
                have : c = 0 := (cap_exact h1 hcU).symm
                omega
            | false =>
              rw [hroom] at ha; simp only [cond_false] at ha
              cases hol : (cond (Nat.beq n 0) (some []) (ldN H b o (n * i.size)) : Option (List Value)) with
              | none => rw [hol] at ha; cases ha
              | some olds =>
                rw [hol] at ha; simp only at ha
                cases hz : zeroFits i with
                | false => rw [hz] at ha; cases ha
                | true =>
                  rw [hz] at ha; simp only [cond_true] at ha
                  cases hcU : Nat.blt c U with
                  | true =>
                    rw [hcU] at ha hroom; simp only [cond_true] at ha
                    have hcU' : c < U := by simpa using hcU
                    have hgt : c < n + k := by
                      simp only [Bool.true_and] at hroom
                      rcases Nat.lt_or_ge c (n + k) with h | h
                      · exact h
                      · rw [Nat.ble_eq_true_of_le h] at hroom; cases hroom
                    have hfr : γ H.next = none := by
                      refine hf H.next (Nat.le_refl _) ?_
                      unfold growA at ha
                      cases hb : (Nat.ble ((n + k) * i.bytes) 1000000000 && Nat.ble (n + k) 1000000000) with
                      | false => rw [hb] at ha; cases ha
                      | true => rw [hb] at ha; simp only [cond_true, Option.some.injEq, Prod.mk.injEq] at ha; rw [← ha.2]; simp [AHeap.next_new]
                    cases hx with
                    | slice hA h1 h2 h3 =>
                      rename_i c' A
                      have hcc : c' = c := by simpa [capOk, hcU'] using h1
                      subst hcc
                      obtain ⟨olds', q1, q2, q3, _⟩ := firsts_drew (P := T.P) (c' := c') h hA hol
                      exact growA_ok hT h hfr hu hi hz q3 q2 q1 hn2 hn1 hgt ha
                    | noSlice h1 h2 =>
                      have hc0 : c = 0 := (cap_exact h1 hcU').symm
                      subst hc0
                      simp at hol
                      subst hol
                      exact growA_ok hT h hfr hu hi hz (olds := []) (olds' := []) (by simp [Builtin.firstCells, loadCells, loadCellsFrom]) (by simp) (VL.nil _) hn2 hn1 hgt ha
                  | false =>
                    rw [hcU] at ha; simp only [cond_false] at ha
                    have hcU' : ¬ c < U := blt_false hcU
                    split at ha
                    · rename_i cs0 e' st hb
                      cases hq : (Nat.beq e' e && Nat.ble ((n + k) * i.bytes) 1000000000 && Nat.ble (n + k) 1000000000) with
                      | false => rw [hq] at ha; cases ha
                      | true =>
                        rw [hq] at ha
                        simp only [cond_true, Option.some.injEq, Prod.mk.injEq] at ha
                        obtain ⟨rfl, rfl⟩ := ha
                        simp only [Bool.and_eq_true] at hq
                        obtain ⟨⟨hq1, hq2⟩, hq3⟩ := hq
                        have : e' = e := by simpa using hq1
                        subst this
                        have hq2 := Nat.le_of_ble_eq_true hq2
                        have hq3 := Nat.le_of_ble_eq_true hq3
                        have hfr : γ H.next = none := hf H.next (Nat.le_refl _) (by simp [AHeap.next_new, AHeap.next_put])
                        exact append_unknown hT h hfr hu hi hz hb hol hn1 hn2 hk0 hq2 hq3 hcU' hx
                    · cases ha
        · cases ha
  · cases ha
end Go.AM
end

section
/- The abstract machine, part Hb: an append of zero values onto a slice that is full. -/
namespace Go.AM
variable {T : Tab}

def appendZA (T : Tab) (H : AHeap) (t tx : TypeId) (x y : Value) : Option (Value × AHeap) :=
  match T.und t, T.und tx, x, y with
  | some (.slice e), some (.int _), .slice (some ⟨b, o, none⟩) n c, .int _ k => match T.info e, zeroCellsOf T e with
    | some i, some zc => cond (decide (0 < k ∧ 0 < c) && Nat.blt c U && Nat.blt c (n + k.toNat) && Nat.ble ((n + k.toNat) * i.bytes) 1000000000 && Nat.ble (n + k.toNat) 1000000000 && zeroFits i && Nat.blt 0 i.size)
      (match (cond (Nat.beq n 0) (some []) (ldN H b o (n * i.size)) : Option (List Value)) with
        | some olds => some (.slice (some ⟨H.next, 0, none⟩) (n + k.toNat) (U + (n + k.toNat)), H.new (.cells (olds ++ (Builtin.zeroCells zc k.toNat).toList) e ⟨false, false⟩))
        | none => none) none
    | _, _ => none
  | _, _, _, _ => none

theorem appendZA_next {H H' : AHeap} {t tx : TypeId} {x y v : Value} (h : appendZA T H t tx x y = some (v, H')) : H'.next = H.next + 1 := by
  unfold appendZA at h
  split at h
  · rename_i e kk b o n c k' k _ _
    split at h
    · rename_i i zc _ _
      cases hq : (decide (0 < k ∧ 0 < c) && Nat.blt c U && Nat.blt c (n + k.toNat) && Nat.ble ((n + k.toNat) * i.bytes) 1000000000 && Nat.ble (n + k.toNat) 1000000000 && zeroFits i && Nat.blt 0 i.size) with
      | false => rw [hq] at h; cases h
      | true =>
        rw [hq] at h
        simp only [cond_true] at h
        split at h
        · cases h; rfl
        · cases h
    · cases h
  · cases h

theorem zeroCells_VL {γ : Gam} {c : Array Value} (h : VA γ c c) (hc : 0 < c.size) (k : Nat) : VL γ (Builtin.zeroCells c k).toList (Builtin.zeroCells c k).toList := by
  refine ⟨rfl, fun i v v' h1 h2 => ?_⟩
  rw [h1] at h2; cases h2
  unfold Builtin.zeroCells at h1
  rw [Array.getElem?_toList, Array.getElem?_map] at h1
  cases hr : (Array.range (k * c.size))[i]? with
  | none => rw [hr] at h1; cases h1
  | some j =>
    rw [hr] at h1
    simp only [Option.map_some, Option.some.injEq] at h1
    subst h1
    have hlt : j % c.size < c.size := Nat.mod_lt _ hc
    rw [getElem!_pos c (j % c.size) hlt]
    exact h.2 _ hlt hlt

theorem appendZA_ok (hT : T.Ok) {γ : Gam} {H H' : AHeap} {w : World} (h : HRT T γ H w) (hf : γ H.next = none) {t tx ty : TypeId} {x y x' y' v : Value} (ha : appendZA T H t tx x y = some (v, H')) (hx : VR γ x x') (hy : VR γ y y') :
    ∃ γ' v' w', (Builtin.append_ #[t, tx] ty #[x', y']).run T.P w = .ok v' w' ∧ VR γ' v v' ∧ StepT T γ H w γ' H' w' := by
  unfold appendZA at ha
  split at ha
  · rename_i e kk b o n c k' k hu hux
    split at ha
    · rename_i i zc hi hzc
      cases hq : (decide (0 < k ∧ 0 < c) && Nat.blt c U && Nat.blt c (n + k.toNat) && Nat.ble ((n + k.toNat) * i.bytes) 1000000000 && Nat.ble (n + k.toNat) 1000000000 && zeroFits i && Nat.blt 0 i.size) with
      | false => rw [hq] at ha; cases ha
      | true =>
        rw [hq] at ha
        simp only [cond_true] at ha
        simp only [Bool.and_eq_true] at hq
        obtain ⟨⟨⟨⟨⟨⟨q1, q2⟩, q3⟩, q4⟩, q5⟩, q6⟩, q7⟩ := hq
        have q1 := of_decide_eq_true q1
        have q2 : c < U := by simpa using q2
        have q3 : c < n + k.toNat := by simpa using q3
        have q4 := Nat.le_of_ble_eq_true q4
        have q5 := Nat.le_of_ble_eq_true q5
        have q7 : 0 < i.size := by simpa using q7
        split at ha
        · rename_i olds hol
          cases ha
          cases hy
          obtain ⟨hzv, hz0, i2, z, hi2, hz, rfl⟩ := zeroCellsOf_ok (γ := γ) hzc
          rw [hi] at hi2; cases hi2
          have key : ∀ {A : At}, γ b = some A → ∃ γ' v' w', (Builtin.append_ #[t, tx] ty #[.slice (some ⟨A.B, A.o + o, none⟩) n c, .int k' k]).run T.P w = .ok v' w' ∧ VR γ' (.slice (some ⟨H.next, 0, none⟩) (n + k.toNat) (U + (n + k.toNat))) v' ∧
              StepT T γ H w γ' (H.new (.cells (olds ++ (Builtin.zeroCells z.cells k.toNat).toList) e ⟨false, false⟩)) w' := by
            intro A hA
            obtain ⟨olds', p1, p2, p3, p4⟩ := firsts_drew (P := T.P) (c' := c) h hA hol
            have hzs : z.cells.size = i.size := by
              unfold zeroFits at q6
              rw [hz] at q6
              simpa using q6
            have ek : k = ((k.toNat : Nat) : Int) := by omega
            have hrun := Lib.run_append_grow_zeros (P := T.P) (ty := ty) w t tx e i z k' _ (hT.und hu) (hT.und hux) (hT.info _ _ hi) hz (some ⟨A.B, A.o + o, none⟩) n c olds' p3 k.toNat (by omega) q7 q3 (by omega)
              (by have : k.toNat * i.bytes ≤ (n + k.toNat) * i.bytes := Nat.mul_le_mul_right _ (by omega); omega) (growslice_fits q3 (by omega))
            rw [← ek] at hrun
            have s2 := Step.drew h (w.drawn + 1)
            have hvl := p1.append (zeroCells_VL hzv hz0 k.toNat)
            obtain ⟨D, g1, g2, g3⟩ := new_cells (P := T.P) (st := ⟨false, false⟩) s2.hr hf hi (l := olds ++ (Builtin.zeroCells z.cells k.toNat).toList)
              (cc := (olds'.toArray ++ Builtin.zeroCells z.cells k.toNat) ++ Builtin.zeroCells z.cells (grownCap w (n + k.toNat) c e - (n + k.toNat)))
              (by
                have := CR.of_list_more (m := Builtin.zeroCells z.cells (grownCap w (n + k.toNat) c e - (n + k.toNat))) hvl
                have e2 : (olds' ++ (Builtin.zeroCells z.cells k.toNat).toList).toArray = olds'.toArray ++ Builtin.zeroCells z.cells k.toNat := by simp
                rw [e2] at this
                exact this)
              (by have := hvl.1; simp at this ⊢; omega) (fun q => by cases q)
            refine ⟨_, _, _, hrun, ?_, s2.trans g3⟩
            subst g2
            refine slice_new ?_ ?_ (grown_ge _ _ _ _)
            · unfold capOk
              rw [if_neg (by omega)]
              have := grown_ge w (n + k.toNat) c e
              omega
            · have hg := grown_ge w (n + k.toNat) c e
              have ho : olds'.length = n * i.size := by rw [← p1.1, p2]
              simp only [Array.size_append, List.size_toArray, zeroCells_size, ho, hzs]
              rw [← Nat.add_mul, ← Nat.add_mul]
              exact Nat.mul_le_mul_right _ (by omega)
          cases hx with
          | slice hA hc hle hnc =>
            have := cap_exact hc q2
            subst this
            exact key hA
          | noSlice hc hs =>
            have := cap_exact hc q2
            omega
        · cases ha
    · cases ha
  · cases ha
end Go.AM
end

