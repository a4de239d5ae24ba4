/- A part of the proof that WorldHarms answers true at every input: a part of the walk of the law WorldHarms. -/
import Derived.Test.YthokedjmopgdmaaGreatDoorLwA
import Derived.IntWalk
set_option linter.all false
section
/- WorldHarms: single operations on bytes: indexes, loads, stores, slices, texts. -/
set_option maxRecDepth 100000
namespace Go.AM.Seat
open Go.Proofs

theorem agg5 : T00.agg 5 = some false := by kernel_rfl
theorem und5 : T00.und 5 = some (.int .u8) := by kernel_rfl
theorem und9 : T00.und 9 = some .string := by kernel_rfl

theorem index_at {b n c q : Nat} (hq : q < n) : indexAtA T00 22 (vL b 0 n c) (i64 (Int.ofNat q)) = some (vP b q) := by
  obtain ⟨i, hi, h1, _⟩ := info5
  unfold indexAtA
  rw [und22]
  simp only [i64, hi, h1]
  have : decide (0 ≤ Int.ofNat q ∧ Int.ofNat q < (n : Int)) = true := by
    simp only [Int.ofNat_eq_natCast]
    exact decide_eq_true (by omega)
  rw [this]
  simp

theorem load_at {H : AHeap} {b q : Nat} {cc : List Value} {e : TypeId} {st : Fl} {v : Value} (hb : H.get b = some (.cells cc e st)) (hv : cc[q]? = some v) : loadV T00 H 5 (vP b q) = some v := by
  unfold loadV
  simp only [agg5]
  unfold ld
  rw [hb]
  exact hv

theorem store_at {H : AHeap} {b q : Nat} {cc : List Value} {e : TypeId} {st : Fl} {n : Int} (hb : H.get b = some (.cells cc e st)) (hq : q < cc.length) :
    storeA T00 H 5 (vP b q) (.int .u8 n) = some (H.put b (some (.cells (cc.set q (.int .u8 n)) e st))) := by
  obtain ⟨i, hi, h1, _⟩ := info5
  unfold storeA
  rw [hi]
  simp only [h1]
  show (cond (Nat.beq 1 1) (stN H b q [Value.int .u8 n]) none) = _
  simp only [stN, st1, hb]
  have : (Nat.blt q cc.length && one (.int .u8 n)) = true := by simp [one, hq]
  simp only [this, cond_true]
  rfl

theorem slice_to {H : AHeap} {b n c a : Nat} {cc : List Value} {st : Fl} (hb : H.get b = some (.cells cc 5 st)) (ha : a ≤ n) (hc : c = U + n) :
    sliceA T00 H 22 (vL b 0 n c) none (some (i64 (Int.ofNat a))) none = some (vL b 0 a c) := by
  subst hc
  obtain ⟨i, hi, h1, _⟩ := info5
  have hn : normCap n (U + n) = U + n := by unfold normCap; rw [if_neg (by omega), if_neg (by omega)]
  have hl : capLow (U + n) = n := by unfold capLow; rw [if_neg (by omega)]; omega
  unfold sliceA
  rw [und22]
  simp only [hi, optNat, i64, Int.ofNat_eq_natCast]
  have h0 : decide (0 ≤ (a : Int)) = true := decide_eq_true (by omega)
  simp only [h0, cond_true, hn, Int.toNat_natCast]
  have hk : okBounds (U + n) n none (some a) none = true := by
    simp [okBounds, hl, ha]
  rw [hk]
  simp only [cond_true, Option.getD_none, Option.getD_some, sliceB]
  have hb1 : Nat.blt (U + n) U = false := by
    cases e : Nat.blt (U + n) U with
    | false => rfl
    | true => have : U + n < U := by simpa using e
              omega
  simp only [hb1, Bool.false_and, cond_false, hb, Nat.beq_refl, cond_true, Nat.zero_mul, Nat.add_zero, Nat.sub_zero]

theorem slice_ro {H : AHeap} {b n c a : Nat} {cc : List Value} (hb : H.get b = some (.ro cc 5)) (ha : a ≤ n) (hc : c = U + n) :
    sliceA T00 H 22 (vL b 0 n c) none (some (i64 (Int.ofNat a))) none = some (vL b 0 a c) := by
  subst hc
  obtain ⟨i, hi, h1, _⟩ := info5
  have hn : normCap n (U + n) = U + n := by unfold normCap; rw [if_neg (by omega), if_neg (by omega)]
  have hl : capLow (U + n) = n := by unfold capLow; rw [if_neg (by omega)]; omega
  unfold sliceA
  rw [und22]
  simp only [hi, optNat, i64, Int.ofNat_eq_natCast]
  have h0 : decide (0 ≤ (a : Int)) = true := decide_eq_true (by omega)
  simp only [h0, cond_true, hn, Int.toNat_natCast]
  have hk : okBounds (U + n) n none (some a) none = true := by
    simp [okBounds, hl, ha]
  rw [hk]
  simp only [cond_true, Option.getD_none, Option.getD_some, sliceB]
  have hb1 : Nat.blt (U + n) U = false := by
    cases e : Nat.blt (U + n) U with
    | false => rfl
    | true => have : U + n < U := by simpa using e
              omega
  simp only [hb1, Bool.false_and, cond_false, hb, Nat.beq_refl, cond_true, Nat.zero_mul, Nat.add_zero, Nat.sub_zero]

theorem u8s_bv (l : List UInt8) : u8s (bv l) = some l := by
  induction l with
  | nil => rfl
  | cons a r ih =>
    show (match u8s (bv r) with | some l => some (UInt8.ofNat ((a.toNat : Int)).toNat :: l) | none => none) = _
    rw [ih]
    simp

theorem text_of {H : AHeap} {v : Value} {l : List UInt8} (h : SB H v l) : textA T00 H 22 9 v = some (.string ⟨l.toArray⟩) := by
  rcases h with ⟨rfl, rfl⟩ | ⟨b, o, c, rfl, h⟩
  · unfold textA; rw [und22, und9]; simp only [und5]; rfl
  · unfold textA
    rw [und22, und9]
    simp only [und5]
    by_cases hl : l = []
    · subst hl; rfl
    · have h0 : Nat.beq l.length 0 = false := beq_false (by simpa using hl)
      rw [h0, h hl]
      simp only [cond_false, u8s_bv]

/-! The bits. -/
def xr (a m : Int) : Int := IntKind.wrap .u8 ((BitVec.ofInt 8 a ^^^ BitVec.ofInt 8 m).toNat : Nat)
/-- The byte that a turned bit leaves. -/
def turnB (x : UInt8) (s : Nat) : UInt8 := UInt8.ofNat (xr x.toNat ((128 : Int).fdiv (2 ^ s))).toNat
theorem xr_range (a m : Int) : 0 ≤ xr a m ∧ xr a m < 256 := by
  unfold xr IntKind.wrap
  simp [IntKind.bits, IntKind.signed]
  omega
theorem turnB_toNat (x : UInt8) (s : Nat) : ((turnB x s).toNat : Int) = xr x.toNat ((128 : Int).fdiv (2 ^ s)) := by
  have := xr_range x.toNat ((128 : Int).fdiv (2 ^ s))
  unfold turnB
  rw [UInt8.toNat_ofNat']
  omega

/-- One bit's turn, where it is set. -/
def turn (b : Int) (a i : Nat) (l : List UInt8) : List UInt8 := if bitA b i then l.modify ((a + i) / 8) (fun x => turnB x ((a + i) % 8)) else l
/-- The turns of the first so many bits. -/
def turns (b : Int) (a : Nat) (l : List UInt8) : Nat → List UInt8
  | 0 => l
  | i + 1 => turn b a i (turns b a l i)
theorem turn_length (b : Int) (a i : Nat) (l : List UInt8) : (turn b a i l).length = l.length := by
  unfold turn
  split
  · simp
  · rfl
theorem turns_length (b : Int) (a : Nat) (l : List UInt8) : ∀ i, (turns b a l i).length = l.length
  | 0 => rfl
  | i + 1 => by rw [turns, turn_length, turns_length b a l i]

/-- What harm makes of bytes. -/
def harm (k a b : Int) (l m : List UInt8) : List UInt8 :=
  if k = 2 ∧ 0 ≤ a ∧ a < l.length then l.take a.toNat
  else if k = 3 then l ++ m
  else if k = 1 ∧ 0 ≤ a ∧ a ≤ 8 * l.length - 32 then turns b a.toNat l 32
  else l

theorem wrap64_id {n : Int} (h : -9223372036854775808 ≤ n) (h' : n ≤ 9223372036854775807) : IntKind.wrap .i64 n = n := IntWalk.i64_in n ⟨h, h'⟩
end Go.AM.Seat
end

section
/- WorldHarms: To, the regions that touch bytes. -/
set_option maxRecDepth 100000
namespace Go.AM.Seat
open Go.Proofs

theorem Rg.app {K : Kall} {ops : Array Oper} {i d : Nat} {x y : Operand} {ty : TypeId} {pos : String} {af : Array Edge} {e : Env} {H H' : AHeap} {r : Value} {n : Nat} {fs : List (Nat × Value)}
    (ho : ops[i]? = some ⟨some d, .call ⟨.builtin .append, #[x, y], #[22, 22]⟩, ty, pos, af, none⟩) (h : appendA T00 H 22 22 (evA e x) (evA e y) = some (r, H')) (hf : Fr (putA e (some d) r) n fs) : Rg T00 K ops [i] e H n fs H' :=
  Rg.one (stepA_of ho rfl (opA_append und22 h)) hf

theorem H1_get (bx : List Value) (l m : List UInt8) (k a b : Int) (vm : Value) : (H1 bx l m k a b vm).get bb = oRo l ∧ (H1 bx l m k a b vm).get bm = oRo m ∧ (H1 bx l m k a b vm).next = 1307 := ⟨by kernel_rfl, by kernel_rfl, by kernel_rfl⟩
theorem H2_get (bx : List Value) (l m : List UInt8) (k a b : Int) (vm : Value) (c : List Value) : (H2 bx l m k a b vm c).get bm = oRo m ∧ (H2 bx l m k a b vm c).get 1307 = some (.cells c 5 ⟨false, false⟩) ∧ (H2 bx l m k a b vm c).next = 1308 := ⟨by kernel_rfl, by kernel_rfl, by kernel_rfl⟩

section
variable (bx : List Value) (l m : List UInt8) (k a b : Int) (vm : Value)

/-- Region 1, where there are bytes. -/
theorem to_r1n (vb : Value) (h : SB (H1 bx l m k a b vm) vb l) (hl : l ≠ []) (hn : l.length ≤ 1000000) (z : Nat → Value) :
    Rg T00 K0 to1 (List.range to1.size) (mkE 85 [(1, vb), (2, pB)] z) (H1 bx l m k a b vm) 85 [(1, vb), (2, pB), (5, vL 1307 0 l.length (U + l.length))] (H2 bx l m k a b vm (bv l)) := by
  have hs : List.range to1.size = [0] ++ ([1] ++ [2]) := by kernel_rfl
  rw [hs]
  have h0 : Rg T00 K0 to1 [0] (mkE 85 [(1, vb), (2, pB)] z) (H1 bx l m k a b vm) 85 [(1, vb), (2, pB), (7, vb)] (H1 bx l m k a b vm) := Rg.of (by kernel_rfl) ⟨by kernel_rfl, by kernel_rfl, by kernel_rfl, by kernel_rfl, trivial⟩
  refine h0.append fun z => Rg.append (n := 85) (fs := [(1, vb), (2, pB), (8, vL 1307 0 l.length (U + l.length))]) (H1 := H2 bx l m k a b vm (bv l)) ?_ fun z => ?_
  · exact Rg.app (d := 8) (x := .const (.slice none 0 0)) (y := .tmp 7) (ty := (operOf to1 1).type) (pos := (operOf to1 1).pos) (af := (operOf to1 1).after) (by kernel_rfl)
      (show appendA T00 (H1 bx l m k a b vm) 22 22 (.slice none 0 0) vb = _ from app_nil h hl hn) ⟨by kernel_rfl, by kernel_rfl, by kernel_rfl, by kernel_rfl, trivial⟩
  · exact Rg.of (by kernel_rfl) ⟨by kernel_rfl, by kernel_rfl, by kernel_rfl, by kernel_rfl, trivial⟩

/-- Region 1, where there are none. -/
theorem to_r1e (vb : Value) (h : SB (H1 bx l m k a b vm) vb []) (z : Nat → Value) :
    Rg T00 K0 to1 (List.range to1.size) (mkE 85 [(1, vb), (2, pB)] z) (H1 bx l m k a b vm) 85 [(1, vb), (2, pB), (5, .slice none 0 0)] (H1 bx l m k a b vm) := by
  have hs : List.range to1.size = [0] ++ ([1] ++ [2]) := by kernel_rfl
  rw [hs]
  have h0 : Rg T00 K0 to1 [0] (mkE 85 [(1, vb), (2, pB)] z) (H1 bx l m k a b vm) 85 [(1, vb), (2, pB), (7, vb)] (H1 bx l m k a b vm) := Rg.of (by kernel_rfl) ⟨by kernel_rfl, by kernel_rfl, by kernel_rfl, by kernel_rfl, trivial⟩
  refine h0.append fun z => Rg.append (n := 85) (fs := [(1, vb), (2, pB), (8, .slice none 0 0)]) (H1 := H1 bx l m k a b vm) ?_ fun z => ?_
  · exact Rg.app (d := 8) (x := .const (.slice none 0 0)) (y := .tmp 7) (ty := (operOf to1 1).type) (pos := (operOf to1 1).pos) (af := (operOf to1 1).after) (by kernel_rfl)
      (show appendA T00 (H1 bx l m k a b vm) 22 22 (.slice none 0 0) vb = _ from app_nil0 h) ⟨by kernel_rfl, by kernel_rfl, by kernel_rfl, by kernel_rfl, trivial⟩
  · exact Rg.of (by kernel_rfl) ⟨by kernel_rfl, by kernel_rfl, by kernel_rfl, by kernel_rfl, trivial⟩

/-- Region 3: the cut. -/
theorem to_r3 (j : Nat) (hj : j ≤ l.length) (c : List Value) (z : Nat → Value) :
    Rg T00 K0 to3 (List.range to3.size) (mkE 85 [(2, pB), (5, vL 1307 0 l.length (U + l.length))] z) (H2 bx l m k (Int.ofNat j) b vm c) 85 [(4, vL 1307 0 j (U + l.length))] (H2 bx l m k (Int.ofNat j) b vm c) := by
  have hs : List.range to3.size = [0, 1, 2] ++ ([3] ++ [4]) := by kernel_rfl
  rw [hs]
  have h0 : Rg T00 K0 to3 [0, 1, 2] (mkE 85 [(2, pB), (5, vL 1307 0 l.length (U + l.length))] z) (H2 bx l m k (Int.ofNat j) b vm c) 85 [(25, vL 1307 0 l.length (U + l.length)), (27, i64 (Int.ofNat j))] (H2 bx l m k (Int.ofNat j) b vm c) :=
    Rg.of (by kernel_rfl) ⟨by kernel_rfl, by kernel_rfl, by kernel_rfl, trivial⟩
  refine h0.append fun z => Rg.append (n := 85) (fs := [(28, vL 1307 0 j (U + l.length))]) (H1 := H2 bx l m k (Int.ofNat j) b vm c) ?_ fun z => ?_
  · refine Rg.one (stepA_of (v := vL 1307 0 j (U + l.length)) (o := ⟨some 28, .slice 22 (.tmp 25) none (some (.tmp 27)) none, (operOf to3 3).type, (operOf to3 3).pos, (operOf to3 3).after, none⟩) (by kernel_rfl) rfl (opA_slice (by kernel_rfl) ?_)) ⟨by kernel_rfl, by kernel_rfl, trivial⟩
    exact slice_to (H2_get bx l m k (Int.ofNat j) b vm c).2.1 hj rfl
  · exact Rg.of (by kernel_rfl) ⟨by kernel_rfl, by kernel_rfl, trivial⟩

/-- Region 5: the tail. -/
theorem to_r5n (hm : SB (H2 bx l m k a b vm (bv l)) vm m) (hl : l ≠ []) (hm0 : m ≠ []) (hn : l.length + m.length ≤ 1000000) (z : Nat → Value) :
    Rg T00 K0 to5 (List.range to5.size) (mkE 85 [(2, pB), (5, vL 1307 0 l.length (U + l.length))] z) (H2 bx l m k a b vm (bv l)) 85 [(4, vL 1308 0 (l.length + m.length) (U + (l.length + m.length)))]
      (((H2 bx l m k a b vm (bv l)).put 1307 none).new (.cells (bv (l ++ m)) 5 ⟨false, false⟩)) := by
  have hs : List.range to5.size = [0, 1, 2] ++ ([3] ++ [4]) := by kernel_rfl
  rw [hs]
  have h0 : Rg T00 K0 to5 [0, 1, 2] (mkE 85 [(2, pB), (5, vL 1307 0 l.length (U + l.length))] z) (H2 bx l m k a b vm (bv l)) 85 [(33, vL 1307 0 l.length (U + l.length)), (35, vm)] (H2 bx l m k a b vm (bv l)) :=
    Rg.of (by kernel_rfl) ⟨by kernel_rfl, by kernel_rfl, by kernel_rfl, trivial⟩
  refine h0.append fun z => Rg.append (n := 85) (fs := [(36, vL 1308 0 (l.length + m.length) (U + (l.length + m.length)))]) (H1 := ((H2 bx l m k a b vm (bv l)).put 1307 none).new (.cells (bv (l ++ m)) 5 ⟨false, false⟩)) ?_ fun z => ?_
  · exact Rg.app (d := 36) (x := .tmp 33) (y := .tmp 35) (ty := (operOf to5 3).type) (pos := (operOf to5 3).pos) (af := (operOf to5 3).after) (by kernel_rfl)
      (show appendA T00 (H2 bx l m k a b vm (bv l)) 22 22 (vL 1307 0 l.length (U + l.length)) vm = _ from app_own hm hm0 (H2_get bx l m k a b vm (bv l)).2.1 hl hn) ⟨by kernel_rfl, by kernel_rfl, trivial⟩
  · exact Rg.of (by kernel_rfl) ⟨by kernel_rfl, by kernel_rfl, trivial⟩

theorem to_r5z (hm : SB (H2 bx l m k a b vm (bv l)) vm []) (z : Nat → Value) :
    Rg T00 K0 to5 (List.range to5.size) (mkE 85 [(2, pB), (5, vL 1307 0 l.length (U + l.length))] z) (H2 bx l m k a b vm (bv l)) 85 [(4, vL 1307 0 l.length (U + l.length))] (H2 bx l m k a b vm (bv l)) := by
  have hs : List.range to5.size = [0, 1, 2] ++ ([3] ++ [4]) := by kernel_rfl
  rw [hs]
  have h0 : Rg T00 K0 to5 [0, 1, 2] (mkE 85 [(2, pB), (5, vL 1307 0 l.length (U + l.length))] z) (H2 bx l m k a b vm (bv l)) 85 [(33, vL 1307 0 l.length (U + l.length)), (35, vm)] (H2 bx l m k a b vm (bv l)) :=
    Rg.of (by kernel_rfl) ⟨by kernel_rfl, by kernel_rfl, by kernel_rfl, trivial⟩
  refine h0.append fun z => Rg.append (n := 85) (fs := [(36, vL 1307 0 l.length (U + l.length))]) (H1 := H2 bx l m k a b vm (bv l)) ?_ fun z => ?_
  · exact Rg.app (d := 36) (x := .tmp 33) (y := .tmp 35) (ty := (operOf to5 3).type) (pos := (operOf to5 3).pos) (af := (operOf to5 3).after) (by kernel_rfl)
      (show appendA T00 (H2 bx l m k a b vm (bv l)) 22 22 (vL 1307 0 l.length (U + l.length)) vm = _ from app_own0 hm) ⟨by kernel_rfl, by kernel_rfl, trivial⟩
  · exact Rg.of (by kernel_rfl) ⟨by kernel_rfl, by kernel_rfl, trivial⟩

/-- Region 5, nothing was copied: the tail alone. -/
theorem to_r5en (hm : SB (H1 bx l m k a b vm) vm m) (hm0 : m ≠ []) (hn : m.length ≤ 1000000) (z : Nat → Value) :
    Rg T00 K0 to5 (List.range to5.size) (mkE 85 [(2, pB), (5, .slice none 0 0)] z) (H1 bx l m k a b vm) 85 [(4, vL 1307 0 m.length (U + m.length))] (H2 bx l m k a b vm (bv m)) := by
  have hs : List.range to5.size = [0, 1, 2] ++ ([3] ++ [4]) := by kernel_rfl
  rw [hs]
  have h0 : Rg T00 K0 to5 [0, 1, 2] (mkE 85 [(2, pB), (5, .slice none 0 0)] z) (H1 bx l m k a b vm) 85 [(33, .slice none 0 0), (35, vm)] (H1 bx l m k a b vm) :=
    Rg.of (by kernel_rfl) ⟨by kernel_rfl, by kernel_rfl, by kernel_rfl, trivial⟩
  refine h0.append fun z => Rg.append (n := 85) (fs := [(36, vL 1307 0 m.length (U + m.length))]) (H1 := H2 bx l m k a b vm (bv m)) ?_ fun z => ?_
  · exact Rg.app (d := 36) (x := .tmp 33) (y := .tmp 35) (ty := (operOf to5 3).type) (pos := (operOf to5 3).pos) (af := (operOf to5 3).after) (by kernel_rfl)
      (show appendA T00 (H1 bx l m k a b vm) 22 22 (.slice none 0 0) vm = _ from app_nil hm hm0 hn) ⟨by kernel_rfl, by kernel_rfl, trivial⟩
  · exact Rg.of (by kernel_rfl) ⟨by kernel_rfl, by kernel_rfl, trivial⟩

theorem to_r5ez (hm : SB (H1 bx l m k a b vm) vm []) (z : Nat → Value) :
    Rg T00 K0 to5 (List.range to5.size) (mkE 85 [(2, pB), (5, .slice none 0 0)] z) (H1 bx l m k a b vm) 85 [(4, .slice none 0 0)] (H1 bx l m k a b vm) := by
  have hs : List.range to5.size = [0, 1, 2] ++ ([3] ++ [4]) := by kernel_rfl
  rw [hs]
  have h0 : Rg T00 K0 to5 [0, 1, 2] (mkE 85 [(2, pB), (5, .slice none 0 0)] z) (H1 bx l m k a b vm) 85 [(33, .slice none 0 0), (35, vm)] (H1 bx l m k a b vm) :=
    Rg.of (by kernel_rfl) ⟨by kernel_rfl, by kernel_rfl, by kernel_rfl, trivial⟩
  refine h0.append fun z => Rg.append (n := 85) (fs := [(36, .slice none 0 0)]) (H1 := H1 bx l m k a b vm) ?_ fun z => ?_
  · exact Rg.app (d := 36) (x := .tmp 33) (y := .tmp 35) (ty := (operOf to5 3).type) (pos := (operOf to5 3).pos) (af := (operOf to5 3).after) (by kernel_rfl)
      (show appendA T00 (H1 bx l m k a b vm) 22 22 (.slice none 0 0) vm = _ from app_nil0 hm) ⟨by kernel_rfl, by kernel_rfl, trivial⟩
  · exact Rg.of (by kernel_rfl) ⟨by kernel_rfl, by kernel_rfl, trivial⟩
end
end Go.AM.Seat
end

