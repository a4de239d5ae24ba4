/- A part of the proof that WorldHarms answers true at every input: a part of the walk of the law WorldHarms. -/
import Derived.Test.YthokedjmopgdmaaGreatDoorLwJ
import Derived.Test.YthokedjmopgdmaaGreatDoorAm5
set_option linter.all false
section
/- WorldHarms: the law, its regions. -/
set_option maxRecDepth 100000
namespace Go.AM.Seat
open Go.Proofs

noncomputable def la0 : Array Oper := opsOf Tryz.f3 0
noncomputable def la1 : Array Oper := opsOf Tryz.f3 1
noncomputable def la2 : Array Oper := opsOf Tryz.f3 2
noncomputable def la3 : Array Oper := opsOf Tryz.f3 3
noncomputable def la4 : Array Oper := opsOf Tryz.f3 4
noncomputable def la5 : Array Oper := opsOf Tryz.f3 5
noncomputable def la6 : Array Oper := opsOf Tryz.f3 6
noncomputable def la6c : Code := .seq (.region 6 la6 true) .ret
noncomputable def la3c : Code := .seq (.seq (.region 3 la3 false) (.cond (.tmp 16) (.seq (.region 4 la4 false) .ret) .skip)) (.seq (.region 5 la5 false) la6c)
noncomputable def la1c : Code := .seq (.seq (.region 1 la1 false) (.cond (.tmp 7) (.seq (.region 2 la2 false) .ret) .skip)) la3c
noncomputable def laCode : Code := .seq (.region 0 la0 false) la1c
theorem la_body : Tryz.f3.body = some laCode := by kernel_rfl
theorem la_ok : codeOk T00 3 laCode = true := by kernel_rfl
theorem pl36 : T00.plan 3 6 = some pl3_6 := by kernel_rfl

/-- The heap at the beginning. -/
def HW (l m : List UInt8) : AHeap := ⟨1, ((Tr.nil.set 0 (some oRoot)).set bb (oRo l)).set bm (oRo m)⟩
/-- Ahead of the anchor. -/
def HA (bx : List Value) (l m : List UInt8) : AHeap := (HW l m).new (.cells bx 25 ⟨false, true⟩)

def p1 : Value := vP 1 0
def wB (l : List UInt8) : Value := .string ⟨l.toArray⟩
def envAt (e : Env) (D : List (Nat × Value)) : Env := D.foldl (fun e p => e.setIfInBounds p.1 p.2) e

section
variable (K : Kall) (l m : List UInt8) (k a b : Int) (vm vb : Value)

theorem la_r0 (z : Nat → Value) : Rg T00 K la0 (List.range la0.size) (mkE 42 [(0, vb), (1, vH k a b vm)] z) (HW l m) 42 [(0, vb), (3, p1)] (HA [i64 k, i64 a, u32 b, vm] l m) :=
  Rg.of (by kernel_rfl) ⟨by kernel_rfl, by kernel_rfl, by kernel_rfl, trivial⟩

theorem la_r1 (H : AHeap) (h : K 4 [] (HA [i64 k, i64 a, u32 b, vm] l m) = some (.bool true, H)) (z : Nat → Value) :
    Rg T00 K la1 (List.range la1.size) (mkE 42 [(0, vb), (3, p1)] z) (HA [i64 k, i64 a, u32 b, vm] l m) 42 [(0, vb), (3, p1), (7, .bool false)] H := by
  have hs : List.range la1.size = [0] ++ [1] := by kernel_rfl
  rw [hs]
  refine Rg.append (n := 42) (fs := [(0, vb), (3, p1), (6, .bool true)]) (H1 := H) ?_ fun z => ?_
  · exact Rg.one (stepA_call (o := ⟨some 6, .call ⟨.value (.func 4), #[], #[]⟩, (operOf la1 0).type, (operOf la1 0).pos, (operOf la1 0).after, none⟩) (by kernel_rfl) rfl (opA_call (fn := Tryz.f4) rfl (by kernel_rfl) rfl) h)
      ⟨by kernel_rfl, by kernel_rfl, by kernel_rfl, by kernel_rfl, trivial⟩
  · exact Rg.of (by kernel_rfl) ⟨by kernel_rfl, by kernel_rfl, by kernel_rfl, by kernel_rfl, trivial⟩
end

section
variable (K : Kall) (l m : List UInt8) (k a b : Int)

abbrev HL (vm : Value) : AHeap := HB N0 [i64 k, i64 a, u32 b, vm] l m

/-- Region 3: the sizes. -/
theorem la_r3 (q1 q2 : Option Addr) (n1 c1 n2 c2 : Nat) (z : Nat → Value) :
    Rg T00 K la3 (List.range la3.size) (mkE 42 [(0, .slice q1 n1 c1), (3, p1)] z) (HL l m k a b (.slice q2 n2 c2)) 42 [(0, .slice q1 n1 c1), (3, p1), (16, .bool (decide (1000 < n1) || decide (1000 < n2)))] (HL l m k a b (.slice q2 n2 c2)) := by
  have hs : List.range la3.size = [0, 1, 2] ++ [3, 4, 5, 6, 7, 8] := by kernel_rfl
  rw [hs]
  have h0 : Rg T00 K la3 [0, 1, 2] (mkE 42 [(0, .slice q1 n1 c1), (3, p1)] z) (HL l m k a b (.slice q2 n2 c2)) 42 [(0, .slice q1 n1 c1), (3, p1), (10, .bool (decide ((1000 : Int) < Int.ofNat n1)))] (HL l m k a b (.slice q2 n2 c2)) :=
    Rg.of (by kernel_rfl) ⟨by kernel_rfl, by kernel_rfl, by kernel_rfl, by kernel_rfl, trivial⟩
  have d : ∀ n : Nat, decide ((1000 : Int) < Int.ofNat n) = decide (1000 < n) := fun n => decide_eq_decide.2 (by simp only [Int.ofNat_eq_natCast]; omega)
  rw [d] at h0
  refine h0.append fun z => ?_
  cases decide (1000 < n1) with
  | true => exact Rg.of (by kernel_rfl) ⟨by kernel_rfl, by kernel_rfl, by kernel_rfl, by kernel_rfl, trivial⟩
  | false =>
    have h3 : Rg T00 K la3 [3, 4, 5, 6, 7, 8] (mkE 42 [(0, .slice q1 n1 c1), (3, p1), (10, .bool false)] z) (HL l m k a b (.slice q2 n2 c2)) 42 [(0, .slice q1 n1 c1), (3, p1), (16, .bool (decide ((1000 : Int) < Int.ofNat n2)))] (HL l m k a b (.slice q2 n2 c2)) :=
      Rg.of (by kernel_rfl) ⟨by kernel_rfl, by kernel_rfl, by kernel_rfl, by kernel_rfl, trivial⟩
    rw [d] at h3
    exact h3

theorem la_r4 (H : AHeap) (z : Nat → Value) : Rg T00 K la4 (List.range la4.size) (mkE 42 [] z) H 42 [(4, .bool true)] H := Rg.of (by kernel_rfl) ⟨by kernel_rfl, by kernel_rfl, trivial⟩

theorem op_text {H : AHeap} {e : Env} {v : Value} {r : List UInt8} {d s : Nat} {ty : TypeId} {pos : String} {af : Array Edge} {g : Option (Nat × Bool)} (hv : evA e (.tmp s) = v) (h : SB H v r) :
    opA T00 H (evA e) ⟨some d, .convert 22 9 (.tmp s), ty, pos, af, g⟩ = some (.val (wB r), H) := by
  rcases h with ⟨h1, rfl⟩ | ⟨b', o', c', h1, h2⟩
  · refine opA_val ?_
    show (cond (scal (evA e (.tmp s))) (flatRes (pureA T00.P (convert 22 9 (evA e (.tmp s))))) none) = _
    rw [hv, h1]
    kernel_rfl
  · refine opA_text ?_ und9 (by rw [hv]; exact text_of (.inr ⟨b', o', c', h1, h2⟩))
    show (cond (scal (evA e (.tmp s))) (flatRes (pureA T00.P (convert 22 9 (evA e (.tmp s))))) none) = _
    rw [hv, h1]
    rfl

theorem la_r5 (vb vm : Value) (h : SB (HL l m k a b vm) vb l) (z : Nat → Value) :
    Rg T00 K la5 (List.range la5.size) (mkE 42 [(0, vb), (3, p1)] z) (HL l m k a b vm) 42 [(0, vb), (3, p1), (5, wB l)] (HL l m k a b vm) := by
  have hs : List.range la5.size = [0] ++ ([1] ++ [2]) := by kernel_rfl
  rw [hs]
  have h0 : Rg T00 K la5 [0] (mkE 42 [(0, vb), (3, p1)] z) (HL l m k a b vm) 42 [(0, vb), (3, p1), (17, vb)] (HL l m k a b vm) := Rg.of (by kernel_rfl) ⟨by kernel_rfl, by kernel_rfl, by kernel_rfl, by kernel_rfl, trivial⟩
  refine h0.append fun z => Rg.append (n := 42) (fs := [(0, vb), (3, p1), (18, wB l)]) (H1 := HL l m k a b vm) ?_ fun z => ?_
  · exact Rg.one (stepA_of (v := wB l) (o := ⟨some 18, .convert 22 9 (.tmp 17), (operOf la5 1).type, (operOf la5 1).pos, (operOf la5 1).after, none⟩) (by kernel_rfl) rfl (op_text (by kernel_rfl) h)) ⟨by kernel_rfl, by kernel_rfl, by kernel_rfl, by kernel_rfl, trivial⟩
  · exact Rg.of (by kernel_rfl) ⟨by kernel_rfl, by kernel_rfl, by kernel_rfl, by kernel_rfl, trivial⟩
end
end Go.AM.Seat
end

section
/- WorldHarms: the law's last region. -/
set_option maxRecDepth 100000
namespace Go.AM.Seat
open Go.Proofs

/-- The bytes made of the text again. -/
def HC (HT : AHeap) (l : List UInt8) : AHeap := HT.new (.cells (bv l) 5 ⟨true, false⟩)
def dd (l : List UInt8) (k a b : Int) (vb vm vT vE : Value) (r : List UInt8) (HT : AHeap) : List (Nat × Value) := [(19, vH k a b vm), (20, vb), (21, vT), (22, wB r), (23, wB l), (24, vB HT.next l), (25, vP 1 0), (26, i64 k), (27, vP 1 1), (28, i64 a), (29, vP 1 2), (30, u32 b), (31, vP 1 3), (32, vm), (33, vE), (34, wB r), (35, .bool true), (36, .bool true), (37, vb), (38, wB l), (39, wB l), (40, .bool true), (41, .bool true), (4, .bool true)]
def ev6 (z : Nat → Value) (l : List UInt8) (k a b : Int) (vb vm vT vE : Value) (r : List UInt8) (HT : AHeap) (i : Nat) : Env := envAt (mkE 42 [(0, vb), (3, p1), (5, wB l)] z) ((dd l k a b vb vm vT vE r HT).take i)

section
variable {K : Kall} {z : Nat → Value} {l m : List UInt8} {k a b : Int} {vb vm vT vE : Value} {r : List UInt8} {HT HE : AHeap}

theorem byteCells_bv : byteCells ⟨l.toArray⟩ = bv l := by simp [byteCells, bv]

theorem bytes_of (hl : l.length ≤ 1000000) : bytesA T00 HT 9 22 (wB l) = some (vB HT.next l, HC HT l) := by
  obtain ⟨i, hi, h1, _⟩ := info5
  unfold bytesA
  rw [und9, und22]
  simp only [wB, und5, hi, h1]
  have hs : (⟨l.toArray⟩ : ByteArray).size = l.length := by simp [ByteArray.size]
  rw [hs, ble_true hl, byteCells_bv]
  rfl

theorem eq_text (e : Env) (x y : Operand) (s : List UInt8) (h1 : evA e x = wB s) (h2 : evA e y = wB s) (d : Nat) (ty : TypeId) (pos : String) (af : Array Edge) (g : Option (Nat × Bool)) (H : AHeap) :
    opA T00 H (evA e) ⟨some d, .binOp .eql 9 x y 9, ty, pos, af, g⟩ = some (.val (.bool true), H) := by
  refine opA_val ?_
  show binA T00 .eql 9 x y (evA e x) (evA e y) = _
  rw [h1, h2]
  have h : binA T00 .eql 9 x y (wB s) (wB s) = some (.bool ((⟨s.toArray⟩ : ByteArray).toList == (⟨s.toArray⟩ : ByteArray).toList)) := by kernel_rfl
  rw [h, beq_self_eq_true]

theorem s6_0  : stepA T00 K la6 0 (ev6 z l k a b vb vm vT vE r HT 0) (HL l m k a b vm) = some (ev6 z l k a b vb vm vT vE r HT 1, (HL l m k a b vm)) := by kernel_rfl
theorem s6_1  : stepA T00 K la6 1 (ev6 z l k a b vb vm vT vE r HT 1) (HL l m k a b vm) = some (ev6 z l k a b vb vm vT vE r HT 2, (HL l m k a b vm)) := by kernel_rfl
theorem s6_4  : stepA T00 K la6 4 (ev6 z l k a b vb vm vT vE r HT 4) HT = some (ev6 z l k a b vb vm vT vE r HT 5, HT) := by kernel_rfl
theorem s6_6  : stepA T00 K la6 6 (ev6 z l k a b vb vm vT vE r HT 6) (HC HT l) = some (ev6 z l k a b vb vm vT vE r HT 7, (HC HT l)) := by kernel_rfl
theorem s6_8  : stepA T00 K la6 8 (ev6 z l k a b vb vm vT vE r HT 8) (HC HT l) = some (ev6 z l k a b vb vm vT vE r HT 9, (HC HT l)) := by kernel_rfl
theorem s6_10  : stepA T00 K la6 10 (ev6 z l k a b vb vm vT vE r HT 10) (HC HT l) = some (ev6 z l k a b vb vm vT vE r HT 11, (HC HT l)) := by kernel_rfl
theorem s6_12  : stepA T00 K la6 12 (ev6 z l k a b vb vm vT vE r HT 12) (HC HT l) = some (ev6 z l k a b vb vm vT vE r HT 13, (HC HT l)) := by kernel_rfl
theorem s6_17  : stepA T00 K la6 17 (ev6 z l k a b vb vm vT vE r HT 17) HE = some (ev6 z l k a b vb vm vT vE r HT 18, HE) := by kernel_rfl
theorem s6_18  : stepA T00 K la6 18 (ev6 z l k a b vb vm vT vE r HT 18) HE = some (ev6 z l k a b vb vm vT vE r HT 19, HE) := by kernel_rfl
theorem s6_20  : stepA T00 K la6 20 (ev6 z l k a b vb vm vT vE r HT 20) HE = some (ev6 z l k a b vb vm vT vE r HT 21, HE) := by kernel_rfl
theorem s6_22  : stepA T00 K la6 22 (ev6 z l k a b vb vm vT vE r HT 22) HE = some (ev6 z l k a b vb vm vT vE r HT 23, HE) := by kernel_rfl
theorem s6_23  : stepA T00 K la6 23 (ev6 z l k a b vb vm vT vE r HT 23) HE = some (ev6 z l k a b vb vm vT vE r HT 24, HE) := by kernel_rfl
theorem s6_2 (h : K 5 [vH k a b vm, vb] (HL l m k a b vm) = some (vT, HT)) : stepA T00 K la6 2 (ev6 z l k a b vb vm vT vE r HT 2) (HL l m k a b vm) = some (ev6 z l k a b vb vm vT vE r HT 3, HT) :=
  (stepA_call (v := vT) (H' := HT) (args := [vH k a b vm, vb]) (o := ⟨some 21, .call ⟨.value (.func 5), #[.tmp 19, .tmp 20], #[25, 22]⟩, (operOf la6 2).type, (operOf la6 2).pos, (operOf la6 2).after, none⟩) (by kernel_rfl) rfl ((opA_call (fn := Tryz.f5) rfl (by kernel_rfl) rfl).trans (by kernel_rfl)) h).trans (by kernel_rfl)
theorem s6_3 (h : SB HT vT r) : stepA T00 K la6 3 (ev6 z l k a b vb vm vT vE r HT 3) HT = some (ev6 z l k a b vb vm vT vE r HT 4, HT) :=
  (stepA_of' (v := wB r) (H' := HT) (o := ⟨some 22, .convert 22 9 (.tmp 21), (operOf la6 3).type, (operOf la6 3).pos, (operOf la6 3).after, none⟩) (by kernel_rfl) (by kernel_rfl) (op_text (by kernel_rfl) h)).trans (by kernel_rfl)
theorem s6_5 (hl : l.length ≤ 1000000) : stepA T00 K la6 5 (ev6 z l k a b vb vm vT vE r HT 5) HT = some (ev6 z l k a b vb vm vT vE r HT 6, (HC HT l)) :=
  (stepA_of' (v := vB HT.next l) (H' := (HC HT l)) (o := ⟨some 24, .convert 9 22 (.tmp 23), (operOf la6 5).type, (operOf la6 5).pos, (operOf la6 5).after, none⟩) (by kernel_rfl) (by kernel_rfl) (opA_bytes (by kernel_rfl) (by kernel_rfl) rfl (show bytesA T00 HT 9 22 (wB l) = _ from bytes_of hl))).trans (by kernel_rfl)
end

theorem field_at {H : AHeap} {bx : List Value} {v : Value} {t q : Nat} (hb : H.get 1 = some (.cells bx 25 ⟨false, true⟩)) (ht : T00.agg t = some false) (hv : bx[q]? = some v) : loadV T00 H t (vP 1 q) = some v := by
  unfold loadV
  simp only [ht]
  unfold ld
  rw [hb]
  exact hv
theorem agg3 : T00.agg 3 = some false := by kernel_rfl
theorem agg23 : T00.agg 23 = some false := by kernel_rfl
theorem agg22 : T00.agg 22 = some false := by kernel_rfl

section
variable {K : Kall} {z : Nat → Value} {l m : List UInt8} {k a b : Int} {vb vm vT vE : Value} {r : List UInt8} {HT HE : AHeap}

theorem s6_7 (hb : (HC HT l).get 1 = some (.cells [i64 k, i64 a, u32 b, vm] 25 ⟨false, true⟩)) : stepA T00 K la6 7 (ev6 z l k a b vb vm vT vE r HT 7) (HC HT l) = some (ev6 z l k a b vb vm vT vE r HT 8, (HC HT l)) :=
  (stepA_of' (v := i64 k) (H' := (HC HT l)) (o := ⟨some 26, .load 3 (.tmp 25), (operOf la6 7).type, (operOf la6 7).pos, (operOf la6 7).after, none⟩) (by kernel_rfl) (by kernel_rfl) (opA_load (by rw [show evA (ev6 z l k a b vb vm vT vE r HT 7) (.tmp 25) = vP 1 0 by kernel_rfl]; exact field_at hb agg3 rfl))).trans (by kernel_rfl)
theorem s6_9 (hb : (HC HT l).get 1 = some (.cells [i64 k, i64 a, u32 b, vm] 25 ⟨false, true⟩)) : stepA T00 K la6 9 (ev6 z l k a b vb vm vT vE r HT 9) (HC HT l) = some (ev6 z l k a b vb vm vT vE r HT 10, (HC HT l)) :=
  (stepA_of' (v := i64 a) (H' := (HC HT l)) (o := ⟨some 28, .load 3 (.tmp 27), (operOf la6 9).type, (operOf la6 9).pos, (operOf la6 9).after, none⟩) (by kernel_rfl) (by kernel_rfl) (opA_load (by rw [show evA (ev6 z l k a b vb vm vT vE r HT 9) (.tmp 27) = vP 1 1 by kernel_rfl]; exact field_at hb agg3 rfl))).trans (by kernel_rfl)
theorem s6_11 (hb : (HC HT l).get 1 = some (.cells [i64 k, i64 a, u32 b, vm] 25 ⟨false, true⟩)) : stepA T00 K la6 11 (ev6 z l k a b vb vm vT vE r HT 11) (HC HT l) = some (ev6 z l k a b vb vm vT vE r HT 12, (HC HT l)) :=
  (stepA_of' (v := u32 b) (H' := (HC HT l)) (o := ⟨some 30, .load 23 (.tmp 29), (operOf la6 11).type, (operOf la6 11).pos, (operOf la6 11).after, none⟩) (by kernel_rfl) (by kernel_rfl) (opA_load (by rw [show evA (ev6 z l k a b vb vm vT vE r HT 11) (.tmp 29) = vP 1 2 by kernel_rfl]; exact field_at hb agg23 rfl))).trans (by kernel_rfl)
theorem s6_13 (hb : (HC HT l).get 1 = some (.cells [i64 k, i64 a, u32 b, vm] 25 ⟨false, true⟩)) : stepA T00 K la6 13 (ev6 z l k a b vb vm vT vE r HT 13) (HC HT l) = some (ev6 z l k a b vb vm vT vE r HT 14, (HC HT l)) :=
  (stepA_of' (v := vm) (H' := (HC HT l)) (o := ⟨some 32, .load 22 (.tmp 31), (operOf la6 13).type, (operOf la6 13).pos, (operOf la6 13).after, none⟩) (by kernel_rfl) (by kernel_rfl) (opA_load (by rw [show evA (ev6 z l k a b vb vm vT vE r HT 13) (.tmp 31) = vP 1 3 by kernel_rfl]; exact field_at hb agg22 rfl))).trans (by kernel_rfl)
theorem s6_14 (h : K 6 [vB HT.next l, i64 k, i64 a, u32 b, vm] (HC HT l) = some (vE, HE)) : stepA T00 K la6 14 (ev6 z l k a b vb vm vT vE r HT 14) (HC HT l) = some (ev6 z l k a b vb vm vT vE r HT 15, HE) :=
  (stepA_call (v := vE) (H' := HE) (args := [vB HT.next l, i64 k, i64 a, u32 b, vm]) (o := ⟨some 33, .call ⟨.value (.func 6), #[.tmp 24, .tmp 26, .tmp 28, .tmp 30, .tmp 32], #[22, 3, 3, 23, 22]⟩, (operOf la6 14).type, (operOf la6 14).pos, (operOf la6 14).after, none⟩) (by kernel_rfl) rfl ((opA_call (fn := Tryz.f6) rfl (by kernel_rfl) rfl).trans (by kernel_rfl)) h).trans (by kernel_rfl)
theorem s6_15 (h : SB HE vE r) : stepA T00 K la6 15 (ev6 z l k a b vb vm vT vE r HT 15) HE = some (ev6 z l k a b vb vm vT vE r HT 16, HE) :=
  (stepA_of' (v := wB r) (H' := HE) (o := ⟨some 34, .convert 22 9 (.tmp 33), (operOf la6 15).type, (operOf la6 15).pos, (operOf la6 15).after, none⟩) (by kernel_rfl) (by kernel_rfl) (op_text (by kernel_rfl) h)).trans (by kernel_rfl)
theorem s6_16  : stepA T00 K la6 16 (ev6 z l k a b vb vm vT vE r HT 16) HE = some (ev6 z l k a b vb vm vT vE r HT 17, HE) :=
  (stepA_of' (v := .bool true) (H' := HE) (o := ⟨some 35, .binOp .eql 9 (.tmp 22) (.tmp 34) 9, (operOf la6 16).type, (operOf la6 16).pos, (operOf la6 16).after, none⟩) (by kernel_rfl) (by kernel_rfl) (eq_text _ _ _ r (by kernel_rfl) (by kernel_rfl) _ _ _ _ _ _)).trans (by kernel_rfl)
theorem s6_19 (h : SB HE vb l) : stepA T00 K la6 19 (ev6 z l k a b vb vm vT vE r HT 19) HE = some (ev6 z l k a b vb vm vT vE r HT 20, HE) :=
  (stepA_of' (v := wB l) (H' := HE) (o := ⟨some 38, .convert 22 9 (.tmp 37), (operOf la6 19).type, (operOf la6 19).pos, (operOf la6 19).after, some (17, true)⟩) (by kernel_rfl) (by kernel_rfl) (op_text (by kernel_rfl) h)).trans (by kernel_rfl)
theorem s6_21  : stepA T00 K la6 21 (ev6 z l k a b vb vm vT vE r HT 21) HE = some (ev6 z l k a b vb vm vT vE r HT 22, HE) :=
  (stepA_of' (v := .bool true) (H' := HE) (o := ⟨some 40, .binOp .eql 9 (.tmp 38) (.tmp 39) 9, (operOf la6 21).type, (operOf la6 21).pos, (operOf la6 21).after, some (17, true)⟩) (by kernel_rfl) (by kernel_rfl) (eq_text _ _ _ l (by kernel_rfl) (by kernel_rfl) _ _ _ _ _ _)).trans (by kernel_rfl)
end
end Go.AM.Seat
end

