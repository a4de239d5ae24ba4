/- A part of the proof that WorldHarms answers true at every input: a part of the walk of the law WorldHarms. -/
import Derived.Test.YthokedjmopgdmaaGreatDoorLwC
set_option linter.all false
/- WorldHarms: To, one round of its loop; its loop. -/
set_option maxRecDepth 100000
namespace Go.AM.Seat
open Go.Proofs

def u64 (n : Int) : Value := .int .u64 n
def u8 (n : Int) : Value := .int .u8 n

theorem quo_eq {j i : Nat} (h : j + i ≤ 1000000) : IntKind.wrap .i64 ((IntKind.wrap .i64 (Int.ofNat j + Int.ofNat i)).tdiv 8) = Int.ofNat ((j + i) / 8) := by
  simp only [Int.ofNat_eq_natCast]
  rw [wrap64_id (n := (j : Int) + i) (by omega) (by omega), Int.tdiv_eq_ediv_of_nonneg (by omega), wrap64_id (by omega) (by omega)]
  omega

theorem rem_eq {j i : Nat} (h : j + i ≤ 1000000) : IntKind.wrap .u64 ((IntKind.wrap .i64 (Int.ofNat j + Int.ofNat i)).tmod 8) = Int.ofNat ((j + i) % 8) := by
  simp only [Int.ofNat_eq_natCast]
  rw [wrap64_id (n := (j : Int) + i) (by omega) (by omega), Int.tmod_eq_emod_of_nonneg (by omega), IntWalk.u64_in _ (by omega)]
  omega

theorem mask_eq {s : Nat} (h : s < 8) : (128 : Int).fdiv (2 ^ min (Int.ofNat s).toNat 8) = (128 : Int).fdiv (2 ^ s) := by
  have : min (Int.ofNat s).toNat 8 = s := by simp; omega
  rw [this]

theorem bv_modify {c : List UInt8} {q s : Nat} {x : UInt8} (hq : c[q]? = some x) : (bv c).set q (u8 (xr x.toNat ((128 : Int).fdiv (2 ^ s)))) = bv (c.modify q (fun y => turnB y s)) := by
  apply List.ext_getElem?
  intro i
  unfold bv
  rw [List.getElem?_map, List.getElem?_modify]
  by_cases e : q = i
  · subst e
    have hlt : q < c.length := (List.getElem?_eq_some_iff.1 hq).1
    rw [List.getElem?_set_self (by simpa using hlt), hq]
    simp [u8, turnB_toNat]
  · rw [List.getElem?_set_ne e, List.getElem?_map]
    simp [e]

theorem setF_setF {α : Type} (x y : Option α) : ∀ (f : Nat) (t : Tr α) (k : Nat), Tr.setF f (Tr.setF f t k x) k y = Tr.setF f t k y := by
  intro f
  induction f with
  | zero => intro t k; rfl
  | succ f ih =>
    intro t k
    cases t with
    | nil =>
      simp only [Tr.setF]
      cases h0 : Nat.beq k 0 with
      | true => simp only [cond_true, Tr.setF, h0]
      | false =>
        simp only [cond_false]
        cases h1 : Nat.beq (k % 2) 1 with
        | true => simp only [cond_true, Tr.setF, h0, h1, cond_false, ih]
        | false => simp only [cond_false, Tr.setF, h0, h1, ih]
    | node l v r =>
      simp only [Tr.setF]
      cases h0 : Nat.beq k 0 with
      | true => simp only [cond_true, Tr.setF, h0]
      | false =>
        simp only [cond_false]
        cases h1 : Nat.beq (k % 2) 1 with
        | true => simp only [cond_true, Tr.setF, h0, h1, cond_false, ih]
        | false => simp only [cond_false, Tr.setF, h0, h1, ih]

theorem new_put {H : AHeap} {o o' : AObj} {k : Nat} (hk : H.next = k) : (H.new o).put k (some o') = H.new o' := by
  subst hk
  unfold AHeap.put AHeap.new Tr.set
  simp only [setF_setF]

section
variable (bx : List Value) (l m : List UInt8) (b : Int) (vm : Value)

abbrev HH (j : Nat) (c : List UInt8) : AHeap := H2 bx l m 1 (Int.ofNat j) b vm (bv c)
abbrev vO (l : List UInt8) : Value := vL 1307 0 l.length (U + l.length)

theorem HH_put (j : Nat) (c d : List UInt8) : (HH bx l m b vm j c).put 1307 (some (.cells (bv d) 5 ⟨false, false⟩)) = HH bx l m b vm j d := new_put (H := H1 bx l m 1 (Int.ofNat j) b vm) (by kernel_rfl)

/-- Region 12: a bit is turned. -/
theorem to_r12 (j i : Nat) (c : List UInt8) (hc : c.length = l.length) (hq : (j + i) / 8 < l.length) (hji : j + i ≤ 1000000) (z : Nat → Value) :
    Rg T00 K0 to12 (List.range to12.size) (mkE 85 [(2, pB), (5, vO l), (6, i64 (Int.ofNat i)), (56, i64 (Int.ofNat i))] z) (HH bx l m b vm j c) 85 [(2, pB), (5, vO l), (56, i64 (Int.ofNat i))]
      (HH bx l m b vm j (c.modify ((j + i) / 8) fun x => turnB x ((j + i) % 8))) := by
  obtain ⟨x, hx⟩ : ∃ x, c[(j + i) / 8]? = some x := ⟨c[(j + i) / 8]'(by omega), by simp⟩
  have hs : List.range to12.size = [0, 1, 2, 3, 4, 5] ++ ([6] ++ ([7] ++ ([8, 9, 10, 11, 12, 13] ++ ([14, 15] ++ ([16] ++ [17]))))) := by kernel_rfl
  rw [hs]
  have h0 : Rg T00 K0 to12 [0, 1, 2, 3, 4, 5] (mkE 85 [(2, pB), (5, vO l), (6, i64 (Int.ofNat i)), (56, i64 (Int.ofNat i))] z) (HH bx l m b vm j c) 85
      [(2, pB), (5, vO l), (6, i64 (Int.ofNat i)), (56, i64 (Int.ofNat i)), (66, vO l), (71, i64 (IntKind.wrap .i64 ((IntKind.wrap .i64 (Int.ofNat j + Int.ofNat i)).tdiv 8)))] (HH bx l m b vm j c) :=
    Rg.of (by kernel_rfl) ⟨by kernel_rfl, by kernel_rfl, by kernel_rfl, by kernel_rfl, by kernel_rfl, by kernel_rfl, by kernel_rfl, trivial⟩
  rw [quo_eq hji] at h0
  refine h0.append fun z => Rg.append (n := 85) (fs := [(2, pB), (5, vO l), (6, i64 (Int.ofNat i)), (56, i64 (Int.ofNat i)), (66, vO l), (71, i64 (Int.ofNat ((j + i) / 8))), (72, vP 1307 ((j + i) / 8))]) (H1 := HH bx l m b vm j c) ?_ fun z => ?_
  · refine Rg.one (stepA_of (v := vP 1307 ((j + i) / 8)) (o := ⟨some 72, .indexAddr 22 (.tmp 66) (.tmp 71), (operOf to12 6).type, (operOf to12 6).pos, (operOf to12 6).after, none⟩) (by kernel_rfl) rfl (opA_val ?_))
      ⟨by kernel_rfl, by kernel_rfl, by kernel_rfl, by kernel_rfl, by kernel_rfl, by kernel_rfl, by kernel_rfl, by kernel_rfl, trivial⟩
    exact index_at (c := U + l.length) hq
  refine Rg.append (n := 85) (fs := [(2, pB), (5, vO l), (6, i64 (Int.ofNat i)), (56, i64 (Int.ofNat i)), (66, vO l), (71, i64 (Int.ofNat ((j + i) / 8))), (73, u8 x.toNat)]) (H1 := HH bx l m b vm j c) ?_ fun z => ?_
  · refine Rg.one (stepA_of (v := u8 x.toNat) (o := ⟨some 73, .load 5 (.tmp 72), (operOf to12 7).type, (operOf to12 7).pos, (operOf to12 7).after, none⟩) (by kernel_rfl) rfl (opA_load ?_))
      ⟨by kernel_rfl, by kernel_rfl, by kernel_rfl, by kernel_rfl, by kernel_rfl, by kernel_rfl, by kernel_rfl, by kernel_rfl, trivial⟩
    refine load_at (H2_get bx l m 1 (Int.ofNat j) b vm (bv c)).2.1 ?_
    simp [bv, hx, u8]
  have h8 : Rg T00 K0 to12 [8, 9, 10, 11, 12, 13] (mkE 85 [(2, pB), (5, vO l), (6, i64 (Int.ofNat i)), (56, i64 (Int.ofNat i)), (66, vO l), (71, i64 (Int.ofNat ((j + i) / 8))), (73, u8 x.toNat)] z) (HH bx l m b vm j c) 85
      [(2, pB), (5, vO l), (56, i64 (Int.ofNat i)), (66, vO l), (71, i64 (Int.ofNat ((j + i) / 8))), (73, u8 x.toNat), (79, u64 (IntKind.wrap .u64 ((IntKind.wrap .i64 (Int.ofNat j + Int.ofNat i)).tmod 8)))] (HH bx l m b vm j c) :=
    Rg.of (by kernel_rfl) ⟨by kernel_rfl, by kernel_rfl, by kernel_rfl, by kernel_rfl, by kernel_rfl, by kernel_rfl, by kernel_rfl, by kernel_rfl, trivial⟩
  rw [rem_eq hji] at h8
  refine h8.append fun z => ?_
  have h14 : Rg T00 K0 to12 [14, 15] (mkE 85 [(2, pB), (5, vO l), (56, i64 (Int.ofNat i)), (66, vO l), (71, i64 (Int.ofNat ((j + i) / 8))), (73, u8 x.toNat), (79, u64 (Int.ofNat ((j + i) % 8)))] z) (HH bx l m b vm j c) 85
      [(2, pB), (5, vO l), (56, i64 (Int.ofNat i)), (66, vO l), (71, i64 (Int.ofNat ((j + i) / 8))), (81, u8 (xr x.toNat ((128 : Int).fdiv (2 ^ min (Int.ofNat ((j + i) % 8)).toNat 8))))] (HH bx l m b vm j c) :=
    Rg.of (by kernel_rfl) ⟨by kernel_rfl, by kernel_rfl, by kernel_rfl, by kernel_rfl, by kernel_rfl, by kernel_rfl, by kernel_rfl, trivial⟩
  rw [mask_eq (Nat.mod_lt _ (by omega))] at h14
  refine h14.append fun z => Rg.append (n := 85) (fs := [(2, pB), (5, vO l), (56, i64 (Int.ofNat i)), (81, u8 (xr x.toNat ((128 : Int).fdiv (2 ^ ((j + i) % 8))))), (82, vP 1307 ((j + i) / 8))]) (H1 := HH bx l m b vm j c) ?_ fun z => ?_
  · refine Rg.one (stepA_of (v := vP 1307 ((j + i) / 8)) (o := ⟨some 82, .indexAddr 22 (.tmp 66) (.tmp 71), (operOf to12 16).type, (operOf to12 16).pos, (operOf to12 16).after, none⟩) (by kernel_rfl) rfl (opA_val ?_))
      ⟨by kernel_rfl, by kernel_rfl, by kernel_rfl, by kernel_rfl, by kernel_rfl, by kernel_rfl, trivial⟩
    exact index_at (c := U + l.length) hq
  · refine Rg.one (stepA_skip (o := ⟨none, .store 5 (.tmp 82) (.tmp 81), (operOf to12 17).type, (operOf to12 17).pos, (operOf to12 17).after, none⟩) (by kernel_rfl) rfl (opA_store ?_))
      ⟨by kernel_rfl, by kernel_rfl, by kernel_rfl, by kernel_rfl, trivial⟩
    have := store_at (b := 1307) (q := (j + i) / 8) (n := xr x.toNat ((128 : Int).fdiv (2 ^ ((j + i) % 8)))) (H2_get bx l m 1 (Int.ofNat j) b vm (bv c)).2.1 (by rw [bv_length]; omega)
    rw [show Value.int .u8 (xr x.toNat ((128 : Int).fdiv (2 ^ ((j + i) % 8)))) = u8 (xr x.toNat ((128 : Int).fdiv (2 ^ ((j + i) % 8)))) from rfl, bv_modify hx] at this
    rw [HH_put] at this
    exact this

noncomputable def toBody : Code := .seq (.region 9 to9 false) (.seq (.cond (.tmp 57) .skip (.exit 1)) (.seq (.block 2 (.seq (.region 10 to10 false) (.seq (.region 11 to11 false) (.cond (.tmp 65) (.region 12 to12 true) .skip)))) (.region 13 to13 false)))

theorem pl12 : T00.plan 5 12 = some pl5_12 := by kernel_rfl

/-- One round. -/
theorem to_round (j i : Nat) (hi : i < 32) (c : List UInt8) (hc : c.length = l.length) (hq : (j + i) / 8 < l.length) (hji : j + i ≤ 1000000) (z : Nat → Value) :
    EvF T00 K0 5 .plain toBody (mkE 85 [(2, pB), (5, vO l), (56, i64 (Int.ofNat i))] z) (HH bx l m b vm j c) .normal 85 [(2, pB), (5, vO l), (56, i64 (Int.ofNat (i + 1)))] (HH bx l m b vm j (turn b j i c)) := by
  refine EvF.seq (EvF.reg (to_r9 bx l m 1 (Int.ofNat j) b vm (vO l) (bv c) i z)) fun z => ?_
  have hlt : decide (Int.ofNat i < 32) = true := decide_eq_true (by simp only [Int.ofNat_eq_natCast]; omega)
  rw [hlt]
  refine EvF.seq (n := 85) (fs := [(2, pB), (5, vO l), (56, i64 (Int.ofNat i))]) (H1 := HH bx l m b vm j c) (EvF.true (by kernel_rfl) (EvF.same Ev.skip (fs := [(2, pB), (5, vO l), (56, i64 (Int.ofNat i))]) ⟨by kernel_rfl, by kernel_rfl, by kernel_rfl, by kernel_rfl, trivial⟩)) fun z => ?_
  refine EvF.seq (n := 85) (fs := [(2, pB), (5, vO l), (56, i64 (Int.ofNat i))]) (H1 := HH bx l m b vm j (turn b j i c)) (EvF.block' ?_ (fun i h => by cases h)) fun z => ?_
  · refine EvF.seq (EvF.reg (to_r10 bx l m 1 (Int.ofNat j) b vm (vO l) (bv c) i z)) fun z => ?_
    refine EvF.seq (EvF.reg (to_r11 bx l m 1 (Int.ofNat j) b vm (vO l) (bv c) i z)) fun z => ?_
    unfold turn
    cases hb : bitA b i with
    | true =>
      refine EvF.true (by kernel_rfl) (EvF.draw pl12 (by kernel_rfl) (by kernel_rfl) ?_)
      have e : mkE 85 [(2, pB), (5, vO l), (6, i64 (Int.ofNat i)), (56, i64 (Int.ofNat i)), (65, .bool true)] z = mkE 85 [(2, pB), (5, vO l), (6, i64 (Int.ofNat i)), (56, i64 (Int.ofNat i))] (fun k => getZ z k [(65, .bool true)]) := by kernel_rfl
      rw [e]
      exact to_r12 bx l m b vm j i c hc hq hji _
    | false =>
      exact EvF.false (by kernel_rfl) (EvF.same Ev.skip ⟨by kernel_rfl, by kernel_rfl, by kernel_rfl, by kernel_rfl, trivial⟩)
  · have h := to_r13 bx l m 1 (Int.ofNat j) b vm (vO l) (bv (turn b j i c)) i z
    have e : IntKind.wrap .i64 (Int.ofNat i + 1) = Int.ofNat (i + 1) := by
      simp only [Int.ofNat_eq_natCast]
      rw [wrap64_id (by omega) (by omega)]
      omega
    rw [e] at h
    exact EvF.reg h

/-- The loop. -/
theorem to_loop (j : Nat) (hj : j + 32 ≤ 8 * l.length) (hl : l.length ≤ 100000) : ∀ (d i : Nat), i + d = 32 → ∀ z : Nat → Value,
    EvF T00 K0 5 (.loop toBody) toBody (mkE 85 [(2, pB), (5, vO l), (56, i64 (Int.ofNat i))] z) (HH bx l m b vm j (turns b j l i)) (.exit 1) 85 [(2, pB), (5, vO l)] (HH bx l m b vm j (turns b j l 32)) := by
  intro d
  induction d with
  | zero =>
    intro i hi z
    obtain rfl : i = 32 := by omega
    refine EvF.leave ?_ (by intro h; cases h)
    refine EvF.seq (EvF.reg (to_r9 bx l m 1 (Int.ofNat j) b vm (vO l) (bv (turns b j l 32)) 32 z)) fun z => ?_
    exact EvF.out (EvF.false (by kernel_rfl) (EvF.same Ev.exit ⟨by kernel_rfl, by kernel_rfl, by kernel_rfl, trivial⟩)) (by intro h; cases h)
  | succ d ih =>
    intro i hi z
    exact EvF.round (to_round bx l m b vm j i (by omega) (turns b j l i) (turns_length b j l i) (by omega) (by omega) z) fun z => ih (i + 1) (by omega) z
end
end Go.AM.Seat
