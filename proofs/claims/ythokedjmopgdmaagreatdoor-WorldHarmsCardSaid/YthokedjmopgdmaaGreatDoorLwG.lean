/- A part of the proof that WorldHarms answers true at every input: a part of the walk of the law WorldHarms. -/
import Derived.Test.YthokedjmopgdmaaGreatDoorLwF
set_option linter.all false
section
/- WorldHarms: To where there are no bytes; To's memo. -/
set_option maxRecDepth 100000
namespace Go.AM.Seat
open Go.Proofs

abbrev vN0 : Value := .slice none 0 0

section
variable (bx : List Value) (m : List UInt8) (k a b : Int) (vm : Value)

theorem harm_nil : harm k a b [] m = if k = 3 then m else [] := by
  unfold harm
  rw [if_neg (by rintro ⟨_, h, h'⟩; simp at h'; omega)]
  by_cases h3 : k = 3
  · rw [if_pos h3, if_pos h3]; rfl
  · rw [if_neg h3, if_neg h3, if_neg (by rintro ⟨_, h, h'⟩; simp at h'; omega)]

theorem to_sw_e (p1 : Option Addr) (c1 : Nat) (hvm : inS bm vm m) (hm : m.length ≤ 100000) (z : Nat → Value) :
    ∃ v H', EvF T00 K0 5 .plain (.seq (.block 0 toSw) toEnd) (mkE 85 [(1, .slice p1 0 c1), (2, pB), (5, vN0)] z) (H1 bx [] m k a b vm) .ret 85 [(4, v)] H' ∧ OutB bx [] m H' v (harm k a b [] m) := by
  have ho1 := H1_out bx [] m k a b vm
  have stay : OutB bx [] m (H1 bx [] m k a b vm) vN0 [] := outB0 ho1.1 ho1.2.1 ho1.2.2 (H1_get bx [] m k a b vm).2.2 (by decide) (by decide)
  rw [harm_nil]
  by_cases k2 : k = 2
  · subst k2
    rw [if_neg (by decide)]
    have keep := to_keep_e bx [] m 2 a b vm vN0 p1 0 c1 (by decide) (by decide)
    cases a with
    | negSucc j => exact ⟨vN0, H1 bx [] m 2 (Int.negSucc j) b vm, to_done (EvF.seq (EvF.reg (to_r2neg_e bx [] m b vm vN0 p1 0 c1 j z)) fun z => to_nocut keep z), stay⟩
    | ofNat j =>
      refine ⟨vN0, H1 bx [] m 2 (Int.ofNat j) b vm, to_done (EvF.seq (EvF.reg (to_r2pos_e bx [] m b vm vN0 p1 0 c1 j z)) fun z => ?_), stay⟩
      rw [show decide (Int.ofNat j < Int.ofNat 0) = false from decide_eq_false (by simp only [Int.ofNat_eq_natCast]; omega)]
      exact to_nocut keep z
  have nocut := fun z => to_r2no_e bx [] m a b vm vN0 p1 0 c1 z k k2
  by_cases k3 : k = 3
  · subst k3
    rw [if_pos rfl]
    by_cases hm0 : m = []
    · subst hm0
      refine ⟨vN0, H1 bx [] [] 3 a b vm, to_done (EvF.seq (EvF.reg (nocut z)) fun z => to_nocut (fun z => ?_) z), stay⟩
      refine EvF.seq (EvF.reg (to_r4yes_e bx [] [] b vm vN0 p1 0 c1 a z)) fun z => EvF.true (by kernel_rfl) ?_
      refine EvF.re (n := 85) (gs := [(2, pB), (5, vN0)]) (by kernel_rfl) ⟨by kernel_rfl, by kernel_rfl, trivial⟩ fun z => ?_
      exact EvF.seq (EvF.reg (to_r5ez bx [] [] 3 a b vm (hvm.sb ho1.2.2) z)) fun z => EvF.same Ev.ret ⟨by kernel_rfl, by kernel_rfl, trivial⟩
    · have ho2 := H2_out bx [] m 3 a b vm (bv m)
      have hg2 := H2_get bx [] m 3 a b vm (bv m)
      refine ⟨vL 1307 0 m.length (U + m.length), H2 bx [] m 3 a b vm (bv m), to_done (EvF.seq (EvF.reg (nocut z)) fun z => to_nocut (fun z => ?_) z), outB (SB.own hg2.2.1) ho2.1 ho2.2.1 ho2.2.2 hg2.2.2 (by decide) (by decide) (by decide)⟩
      refine EvF.seq (EvF.reg (to_r4yes_e bx [] m b vm vN0 p1 0 c1 a z)) fun z => EvF.true (by kernel_rfl) ?_
      refine EvF.re (n := 85) (gs := [(2, pB), (5, vN0)]) (by kernel_rfl) ⟨by kernel_rfl, by kernel_rfl, trivial⟩ fun z => ?_
      exact EvF.seq (EvF.reg (to_r5en bx [] m 3 a b vm (hvm.sb ho1.2.2) hm0 (by omega) z)) fun z => EvF.same Ev.ret ⟨by kernel_rfl, by kernel_rfl, trivial⟩
  rw [if_neg k3]
  by_cases k1 : k = 1
  · subst k1
    refine ⟨vN0, H1 bx [] m 1 a b vm, to_done (EvF.seq (EvF.reg (nocut z)) fun z => to_nocut (fun z => ?_) z), stay⟩
    refine EvF.seq (EvF.reg (to_r4no_e bx [] m a b vm vN0 p1 0 c1 z 1 (by decide))) fun z => EvF.false (by kernel_rfl) ?_
    refine EvF.re (n := 85) (gs := [(1, .slice p1 0 c1), (2, pB), (5, vN0)]) (by kernel_rfl) ⟨by kernel_rfl, by kernel_rfl, by kernel_rfl, trivial⟩ fun z => ?_
    refine EvF.seq (n := 85) (fs := [(1, .slice p1 0 c1), (2, pB), (5, vN0), (37, .bool true)]) (H1 := H1 bx [] m 1 a b vm) (EvF.reg ?_) fun z => EvF.true (by kernel_rfl) ?_
    · cases a with
      | negSucc j => exact to_r6neg_e bx [] m b vm vN0 p1 0 c1 z j
      | ofNat j =>
        have h := to_r6pos_e bx [] m b vm vN0 p1 0 c1 j z
        have hw : IntKind.wrap .i64 (IntKind.wrap .i64 (8 * Int.ofNat 0) - 32) = -32 := by decide
        rw [hw, show decide ((-32 : Int) < Int.ofNat j) = true from decide_eq_true (by simp only [Int.ofNat_eq_natCast]; omega)] at h
        exact h
    · refine EvF.re (n := 85) (gs := [(5, vN0)]) (by kernel_rfl) ⟨by kernel_rfl, trivial⟩ fun z => ?_
      exact EvF.seq (EvF.reg (to_r7_e bx [] m 1 a b vm vN0 z)) fun z => EvF.same Ev.ret ⟨by kernel_rfl, by kernel_rfl, trivial⟩
  · exact ⟨vN0, H1 bx [] m k a b vm, to_done (EvF.seq (EvF.reg (nocut z)) fun z => to_nocut (to_keep_e bx [] m k a b vm vN0 p1 0 c1 k3 k1) z), stay⟩
end

/-- To. -/
theorem to_memo (bx : List Value) (l m : List UInt8) (k a b : Int) (vm vb : Value) (hvb : inS bb vb l) (hvm : inS bm vm m) (hl : l.length ≤ 1000) (hm : m.length ≤ 1000) :
    ∃ v H', MOk T00 5 ⟨[vH k a b vm, vb], HB N0 bx l m, v, H'⟩ ∧ OutB bx l m H' v (harm k a b l m) := by
  have ho1 := H1_out bx l m k a b vm
  have hsb := hvb.sb ho1.2.1
  obtain ⟨p1, c1, hp⟩ := hsb.len
  have he : Fr ([vH k a b vm, vb].toArray ++ Array.replicate (Tryz.f5.ntmps - [vH k a b vm, vb].length) undef) 85 [(0, vH k a b vm), (1, vb)] := ⟨by kernel_rfl, by kernel_rfl, by kernel_rfl, trivial⟩
  obtain ⟨e1, h1, f1⟩ := EvF.reg (f := 5) (id := 0) (to_r0 bx l m k a b vm vb (fun j => ([vH k a b vm, vb].toArray ++ Array.replicate (Tryz.f5.ntmps - [vH k a b vm, vb].length) undef).getD j undef))
  rw [← he.eq] at h1
  have fin : ∀ {e3 : Env} {v : Value} {H' : AHeap}, Ev T00 K0 5 .plain toCode ([vH k a b vm, vb].toArray ++ Array.replicate (Tryz.f5.ntmps - [vH k a b vm, vb].length) undef) (HB N0 bx l m) (.ret, e3, H') → Fr e3 85 [(4, v)] → MOk T00 5 ⟨[vH k a b vm, vb], HB N0 bx l m, v, H'⟩ := by
    intro e3 v H' h3 f3
    have hr : resA T00 H' e3 Tryz.f5.results.toList = some [v] := by
      show some [e3.getD 4 undef] = _
      rw [f3.sl.1]
    exact MOk.ev T00_good K0_ok (T := T00) (fn := Tryz.f5) (args := [vH k a b vm, vb]) Tryz.func5 to_body to_ok h3 (.inr rfl) hr
  by_cases hl0 : l = []
  · subst hl0
    obtain ⟨e2, h2, f2⟩ := EvF.reg (f := 5) (id := 1) (to_r1e bx [] m k a b vm vb hsb (fun j => e1.getD j undef))
    rw [← f1.eq] at h2
    rw [hp] at f2
    obtain ⟨v, H', ⟨e3, h3, f3⟩, ho⟩ := to_sw_e bx m k a b vm p1 c1 hvm (by omega) (fun j => e2.getD j undef)
    rw [show (0 : Nat) = ([] : List UInt8).length from rfl, ← f2.eq] at h3
    exact ⟨v, H', fin (h1.seq (h2.seq h3)) f3, ho⟩
  · obtain ⟨e2, h2, f2⟩ := EvF.reg (f := 5) (id := 1) (to_r1n bx l m k a b vm vb hsb hl0 (by omega) (fun j => e1.getD j undef))
    rw [← f1.eq] at h2
    rw [hp] at f2
    obtain ⟨v, H', ⟨e3, h3, f3⟩, ho⟩ := to_sw_n bx l m k a b vm p1 c1 hvm hl0 (by omega) (by omega) (fun j => e2.getD j undef)
    rw [← f2.eq] at h3
    exact ⟨v, H', fin (h1.seq (h2.seq h3)) f3, ho⟩
end Go.AM.Seat
end

section
/- WorldHarms: the regions of the document's harm. -/
set_option maxRecDepth 100000
namespace Go.AM.Seat
open Go.Proofs

noncomputable def ha0 : Array Oper := opsOf Tryz.f6 0
noncomputable def ha1 : Array Oper := opsOf Tryz.f6 1
noncomputable def ha2 : Array Oper := opsOf Tryz.f6 2
noncomputable def ha3 : Array Oper := opsOf Tryz.f6 3
noncomputable def ha4 : Array Oper := opsOf Tryz.f6 4
noncomputable def ha5 : Array Oper := opsOf Tryz.f6 5
noncomputable def ha6 : Array Oper := opsOf Tryz.f6 6
noncomputable def ha7 : Array Oper := opsOf Tryz.f6 7
noncomputable def ha8 : Array Oper := opsOf Tryz.f6 8
noncomputable def ha9 : Array Oper := opsOf Tryz.f6 9
noncomputable def ha10 : Array Oper := opsOf Tryz.f6 10
noncomputable def ha11 : Array Oper := opsOf Tryz.f6 11
noncomputable def ha12 : Array Oper := opsOf Tryz.f6 12
noncomputable def ha13 : Array Oper := opsOf Tryz.f6 13
noncomputable def ha14 : Array Oper := opsOf Tryz.f6 14
noncomputable def ha15 : Array Oper := opsOf Tryz.f6 15
noncomputable def ha16 : Array Oper := opsOf Tryz.f6 16
noncomputable def ha17 : Array Oper := opsOf Tryz.f6 17
noncomputable def ha18 : Array Oper := opsOf Tryz.f6 18
noncomputable def ha19 : Array Oper := opsOf Tryz.f6 19
noncomputable def ha20 : Array Oper := opsOf Tryz.f6 20
theorem ha_r0 (H : AHeap) (vb vm : Value) (a b : Int) (k : Int) (z : Nat → Value) : Rg T00 K0 ha0 (List.range ha0.size) (mkE 87 [(0, vb), (1, i64 k), (2, i64 a), (3, u32 b), (4, vm)] z) H 87 [(0, vb), (1, i64 k), (2, i64 a), (3, u32 b), (4, vm)] H :=
  Rg.of (by kernel_rfl) ⟨by kernel_rfl, by kernel_rfl, by kernel_rfl, by kernel_rfl, by kernel_rfl, by kernel_rfl, trivial⟩
theorem ha_r1 (H : AHeap) (vb vm : Value) (a b : Int) (k : Int) (z : Nat → Value) : Rg T00 K0 ha1 (List.range ha1.size) (mkE 87 [(0, vb), (1, i64 k), (2, i64 a), (3, u32 b), (4, vm)] z) H 87 [(0, vb), (1, i64 k), (2, i64 a), (3, u32 b), (4, vm), (11, vN0)] H :=
  Rg.of (by kernel_rfl) ⟨by kernel_rfl, by kernel_rfl, by kernel_rfl, by kernel_rfl, by kernel_rfl, by kernel_rfl, by kernel_rfl, trivial⟩
theorem ha_r2no (H : AHeap) (vm : Value) (b : Int) (p1 : Option Addr) (n c1 : Nat) (a : Int) (z : Nat → Value) : ∀ (k : Int), k ≠ 2 → Rg T00 K0 ha2 (List.range ha2.size) (mkE 87 [(0, .slice p1 n c1), (1, i64 k), (2, i64 a), (3, u32 b), (4, vm), (11, vN0)] z) H 87 [(0, .slice p1 n c1), (1, i64 k), (2, i64 a), (3, u32 b), (4, vm), (11, vN0), (27, .bool false)] H
  | Int.negSucc j, _ => Rg.of (by kernel_rfl) ⟨by kernel_rfl, by kernel_rfl, by kernel_rfl, by kernel_rfl, by kernel_rfl, by kernel_rfl, by kernel_rfl, by kernel_rfl, trivial⟩
  | Int.ofNat 0, _ => Rg.of (by kernel_rfl) ⟨by kernel_rfl, by kernel_rfl, by kernel_rfl, by kernel_rfl, by kernel_rfl, by kernel_rfl, by kernel_rfl, by kernel_rfl, trivial⟩
  | Int.ofNat 1, _ => Rg.of (by kernel_rfl) ⟨by kernel_rfl, by kernel_rfl, by kernel_rfl, by kernel_rfl, by kernel_rfl, by kernel_rfl, by kernel_rfl, by kernel_rfl, trivial⟩
  | Int.ofNat 2, h => absurd rfl h
  | Int.ofNat (j + 3), _ => Rg.of (by kernel_rfl) ⟨by kernel_rfl, by kernel_rfl, by kernel_rfl, by kernel_rfl, by kernel_rfl, by kernel_rfl, by kernel_rfl, by kernel_rfl, trivial⟩
theorem ha_r2neg (H : AHeap) (vm : Value) (b : Int) (p1 : Option Addr) (n c1 : Nat) (j : Nat) (z : Nat → Value) : Rg T00 K0 ha2 (List.range ha2.size) (mkE 87 [(0, .slice p1 n c1), (1, i64 2), (2, i64 (Int.negSucc j)), (3, u32 b), (4, vm), (11, vN0)] z) H 87 [(0, .slice p1 n c1), (1, i64 2), (2, i64 (Int.negSucc j)), (3, u32 b), (4, vm), (11, vN0), (27, .bool false)] H :=
  Rg.of (by kernel_rfl) ⟨by kernel_rfl, by kernel_rfl, by kernel_rfl, by kernel_rfl, by kernel_rfl, by kernel_rfl, by kernel_rfl, by kernel_rfl, trivial⟩
theorem ha_r2pos (H : AHeap) (vm : Value) (b : Int) (p1 : Option Addr) (n c1 : Nat) (j : Nat) (z : Nat → Value) : Rg T00 K0 ha2 (List.range ha2.size) (mkE 87 [(0, .slice p1 n c1), (1, i64 2), (2, i64 (Int.ofNat j)), (3, u32 b), (4, vm), (11, vN0)] z) H 87 [(0, .slice p1 n c1), (1, i64 2), (2, i64 (Int.ofNat j)), (3, u32 b), (4, vm), (11, vN0), (27, .bool (decide (Int.ofNat j < Int.ofNat n)))] H :=
  Rg.of (by kernel_rfl) ⟨by kernel_rfl, by kernel_rfl, by kernel_rfl, by kernel_rfl, by kernel_rfl, by kernel_rfl, by kernel_rfl, by kernel_rfl, trivial⟩
theorem ha_r5no (H : AHeap) (vm : Value) (b : Int) (p1 : Option Addr) (n c1 : Nat) (a : Int) (vo : Value) (z : Nat → Value) : ∀ (k : Int), k ≠ 3 → Rg T00 K0 ha5 (List.range ha5.size) (mkE 87 [(0, .slice p1 n c1), (1, i64 k), (2, i64 a), (3, u32 b), (4, vm), (11, vo)] z) H 87 [(0, .slice p1 n c1), (1, i64 k), (2, i64 a), (3, u32 b), (4, vm), (11, vo), (37, .bool false)] H
  | Int.negSucc j, _ => Rg.of (by kernel_rfl) ⟨by kernel_rfl, by kernel_rfl, by kernel_rfl, by kernel_rfl, by kernel_rfl, by kernel_rfl, by kernel_rfl, by kernel_rfl, trivial⟩
  | Int.ofNat 0, _ => Rg.of (by kernel_rfl) ⟨by kernel_rfl, by kernel_rfl, by kernel_rfl, by kernel_rfl, by kernel_rfl, by kernel_rfl, by kernel_rfl, by kernel_rfl, trivial⟩
  | Int.ofNat 1, _ => Rg.of (by kernel_rfl) ⟨by kernel_rfl, by kernel_rfl, by kernel_rfl, by kernel_rfl, by kernel_rfl, by kernel_rfl, by kernel_rfl, by kernel_rfl, trivial⟩
  | Int.ofNat 2, _ => Rg.of (by kernel_rfl) ⟨by kernel_rfl, by kernel_rfl, by kernel_rfl, by kernel_rfl, by kernel_rfl, by kernel_rfl, by kernel_rfl, by kernel_rfl, trivial⟩
  | Int.ofNat 3, h => absurd rfl h
  | Int.ofNat (j + 4), _ => Rg.of (by kernel_rfl) ⟨by kernel_rfl, by kernel_rfl, by kernel_rfl, by kernel_rfl, by kernel_rfl, by kernel_rfl, by kernel_rfl, by kernel_rfl, trivial⟩
theorem ha_r5yes (H : AHeap) (vm : Value) (b : Int) (p1 : Option Addr) (n c1 : Nat) (a : Int) (vo : Value) (z : Nat → Value) : Rg T00 K0 ha5 (List.range ha5.size) (mkE 87 [(0, .slice p1 n c1), (1, i64 3), (2, i64 a), (3, u32 b), (4, vm), (11, vo)] z) H 87 [(4, vm), (11, vo), (37, .bool true)] H :=
  Rg.of (by kernel_rfl) ⟨by kernel_rfl, by kernel_rfl, by kernel_rfl, by kernel_rfl, trivial⟩
theorem ha_r7no (H : AHeap) (vm : Value) (b : Int) (p1 : Option Addr) (n c1 : Nat) (a : Int) (vo : Value) (z : Nat → Value) : ∀ (k : Int), k ≠ 1 → Rg T00 K0 ha7 (List.range ha7.size) (mkE 87 [(0, .slice p1 n c1), (1, i64 k), (2, i64 a), (3, u32 b), (4, vm), (11, vo)] z) H 87 [(11, vo), (54, .bool false)] H
  | Int.negSucc j, _ => Rg.of (by kernel_rfl) ⟨by kernel_rfl, by kernel_rfl, by kernel_rfl, trivial⟩
  | Int.ofNat 0, _ => Rg.of (by kernel_rfl) ⟨by kernel_rfl, by kernel_rfl, by kernel_rfl, trivial⟩
  | Int.ofNat 1, h => absurd rfl h
  | Int.ofNat (j + 2), _ => Rg.of (by kernel_rfl) ⟨by kernel_rfl, by kernel_rfl, by kernel_rfl, trivial⟩
theorem ha_r7neg (H : AHeap) (vm : Value) (b : Int) (p1 : Option Addr) (n c1 : Nat) (vo : Value) (j : Nat) (z : Nat → Value) : Rg T00 K0 ha7 (List.range ha7.size) (mkE 87 [(0, .slice p1 n c1), (1, i64 1), (2, i64 (Int.negSucc j)), (3, u32 b), (4, vm), (11, vo)] z) H 87 [(11, vo), (54, .bool false)] H :=
  Rg.of (by kernel_rfl) ⟨by kernel_rfl, by kernel_rfl, by kernel_rfl, trivial⟩
theorem ha_r7pos (H : AHeap) (vm : Value) (b : Int) (p1 : Option Addr) (n c1 : Nat) (vo : Value) (j : Nat) (z : Nat → Value) : Rg T00 K0 ha7 (List.range ha7.size) (mkE 87 [(0, .slice p1 n c1), (1, i64 1), (2, i64 (Int.ofNat j)), (3, u32 b), (4, vm), (11, vo)] z) H 87 [(2, i64 (Int.ofNat j)), (3, u32 b), (11, vo), (54, .bool (decide (Int.ofNat j ≤ IntKind.wrap .i64 (IntKind.wrap .i64 (8 * Int.ofNat n) - 32))))] H :=
  Rg.of (by kernel_rfl) ⟨by kernel_rfl, by kernel_rfl, by kernel_rfl, by kernel_rfl, by kernel_rfl, trivial⟩
theorem ha_r8 (H : AHeap) (vo : Value) (x : Int) (j : Nat) (z : Nat → Value) : Rg T00 K0 ha8 (List.range ha8.size) (mkE 87 [(2, i64 (Int.ofNat j)), (3, u32 x), (11, vo)] z) H 87 [(2, i64 (Int.ofNat j)), (3, u32 x), (11, vo), (12, i64 0)] H :=
  Rg.of (by kernel_rfl) ⟨by kernel_rfl, by kernel_rfl, by kernel_rfl, by kernel_rfl, by kernel_rfl, trivial⟩
theorem ha_r9 (H : AHeap) (vo : Value) (x : Int) (j : Nat) (i : Nat) (z : Nat → Value) : Rg T00 K0 ha9 (List.range ha9.size) (mkE 87 [(2, i64 (Int.ofNat j)), (3, u32 x), (11, vo), (12, i64 (Int.ofNat i))] z) H 87 [(2, i64 (Int.ofNat j)), (3, u32 x), (11, vo), (12, i64 (Int.ofNat i)), (56, .bool (decide (Int.ofNat i < 32)))] H :=
  Rg.of (by kernel_rfl) ⟨by kernel_rfl, by kernel_rfl, by kernel_rfl, by kernel_rfl, by kernel_rfl, by kernel_rfl, trivial⟩
theorem ha_r11 (H : AHeap) (vo : Value) (x : Int) (j : Nat) (i : Nat) (z : Nat → Value) : Rg T00 K0 ha11 (List.range ha11.size) (mkE 87 [(2, i64 (Int.ofNat j)), (3, u32 x), (11, vo), (12, i64 (Int.ofNat i))] z) H 87 [(2, i64 (Int.ofNat j)), (3, u32 x), (11, vo), (12, i64 (Int.ofNat i)), (61, .bool (decide (x.tmod 2 = 1)))] H :=
  Rg.of (by kernel_rfl) ⟨by kernel_rfl, by kernel_rfl, by kernel_rfl, by kernel_rfl, by kernel_rfl, by kernel_rfl, trivial⟩
theorem ha_r12 (H : AHeap) (vo : Value) (x : Int) (j : Nat) (i : Nat) (z : Nat → Value) : Rg T00 K0 ha12 (List.range ha12.size) (mkE 87 [(2, i64 (Int.ofNat j)), (3, u32 x), (11, vo), (12, i64 (Int.ofNat i))] z) H 87 [(2, i64 (Int.ofNat j)), (3, u32 x), (11, vo), (12, i64 (Int.ofNat i)), (13, i64 (IntKind.wrap .i64 (Int.ofNat j + Int.ofNat i)))] H :=
  Rg.of (by kernel_rfl) ⟨by kernel_rfl, by kernel_rfl, by kernel_rfl, by kernel_rfl, by kernel_rfl, by kernel_rfl, trivial⟩
theorem ha_r13 (H : AHeap) (vo : Value) (x : Int) (j : Nat) (i q : Nat) (z : Nat → Value) : Rg T00 K0 ha13 (List.range ha13.size) (mkE 87 [(2, i64 (Int.ofNat j)), (3, u32 x), (11, vo), (12, i64 (Int.ofNat i)), (13, i64 (Int.ofNat q))] z) H 87 [(2, i64 (Int.ofNat j)), (3, u32 x), (11, vo), (12, i64 (Int.ofNat i)), (13, i64 (Int.ofNat q)), (14, u8 128)] H :=
  Rg.of (by kernel_rfl) ⟨by kernel_rfl, by kernel_rfl, by kernel_rfl, by kernel_rfl, by kernel_rfl, by kernel_rfl, by kernel_rfl, trivial⟩
theorem ha_r14 (H : AHeap) (vo : Value) (x : Int) (j : Nat) (i q : Nat) (y : Int) (z : Nat → Value) : Rg T00 K0 ha14 (List.range ha14.size) (mkE 87 [(2, i64 (Int.ofNat j)), (3, u32 x), (11, vo), (12, i64 (Int.ofNat i)), (13, i64 (Int.ofNat q)), (14, u8 y)] z) H 87 [(2, i64 (Int.ofNat j)), (3, u32 x), (11, vo), (12, i64 (Int.ofNat i)), (13, i64 (Int.ofNat q)), (14, u8 y), (15, i64 0)] H :=
  Rg.of (by kernel_rfl) ⟨by kernel_rfl, by kernel_rfl, by kernel_rfl, by kernel_rfl, by kernel_rfl, by kernel_rfl, by kernel_rfl, by kernel_rfl, trivial⟩
theorem ha_r15 (H : AHeap) (vo : Value) (x : Int) (j : Nat) (i q : Nat) (y : Int) (t : Nat) (z : Nat → Value) : Rg T00 K0 ha15 (List.range ha15.size) (mkE 87 [(2, i64 (Int.ofNat j)), (3, u32 x), (11, vo), (12, i64 (Int.ofNat i)), (13, i64 (Int.ofNat q)), (14, u8 y), (15, i64 (Int.ofNat t))] z) H 87 [(2, i64 (Int.ofNat j)), (3, u32 x), (11, vo), (12, i64 (Int.ofNat i)), (13, i64 (Int.ofNat q)), (14, u8 y), (15, i64 (Int.ofNat t)), (68, .bool (decide (Int.ofNat t < Int.ofNat (q % 8))))] H :=
  Rg.of (by kernel_rfl) ⟨by kernel_rfl, by kernel_rfl, by kernel_rfl, by kernel_rfl, by kernel_rfl, by kernel_rfl, by kernel_rfl, by kernel_rfl, by kernel_rfl, trivial⟩
theorem ha_r17 (H : AHeap) (vo : Value) (x : Int) (j : Nat) (i q : Nat) (y : Int) (t : Nat) (z : Nat → Value) : Rg T00 K0 ha17 (List.range ha17.size) (mkE 87 [(2, i64 (Int.ofNat j)), (3, u32 x), (11, vo), (12, i64 (Int.ofNat i)), (13, i64 (Int.ofNat q)), (14, u8 y), (15, i64 (Int.ofNat t))] z) H 87 [(2, i64 (Int.ofNat j)), (3, u32 x), (11, vo), (12, i64 (Int.ofNat i)), (13, i64 (Int.ofNat q)), (14, u8 (IntKind.wrap .u8 (y.tdiv 2))), (15, i64 (Int.ofNat t))] H :=
  Rg.of (by kernel_rfl) ⟨by kernel_rfl, by kernel_rfl, by kernel_rfl, by kernel_rfl, by kernel_rfl, by kernel_rfl, by kernel_rfl, by kernel_rfl, trivial⟩
theorem ha_r16 (H : AHeap) (vo : Value) (x : Int) (j : Nat) (i q : Nat) (y : Int) (t : Nat) (z : Nat → Value) : Rg T00 K0 ha16 (List.range ha16.size) (mkE 87 [(2, i64 (Int.ofNat j)), (3, u32 x), (11, vo), (12, i64 (Int.ofNat i)), (13, i64 (Int.ofNat q)), (14, u8 y), (15, i64 (Int.ofNat t))] z) H 87 [(2, i64 (Int.ofNat j)), (3, u32 x), (11, vo), (12, i64 (Int.ofNat i)), (13, i64 (Int.ofNat q)), (14, u8 y), (15, i64 (IntKind.wrap .i64 (Int.ofNat t + 1)))] H :=
  Rg.of (by kernel_rfl) ⟨by kernel_rfl, by kernel_rfl, by kernel_rfl, by kernel_rfl, by kernel_rfl, by kernel_rfl, by kernel_rfl, by kernel_rfl, trivial⟩
theorem ha_r18a (H : AHeap) (vo : Value) (x : Int) (j : Nat) (i q : Nat) (y : Int) (z : Nat → Value) : Rg T00 K0 ha18 [0, 1, 2, 3, 4, 5] (mkE 87 [(2, i64 (Int.ofNat j)), (3, u32 x), (11, vo), (12, i64 (Int.ofNat i)), (13, i64 (Int.ofNat q)), (14, u8 y)] z) H 87 [(2, i64 (Int.ofNat j)), (3, u32 x), (11, vo), (12, i64 (Int.ofNat i)), (14, u8 y), (73, vo), (75, i64 (IntKind.wrap .i64 (Int.ofNat (q / 8)))), (76, vo), (78, i64 (IntKind.wrap .i64 (Int.ofNat (q / 8))))] H :=
  Rg.of (by kernel_rfl) ⟨by kernel_rfl, by kernel_rfl, by kernel_rfl, by kernel_rfl, by kernel_rfl, by kernel_rfl, by kernel_rfl, by kernel_rfl, by kernel_rfl, by kernel_rfl, trivial⟩
theorem ha_r18b (H : AHeap) (vo : Value) (x : Int) (j : Nat) (i : Nat) (y w : Int) (vi : Value) (z : Nat → Value) : Rg T00 K0 ha18 [8, 9] (mkE 87 [(2, i64 (Int.ofNat j)), (3, u32 x), (11, vo), (12, i64 (Int.ofNat i)), (14, u8 y), (73, vo), (75, vi), (80, u8 w)] z) H 87 [(2, i64 (Int.ofNat j)), (3, u32 x), (11, vo), (12, i64 (Int.ofNat i)), (73, vo), (75, vi), (82, u8 (xr w y))] H :=
  Rg.of (by kernel_rfl) ⟨by kernel_rfl, by kernel_rfl, by kernel_rfl, by kernel_rfl, by kernel_rfl, by kernel_rfl, by kernel_rfl, by kernel_rfl, trivial⟩
theorem ha_r19 (H : AHeap) (vo : Value) (x : Int) (j : Nat) (i : Nat) (z : Nat → Value) : Rg T00 K0 ha19 (List.range ha19.size) (mkE 87 [(2, i64 (Int.ofNat j)), (3, u32 x), (11, vo), (12, i64 (Int.ofNat i))] z) H 87 [(2, i64 (Int.ofNat j)), (3, u32 (IntKind.wrap .u32 (x.tdiv 2))), (11, vo), (12, i64 (Int.ofNat i))] H :=
  Rg.of (by kernel_rfl) ⟨by kernel_rfl, by kernel_rfl, by kernel_rfl, by kernel_rfl, by kernel_rfl, trivial⟩
theorem ha_r10 (H : AHeap) (vo : Value) (x : Int) (j : Nat) (i : Nat) (z : Nat → Value) : Rg T00 K0 ha10 (List.range ha10.size) (mkE 87 [(2, i64 (Int.ofNat j)), (3, u32 x), (11, vo), (12, i64 (Int.ofNat i))] z) H 87 [(2, i64 (Int.ofNat j)), (3, u32 x), (11, vo), (12, i64 (IntKind.wrap .i64 (Int.ofNat i + 1)))] H :=
  Rg.of (by kernel_rfl) ⟨by kernel_rfl, by kernel_rfl, by kernel_rfl, by kernel_rfl, by kernel_rfl, trivial⟩
theorem ha_r20 (H : AHeap) (vo : Value) (z : Nat → Value) : Rg T00 K0 ha20 (List.range ha20.size) (mkE 87 [(11, vo)] z) H 87 [(10, vo)] H :=
  Rg.of (by kernel_rfl) ⟨by kernel_rfl, by kernel_rfl, trivial⟩
end Go.AM.Seat
end

