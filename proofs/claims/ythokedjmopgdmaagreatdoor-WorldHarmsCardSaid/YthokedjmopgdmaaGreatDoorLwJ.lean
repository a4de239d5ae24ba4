/- A part of the proof that WorldHarms answers true at every input: a part of the walk of the law WorldHarms. -/
import Derived.Test.YthokedjmopgdmaaGreatDoorLwI
set_option linter.all false
/- WorldHarms: the document's harm, whole. -/
set_option maxRecDepth 100000
namespace Go.AM.Seat
open Go.Proofs

noncomputable def haC : Code := .seq (.seq (.region 15 ha15 false) (.cond (.tmp 68) .skip (.exit 2))) (.seq (.block 3 (.region 17 ha17 false)) (.region 16 ha16 false))
noncomputable def haIf : Code := .seq (.region 12 ha12 false) (.seq (.region 13 ha13 false) (.seq (.seq (.region 14 ha14 false) (.block 2 (.loop haC))) (.region 18 ha18 false)))
noncomputable def haB : Code := .seq (.seq (.region 9 ha9 false) (.cond (.tmp 56) .skip (.exit 0))) (.seq (.block 1 (.seq (.seq (.region 11 ha11 false) (.cond (.tmp 61) haIf .skip)) (.region 19 ha19 false))) (.region 10 ha10 false))
noncomputable def haT : Code := .seq (.region 20 ha20 false) .ret
noncomputable def ha7c : Code := .seq (.seq (.region 7 ha7 false) (.cond (.tmp 54) (.seq (.region 8 ha8 false) (.block 0 (.loop haB))) .skip)) haT
noncomputable def ha5c : Code := .seq (.seq (.region 5 ha5 false) (.cond (.tmp 37) (.seq (.region 6 ha6 false) .ret) .skip)) ha7c
noncomputable def ha4c : Code := .seq (.region 4 ha4 false) ha5c
noncomputable def ha2c : Code := .seq (.seq (.region 2 ha2 false) (.cond (.tmp 27) (.seq (.region 3 ha3 false) .ret) .skip)) ha4c
noncomputable def haCode : Code := .seq (.region 0 ha0 false) (.seq (.region 1 ha1 false) ha2c)
theorem ha_body : Tryz.f6.body = some haCode := by kernel_rfl
theorem ha_ok : codeOk T00 6 haCode = true := by kernel_rfl

section
variable (H : AHeap) (l m : List UInt8)

/-- The mask's loop. -/
theorem ha_mask (vo : Value) (x : Int) (j i q : Nat) : ∀ (d t : Nat), t + d = q % 8 → ∀ z : Nat → Value,
    EvF T00 K0 6 (.loop haC) haC (mkE 87 [(2, i64 (Int.ofNat j)), (3, u32 x), (11, vo), (12, i64 (Int.ofNat i)), (13, i64 (Int.ofNat q)), (14, u8 (mk t)), (15, i64 (Int.ofNat t))] z) H (.exit 2) 87
      [(2, i64 (Int.ofNat j)), (3, u32 x), (11, vo), (12, i64 (Int.ofNat i)), (13, i64 (Int.ofNat q)), (14, u8 (mk (q % 8)))] H := by
  intro d
  induction d with
  | zero =>
    intro t ht z
    obtain rfl : t = q % 8 := by omega
    refine EvF.leave (EvF.out ?_ (by intro h; cases h)) (by intro h; cases h)
    have h := ha_r15 H vo x j i q (mk (q % 8)) (q % 8) z
    rw [show decide (Int.ofNat (q % 8) < Int.ofNat (q % 8)) = false from decide_eq_false (by simp)] at h
    exact EvF.seq (EvF.reg h) fun z => EvF.false (by kernel_rfl) (EvF.same Ev.exit ⟨by kernel_rfl, by kernel_rfl, by kernel_rfl, by kernel_rfl, by kernel_rfl, by kernel_rfl, by kernel_rfl, trivial⟩)
  | succ d ih =>
    intro t ht z
    have h := ha_r15 H vo x j i q (mk t) t z
    rw [show decide (Int.ofNat t < Int.ofNat (q % 8)) = true from decide_eq_true (by simp only [Int.ofNat_eq_natCast]; omega)] at h
    have ht7 : t < 7 := by omega
    refine EvF.round (n := 87) (fs := [(2, i64 (Int.ofNat j)), (3, u32 x), (11, vo), (12, i64 (Int.ofNat i)), (13, i64 (Int.ofNat q)), (14, u8 (mk (t + 1))), (15, i64 (Int.ofNat (t + 1)))]) (H1 := H) ?_ fun z => ih (t + 1) (by omega) z
    refine EvF.seq (n := 87) (fs := [(2, i64 (Int.ofNat j)), (3, u32 x), (11, vo), (12, i64 (Int.ofNat i)), (13, i64 (Int.ofNat q)), (14, u8 (mk t)), (15, i64 (Int.ofNat t))]) (H1 := H)
      (EvF.seq (EvF.reg h) fun z => EvF.true (by kernel_rfl) (EvF.same Ev.skip ⟨by kernel_rfl, by kernel_rfl, by kernel_rfl, by kernel_rfl, by kernel_rfl, by kernel_rfl, by kernel_rfl, by kernel_rfl, trivial⟩)) fun z => ?_
    have h17 := ha_r17 H vo x j i q (mk t) t z
    rw [mk_half t ht7] at h17
    refine EvF.seq (EvF.block' (EvF.reg h17) (fun i h => by cases h)) fun z => ?_
    have h16 := ha_r16 H vo x j i q (mk (t + 1)) t z
    rw [succ_eq (by omega)] at h16
    exact EvF.reg h16

abbrev HN (c : List UInt8) : AHeap := H.new (.cells (bv c) 5 ⟨false, false⟩)
theorem HN_get (c : List UInt8) : (HN H c).get H.next = some (.cells (bv c) 5 ⟨false, false⟩) := by rw [AHeap.get_new, if_pos rfl]
theorem HN_put (c d : List UInt8) : (HN H c).put H.next (some (.cells (bv d) 5 ⟨false, false⟩)) = HN H d := new_put rfl

/-- One round. -/
theorem ha_round (B j i : Nat) (hB : B < 4294967296) (hi : i < 32) (c : List UInt8) (hc : c.length = l.length) (hq : (j + i) / 8 < l.length) (hn : l.length ≤ 100000) (z : Nat → Value) :
    EvF T00 K0 6 .plain haB (mkE 87 [(2, i64 (Int.ofNat j)), (3, u32 (Int.ofNat (B / 2 ^ i))), (11, vB H.next l), (12, i64 (Int.ofNat i))] z) (HN H c) .normal 87
      [(2, i64 (Int.ofNat j)), (3, u32 (Int.ofNat (B / 2 ^ (i + 1)))), (11, vB H.next l), (12, i64 (Int.ofNat (i + 1)))] (HN H (turn (Int.ofNat B) j i c)) := by
  have h9 := ha_r9 (HN H c) (vB H.next l) (Int.ofNat (B / 2 ^ i)) j i z
  rw [show decide (Int.ofNat i < 32) = true from decide_eq_true (by simp only [Int.ofNat_eq_natCast]; omega)] at h9
  refine EvF.seq (n := 87) (fs := [(2, i64 (Int.ofNat j)), (3, u32 (Int.ofNat (B / 2 ^ i))), (11, vB H.next l), (12, i64 (Int.ofNat i))]) (H1 := HN H c)
    (EvF.seq (EvF.reg h9) fun z => EvF.true (by kernel_rfl) (EvF.same Ev.skip ⟨by kernel_rfl, by kernel_rfl, by kernel_rfl, by kernel_rfl, by kernel_rfl, trivial⟩)) fun z => ?_
  refine EvF.seq (n := 87) (fs := [(2, i64 (Int.ofNat j)), (3, u32 (Int.ofNat (B / 2 ^ (i + 1)))), (11, vB H.next l), (12, i64 (Int.ofNat i))]) (H1 := HN H (turn (Int.ofNat B) j i c)) (EvF.block' ?_ (fun i h => by cases h)) fun z => ?_
  · refine EvF.seq (n := 87) (fs := [(2, i64 (Int.ofNat j)), (3, u32 (Int.ofNat (B / 2 ^ i))), (11, vB H.next l), (12, i64 (Int.ofNat i))]) (H1 := HN H (turn (Int.ofNat B) j i c)) ?_ fun z => ?_
    · have h11 := ha_r11 (HN H c) (vB H.next l) (Int.ofNat (B / 2 ^ i)) j i z
      rw [← bitA_eq B i hi] at h11
      refine EvF.seq (EvF.reg h11) fun z => ?_
      unfold turn
      cases hb : bitA (Int.ofNat B) i with
      | false => exact EvF.false (by kernel_rfl) (EvF.same Ev.skip ⟨by kernel_rfl, by kernel_rfl, by kernel_rfl, by kernel_rfl, by kernel_rfl, trivial⟩)
      | true =>
        refine EvF.true (by kernel_rfl) (EvF.re (n := 87) (gs := [(2, i64 (Int.ofNat j)), (3, u32 (Int.ofNat (B / 2 ^ i))), (11, vB H.next l), (12, i64 (Int.ofNat i))]) (by kernel_rfl) ⟨by kernel_rfl, by kernel_rfl, by kernel_rfl, by kernel_rfl, trivial⟩ fun z => ?_)
        have h12 := ha_r12 (HN H c) (vB H.next l) (Int.ofNat (B / 2 ^ i)) j i z
        have hji : IntKind.wrap .i64 (Int.ofNat j + Int.ofNat i) = Int.ofNat (j + i) := by
          simp only [Int.ofNat_eq_natCast]
          rw [wrap64_id (by omega) (by omega)]
          omega
        rw [hji] at h12
        refine EvF.seq (EvF.reg h12) fun z => ?_
        refine EvF.seq (EvF.reg (ha_r13 (HN H c) (vB H.next l) (Int.ofNat (B / 2 ^ i)) j i (j + i) z)) fun z => ?_
        refine EvF.seq (n := 87) (fs := [(2, i64 (Int.ofNat j)), (3, u32 (Int.ofNat (B / 2 ^ i))), (11, vB H.next l), (12, i64 (Int.ofNat i)), (13, i64 (Int.ofNat (j + i))), (14, u8 (mk ((j + i) % 8)))]) (H1 := HN H c) ?_ fun z => ?_
        · refine EvF.seq (EvF.reg (ha_r14 (HN H c) (vB H.next l) (Int.ofNat (B / 2 ^ i)) j i (j + i) 128 z)) fun z => ?_
          exact EvF.block (EvF.loop (ha_mask (HN H c) (vB H.next l) (Int.ofNat (B / 2 ^ i)) j i (j + i) ((j + i) % 8) 0 (by omega) z))
        · have h18 := ha_r18 (HN H c) H.next l (Int.ofNat (B / 2 ^ i)) j i (j + i) c ⟨false, false⟩ (HN_get H c) hc hq (by omega) z
          rw [HN_put] at h18
          exact EvF.reg h18
    · have h19 := ha_r19 (HN H (turn (Int.ofNat B) j i c)) (vB H.next l) (Int.ofNat (B / 2 ^ i)) j i z
      rw [half_eq B i hB] at h19
      exact EvF.reg h19
  · have h10 := ha_r10 (HN H (turn (Int.ofNat B) j i c)) (vB H.next l) (Int.ofNat (B / 2 ^ (i + 1))) j i z
    rw [succ_eq (by omega)] at h10
    exact EvF.reg h10

theorem ha_loop (B j : Nat) (hB : B < 4294967296) (hj : j + 32 ≤ 8 * l.length) (hn : l.length ≤ 100000) : ∀ (d i : Nat), i + d = 32 → ∀ z : Nat → Value,
    EvF T00 K0 6 (.loop haB) haB (mkE 87 [(2, i64 (Int.ofNat j)), (3, u32 (Int.ofNat (B / 2 ^ i))), (11, vB H.next l), (12, i64 (Int.ofNat i))] z) (HN H (turns (Int.ofNat B) j l i)) (.exit 0) 87 [(11, vB H.next l)] (HN H (turns (Int.ofNat B) j l 32)) := by
  intro d
  induction d with
  | zero =>
    intro i hi z
    obtain rfl : i = 32 := by omega
    refine EvF.leave (EvF.out ?_ (by intro h; cases h)) (by intro h; cases h)
    have h9 := ha_r9 (HN H (turns (Int.ofNat B) j l 32)) (vB H.next l) (Int.ofNat (B / 2 ^ 32)) j 32 z
    rw [show decide (Int.ofNat 32 < 32) = false from decide_eq_false (by decide)] at h9
    exact EvF.seq (EvF.reg h9) fun z => EvF.false (by kernel_rfl) (EvF.same Ev.exit ⟨by kernel_rfl, by kernel_rfl, trivial⟩)
  | succ d ih =>
    intro i hi z
    exact EvF.round (ha_round H l B j i hB (by omega) (turns (Int.ofNat B) j l i) (turns_length (Int.ofNat B) j l i) (by omega) hn z) fun z => ih (i + 1) (by omega) z

/-- The end: the bytes as they are. -/
theorem ha_end (vo : Value) (z : Nat → Value) : EvF T00 K0 6 .plain haT (mkE 87 [(11, vo)] z) H .ret 87 [(10, vo)] H :=
  EvF.seq (EvF.reg (ha_r20 H vo z)) fun z => EvF.same Ev.ret ⟨by kernel_rfl, by kernel_rfl, trivial⟩

/-- From region 7 on, no turn. -/
theorem ha_noturn {k a b : Int} {p1 : Option Addr} {n c1 : Nat} {vo vm : Value} {z : Nat → Value} (h : Rg T00 K0 ha7 (List.range ha7.size) (mkE 87 [(0, .slice p1 n c1), (1, i64 k), (2, i64 a), (3, u32 b), (4, vm), (11, vo)] z) H 87 [(11, vo), (54, .bool false)] H) :
    EvF T00 K0 6 .plain ha7c (mkE 87 [(0, .slice p1 n c1), (1, i64 k), (2, i64 a), (3, u32 b), (4, vm), (11, vo)] z) H .ret 87 [(10, vo)] H := by
  refine EvF.seq (n := 87) (fs := [(11, vo)]) (H1 := H) (EvF.seq (EvF.reg h) fun z => EvF.false (by kernel_rfl) (EvF.same Ev.skip ⟨by kernel_rfl, by kernel_rfl, trivial⟩)) fun z => ha_end H vo z

theorem ha_notail {k a b : Int} {p1 : Option Addr} {n c1 : Nat} {vo vm : Value} {ax : AX} {gs : List (Nat × Value)} {H' : AHeap} (h3 : k ≠ 3)
    (h : ∀ z, EvF T00 K0 6 .plain ha7c (mkE 87 [(0, .slice p1 n c1), (1, i64 k), (2, i64 a), (3, u32 b), (4, vm), (11, vo)] z) H ax 87 gs H') (z : Nat → Value) :
    EvF T00 K0 6 .plain ha5c (mkE 87 [(0, .slice p1 n c1), (1, i64 k), (2, i64 a), (3, u32 b), (4, vm), (11, vo)] z) H ax 87 gs H' := by
  refine EvF.seq (n := 87) (fs := [(0, .slice p1 n c1), (1, i64 k), (2, i64 a), (3, u32 b), (4, vm), (11, vo)]) (H1 := H) (EvF.seq (EvF.reg (ha_r5no H vm b p1 n c1 a vo z k h3)) fun z => EvF.false (by kernel_rfl) (EvF.same Ev.skip
    ⟨by kernel_rfl, by kernel_rfl, by kernel_rfl, by kernel_rfl, by kernel_rfl, by kernel_rfl, by kernel_rfl, trivial⟩)) h

theorem ha_tail {a b : Int} {p1 : Option Addr} {n c1 : Nat} {vo vm v : Value} {H' : AHeap} (h : appendA T00 H 22 22 vo vm = some (v, H')) (z : Nat → Value) :
    EvF T00 K0 6 .plain ha5c (mkE 87 [(0, .slice p1 n c1), (1, i64 3), (2, i64 a), (3, u32 b), (4, vm), (11, vo)] z) H .ret 87 [(10, v)] H' := by
  refine EvF.out (EvF.seq (EvF.reg (ha_r5yes H vm b p1 n c1 a vo z)) fun z => EvF.true (by kernel_rfl) ?_) (by intro h; cases h)
  refine EvF.re (n := 87) (gs := [(4, vm), (11, vo)]) (by kernel_rfl) ⟨by kernel_rfl, by kernel_rfl, trivial⟩ fun z => ?_
  exact EvF.seq (EvF.reg (ha_r6 H vo vm v H' h z)) fun z => EvF.same Ev.ret ⟨by kernel_rfl, by kernel_rfl, trivial⟩

/-- Behind region 2: no cut. -/
theorem ha_nocut {k a b : Int} {p1 : Option Addr} {n c1 : Nat} {vm : Value} {ax : AX} {gs : List (Nat × Value)} {H' : AHeap}
    (h2 : ∀ z, Rg T00 K0 ha2 (List.range ha2.size) (mkE 87 [(0, .slice p1 n c1), (1, i64 k), (2, i64 a), (3, u32 b), (4, vm), (11, vN0)] z) H 87 [(0, .slice p1 n c1), (1, i64 k), (2, i64 a), (3, u32 b), (4, vm), (11, vN0), (27, .bool false)] H)
    (h : ∀ z, EvF T00 K0 6 .plain ha4c (mkE 87 [(0, .slice p1 n c1), (1, i64 k), (2, i64 a), (3, u32 b), (4, vm), (11, vN0)] z) H ax 87 gs H') (z : Nat → Value) :
    EvF T00 K0 6 .plain ha2c (mkE 87 [(0, .slice p1 n c1), (1, i64 k), (2, i64 a), (3, u32 b), (4, vm), (11, vN0)] z) H ax 87 gs H' := by
  refine EvF.seq (n := 87) (fs := [(0, .slice p1 n c1), (1, i64 k), (2, i64 a), (3, u32 b), (4, vm), (11, vN0)]) (H1 := H) (EvF.seq (EvF.reg (h2 z)) fun z => EvF.false (by kernel_rfl) (EvF.same Ev.skip
    ⟨by kernel_rfl, by kernel_rfl, by kernel_rfl, by kernel_rfl, by kernel_rfl, by kernel_rfl, by kernel_rfl, trivial⟩)) h
end

/-- What the document's harm leaves of a heap. -/
structure OutH (H H' : AHeap) (v : Value) (r : List UInt8) : Prop where
  sb : SB H' v r
  keep : ∀ nm, nm ≠ H.next → nm ≠ H.next + 1 → H'.get nm = H.get nm
  nx : H'.next ≤ H.next + 2

theorem nxN (H : AHeap) (o : AObj) : (H.new o).next ≤ H.next + 2 := by rw [AHeap.next_new]; omega
theorem nxM (H : AHeap) (o o' : AObj) : (((H.new o).put H.next none).new o').next ≤ H.next + 2 := by rw [AHeap.next_new, AHeap.next_put, AHeap.next_new]; omega

theorem keepN (H : AHeap) (o : AObj) (nm : Nat) (h : nm ≠ H.next) : (H.new o).get nm = H.get nm := by rw [AHeap.get_new, if_neg h]
theorem keepM (H : AHeap) (o o' : AObj) (nm : Nat) (h : nm ≠ H.next) (h' : nm ≠ H.next + 1) : (((H.new o).put H.next none).new o').get nm = H.get nm := by
  rw [AHeap.get_new, AHeap.next_put, AHeap.next_new, if_neg h', AHeap.get_put, if_neg h, keepN H o nm h]

/-- The code behind region 1. -/
theorem ha_ev (H : AHeap) (X : Nat) (st : Fl) (l m : List UInt8) (k a : Int) (B : Nat) (hB : B < 4294967296) (vm : Value) (hX : H.get X = some (.cells (bv l) 5 st)) (hvm : SB H vm m)
    (hvm2 : SB (HN H l) vm m) (hl : l.length ≤ 1000) (hm : m.length ≤ 1000) (z : Nat → Value) :
    ∃ v H', EvF T00 K0 6 .plain ha2c (mkE 87 [(0, vB X l), (1, i64 k), (2, i64 a), (3, u32 (Int.ofNat B)), (4, vm), (11, vN0)] z) H .ret 87 [(10, v)] H' ∧ OutH H H' v (harm k a (Int.ofNat B) l m) := by
  have hsb : SB H (vB X l) l := SB.own hX
  have hX' : ∀ z, Rg T00 K0 ha2 (List.range ha2.size) (mkE 87 [(0, vB X l), (1, i64 k), (2, i64 a), (3, u32 (Int.ofNat B)), (4, vm), (11, vN0)] z) H 87 [(0, vB X l), (1, i64 k), (2, i64 a), (3, u32 (Int.ofNat B)), (4, vm), (11, vN0), (27, .bool (decide (k = 2 ∧ 0 ≤ a ∧ a < l.length)))] H := by
    intro z
    by_cases k2 : k = 2
    · subst k2
      cases a with
      | negSucc j =>
        rw [show decide ((2 : Int) = 2 ∧ 0 ≤ Int.negSucc j ∧ Int.negSucc j < l.length) = false from decide_eq_false (by rintro ⟨_, h, _⟩; exact absurd h (by simp))]
        exact ha_r2neg H vm (Int.ofNat B) (some ⟨X, 0, none⟩) l.length (U + l.length) j z
      | ofNat j =>
        have h := ha_r2pos H vm (Int.ofNat B) (some ⟨X, 0, none⟩) l.length (U + l.length) j z
        have e : decide (Int.ofNat j < Int.ofNat l.length) = decide ((2 : Int) = 2 ∧ 0 ≤ Int.ofNat j ∧ Int.ofNat j < l.length) := by
          apply decide_eq_decide.2
          simp only [Int.ofNat_eq_natCast]
          constructor
          · intro h; exact ⟨trivial, by omega, h⟩
          · intro h; exact h.2.2
        rw [e] at h
        exact h
    · rw [show decide (k = 2 ∧ 0 ≤ a ∧ a < l.length) = false from decide_eq_false (fun h => k2 h.1)]
      exact ha_r2no H vm (Int.ofNat B) (some ⟨X, 0, none⟩) l.length (U + l.length) a z k k2
  by_cases hcut : k = 2 ∧ 0 ≤ a ∧ a < l.length
  · rw [show decide (k = 2 ∧ 0 ≤ a ∧ a < l.length) = true from decide_eq_true hcut] at hX'
    obtain ⟨j, rfl⟩ : ∃ j : Nat, a = Int.ofNat j := ⟨a.toNat, by have := hcut.2.1; simp only [Int.ofNat_eq_natCast]; omega⟩
    have hj : j < l.length := by have := hcut.2.2; simp only [Int.ofNat_eq_natCast] at this; omega
    have e : harm k (Int.ofNat j) (Int.ofNat B) l m = l.take j := by unfold harm; rw [if_pos hcut]; simp
    rw [e]
    obtain ⟨e1, h1, f1⟩ := EvF.reg (f := 6) (id := 2) (hX' z)
    obtain ⟨v, H', h3, hs, hh⟩ := ha_r3 H X l st hX j hj (by omega) (fun i => e1.getD i undef)
    refine ⟨v, H', ?_, hs, ?_, ?_⟩
    · have key : EvF T00 K0 6 .plain (.cond (.tmp 27) (.seq (.region 3 ha3 false) .ret) .skip) e1 H .ret 87 [(10, v)] H' := by
        refine EvF.true (show e1.getD 27 undef = .bool true from f1.sl.2.2.2.2.2.2.1) ?_
        have he : e1 = mkE 87 [(0, vB X l), (2, i64 (Int.ofNat j)), (11, vN0)] (fun i => e1.getD i undef) := (Fr.mk (fs := [(0, vB X l), (2, i64 (Int.ofNat j)), (11, vN0)]) f1.size ⟨f1.sl.1, f1.sl.2.2.1, f1.sl.2.2.2.2.2.1, trivial⟩).eq
        rw [he]
        exact EvF.seq (EvF.reg h3) fun z => EvF.same Ev.ret ⟨by kernel_rfl, by kernel_rfl, trivial⟩
      obtain ⟨e2, h2, f2⟩ := key
      exact EvF.out ⟨e2, h1.seq h2, f2⟩ (by intro h; cases h)
    · intro nm n1 n2
      rcases hh with rfl | rfl
      · rfl
      · exact keepN H _ nm n1
    · rcases hh with rfl | rfl
      · exact Nat.le_add_right _ _
      · exact nxN H _
  rw [show decide (k = 2 ∧ 0 ≤ a ∧ a < l.length) = false from decide_eq_false hcut] at hX'
  have hcutE : harm k a (Int.ofNat B) l m = if k = 3 then l ++ m else if k = 1 ∧ 0 ≤ a ∧ a ≤ 8 * l.length - 32 then turns (Int.ofNat B) a.toNat l 32 else l := by
    unfold harm; rw [if_neg hcut]
  -- what is there behind region 4: nothing, or a copy
  by_cases hl0 : l = []
  · subst hl0
    have h4 := fun z => ha_r4e H k a (Int.ofNat B) (vB X []) vm hsb z
    have hnot : ¬ (k = 1 ∧ 0 ≤ a ∧ a ≤ 8 * (([] : List UInt8).length : Int) - 32) := by
      rintro ⟨_, h, h'⟩
      simp at h'
      omega
    by_cases k3 : k = 3
    · subst k3
      rw [hcutE, if_pos rfl, List.nil_append]
      by_cases hm0 : m = []
      · subst hm0
        exact ⟨vN0, H, ha_nocut H hX' (fun z => EvF.seq (EvF.reg (h4 z)) fun z => ha_tail H (app_nil0 hvm) z) z, .inl ⟨rfl, rfl⟩, fun _ _ _ => rfl, Nat.le_add_right _ _⟩
      · refine ⟨vB H.next m, HN H m, ha_nocut H hX' (fun z => EvF.seq (EvF.reg (h4 z)) fun z => ha_tail H (app_nil hvm hm0 (by omega)) z) z, SB.own (HN_get H m), fun nm n1 n2 => keepN H _ nm n1, nxN H _⟩
    · rw [hcutE, if_neg k3, if_neg hnot]
      refine ⟨vN0, H, ha_nocut H hX' (fun z => EvF.seq (EvF.reg (h4 z)) fun z => ha_notail H k3 (fun z => ha_noturn H ?_) z) z, .inl ⟨rfl, rfl⟩, fun _ _ _ => rfl, Nat.le_add_right _ _⟩
      by_cases k1 : k = 1
      · subst k1
        cases a with
        | negSucc j => exact ha_r7neg H vm (Int.ofNat B) (some ⟨X, 0, none⟩) 0 (U + 0) vN0 j z
        | ofNat j =>
          obtain ⟨e', h7, f7⟩ := ha_r7pos H vm (Int.ofNat B) (some ⟨X, 0, none⟩) 0 (U + 0) vN0 j z
          have hw : IntKind.wrap .i64 (IntKind.wrap .i64 (8 * Int.ofNat 0) - 32) = -32 := by decide
          rw [hw, show decide (Int.ofNat j ≤ (-32 : Int)) = false from decide_eq_false (by simp only [Int.ofNat_eq_natCast]; omega)] at f7
          exact ⟨e', h7, f7.size, f7.sl.2.2.1, f7.sl.2.2.2.1, trivial⟩
      · exact ha_r7no H vm (Int.ofNat B) (some ⟨X, 0, none⟩) 0 (U + 0) a vN0 z k k1
  · have h4 := fun z => ha_r4n H l k a (Int.ofNat B) (vB X l) vm hsb hl0 (by omega) z
    have hg := HN_get H l
    by_cases k3 : k = 3
    · subst k3
      rw [hcutE, if_pos rfl]
      by_cases hm0 : m = []
      · subst hm0
        rw [List.append_nil]
        exact ⟨vB H.next l, HN H l, ha_nocut H hX' (fun z => EvF.seq (EvF.reg (h4 z)) fun z => ha_tail (HN H l) (app_own0 hvm2) z) z, SB.own hg, fun nm n1 n2 => keepN H _ nm n1, nxN H _⟩
      · refine ⟨_, _, ha_nocut H hX' (fun z => EvF.seq (EvF.reg (h4 z)) fun z => ha_tail (HN H l) (app_own hvm2 hm0 hg hl0 (by omega)) z) z, ?_, fun nm n1 n2 => keepM H _ _ nm n1 n2, nxM H _ _⟩
        have := SB.own (H := ((HN H l).put H.next none).new (.cells (bv (l ++ m)) 5 ⟨false, false⟩)) (nm := (HN H l).next) (c := U + (l.length + m.length)) (l := l ++ m) (e := 5) (st := ⟨false, false⟩) (by rw [AHeap.get_new]; exact if_pos rfl)
        rw [List.length_append] at this
        exact this
    · by_cases hturn : k = 1 ∧ 0 ≤ a ∧ a ≤ 8 * l.length - 32
      · rw [hcutE, if_neg k3, if_pos hturn]
        obtain ⟨rfl, ha0, ha1⟩ := hturn
        obtain ⟨j, rfl⟩ : ∃ j : Nat, a = Int.ofNat j := ⟨a.toNat, by simp only [Int.ofNat_eq_natCast]; omega⟩
        have hj : j + 32 ≤ 8 * l.length := by simp only [Int.ofNat_eq_natCast] at ha1; omega
        rw [show (Int.ofNat j).toNat = j from rfl]
        refine ⟨vB H.next l, HN H (turns (Int.ofNat B) j l 32), ha_nocut H hX' (fun z => EvF.seq (EvF.reg (h4 z)) fun z => ha_notail (HN H l) k3 (fun z => ?_) z) z, ?_, fun nm n1 n2 => keepN H _ nm n1, nxN H _⟩
        · have h7 := ha_r7pos (HN H l) vm (Int.ofNat B) (some ⟨X, 0, none⟩) l.length (U + l.length) (vB H.next l) j z
          have hw : IntKind.wrap .i64 (IntKind.wrap .i64 (8 * Int.ofNat l.length) - 32) = 8 * (l.length : Int) - 32 := by
            simp only [Int.ofNat_eq_natCast]
            rw [wrap64_id (n := 8 * (l.length : Int)) (by omega) (by omega), wrap64_id (by omega) (by omega)]
          rw [hw, show decide (Int.ofNat j ≤ 8 * (l.length : Int) - 32) = true from decide_eq_true (by simp only [Int.ofNat_eq_natCast]; omega)] at h7
          refine EvF.seq (n := 87) (fs := [(11, vB H.next l)]) (H1 := HN H (turns (Int.ofNat B) j l 32)) (EvF.seq (EvF.reg h7) fun z => EvF.true (by kernel_rfl) ?_) fun z => ha_end _ _ z
          refine EvF.re (n := 87) (gs := [(2, i64 (Int.ofNat j)), (3, u32 (Int.ofNat B)), (11, vB H.next l)]) (by kernel_rfl) ⟨by kernel_rfl, by kernel_rfl, by kernel_rfl, trivial⟩ fun z => ?_
          refine EvF.seq (EvF.reg (ha_r8 (HN H l) (vB H.next l) (Int.ofNat B) j z)) fun z => ?_
          have hL := ha_loop H l B j hB hj (by omega) 32 0 rfl z
          rw [show B / 2 ^ 0 = B by simp] at hL
          exact EvF.block (EvF.loop hL)
        · have := SB.own (c := U + l.length) (HN_get H (turns (Int.ofNat B) j l 32))
          rw [turns_length] at this
          exact this
      · rw [hcutE, if_neg k3, if_neg hturn]
        refine ⟨vB H.next l, HN H l, ha_nocut H hX' (fun z => EvF.seq (EvF.reg (h4 z)) fun z => ha_notail (HN H l) k3 (fun z => ha_noturn (HN H l) ?_) z) z, SB.own hg, fun nm n1 n2 => keepN H _ nm n1, nxN H _⟩
        by_cases k1 : k = 1
        · subst k1
          cases a with
          | negSucc j => exact ha_r7neg (HN H l) vm (Int.ofNat B) (some ⟨X, 0, none⟩) l.length (U + l.length) (vB H.next l) j z
          | ofNat j =>
            obtain ⟨e', h7, f7⟩ := ha_r7pos (HN H l) vm (Int.ofNat B) (some ⟨X, 0, none⟩) l.length (U + l.length) (vB H.next l) j z
            have hw : IntKind.wrap .i64 (IntKind.wrap .i64 (8 * Int.ofNat l.length) - 32) = 8 * (l.length : Int) - 32 := by
              simp only [Int.ofNat_eq_natCast]
              rw [wrap64_id (n := 8 * (l.length : Int)) (by omega) (by omega), wrap64_id (by omega) (by omega)]
            rw [hw, show decide (Int.ofNat j ≤ 8 * (l.length : Int) - 32) = false from decide_eq_false (fun h => hturn ⟨rfl, by simp, h⟩)] at f7
            exact ⟨e', h7, f7.size, f7.sl.2.2.1, f7.sl.2.2.2.1, trivial⟩
        · exact ha_r7no (HN H l) vm (Int.ofNat B) (some ⟨X, 0, none⟩) l.length (U + l.length) a (vB H.next l) z k k1

/-- The document's harm. -/
theorem ha_memo (H : AHeap) (X : Nat) (st : Fl) (l m : List UInt8) (k a : Int) (B : Nat) (hB : B < 4294967296) (vm : Value) (hX : H.get X = some (.cells (bv l) 5 st)) (hvm : SB H vm m)
    (hvm2 : SB (HN H l) vm m) (hl : l.length ≤ 1000) (hm : m.length ≤ 1000) :
    ∃ v H', MOk T00 6 ⟨[vB X l, i64 k, i64 a, u32 (Int.ofNat B), vm], H, v, H'⟩ ∧ OutH H H' v (harm k a (Int.ofNat B) l m) := by
  have he : Fr ([vB X l, i64 k, i64 a, u32 (Int.ofNat B), vm].toArray ++ Array.replicate (Tryz.f6.ntmps - [vB X l, i64 k, i64 a, u32 (Int.ofNat B), vm].length) undef) 87 [(0, vB X l), (1, i64 k), (2, i64 a), (3, u32 (Int.ofNat B)), (4, vm)] :=
    ⟨by kernel_rfl, by kernel_rfl, by kernel_rfl, by kernel_rfl, by kernel_rfl, by kernel_rfl, trivial⟩
  obtain ⟨e1, h1, f1⟩ := EvF.reg (f := 6) (id := 0) (ha_r0 H (vB X l) vm a (Int.ofNat B) k (fun j => ([vB X l, i64 k, i64 a, u32 (Int.ofNat B), vm].toArray ++ Array.replicate (Tryz.f6.ntmps - [vB X l, i64 k, i64 a, u32 (Int.ofNat B), vm].length) undef).getD j undef))
  rw [← he.eq] at h1
  obtain ⟨e2, h2, f2⟩ := EvF.reg (f := 6) (id := 1) (ha_r1 H (vB X l) vm a (Int.ofNat B) k (fun j => e1.getD j undef))
  rw [← f1.eq] at h2
  obtain ⟨v, H', ⟨e3, h3, f3⟩, ho⟩ := ha_ev H X st l m k a B hB vm hX hvm hvm2 hl hm (fun j => e2.getD j undef)
  rw [← f2.eq] at h3
  have hr : resA T00 H' e3 Tryz.f6.results.toList = some [v] := by
    show some [e3.getD 10 undef] = _
    rw [f3.sl.1]
  exact ⟨v, H', MOk.ev T00_good K0_ok (T := T00) (fn := Tryz.f6) (args := [vB X l, i64 k, i64 a, u32 (Int.ofNat B), vm]) Tryz.func6 ha_body ha_ok (h1.seq (h2.seq h3)) (.inr rfl) hr, ho⟩
end Go.AM.Seat
