/- A part of the proof that WorldHarms answers true at every input: a part of the walk of the law WorldHarms. -/
import Derived.Test.YthokedjmopgdmaaGreatDoorLwE
set_option linter.all false
/- WorldHarms: To, whole. -/
set_option maxRecDepth 100000
namespace Go.AM.Seat
open Go.Proofs

theorem EvF.re {T : Tab} {K : Kall} {f : FuncId} {m : Md} {c : Code} {e : Env} {H H' : AHeap} {ax : AX} {n k : Nat} {gs ks : List (Nat × Value)} (hs : e.size = n) (h : Sl e gs) (h' : ∀ z, EvF T K f m c (mkE n gs z) H ax k ks H') : EvF T K f m c e H ax k ks H' := by
  rw [(Fr.mk hs h).eq]; exact h' _

noncomputable def toSw6 : Code := .seq (.region 6 to6 false) (.cond (.tmp 37) (.seq (.region 7 to7 false) .ret) .skip)
noncomputable def toSw4 : Code := .seq (.region 4 to4 false) (.cond (.tmp 29) (.seq (.region 5 to5 false) .ret) toSw6)
noncomputable def toSw : Code := .seq (.region 2 to2 false) (.cond (.tmp 9) (.seq (.region 3 to3 false) .ret) toSw4)
noncomputable def toEnd : Code := .seq (.seq (.region 8 to8 false) (.block 1 (.loop toBody))) (.seq (.region 14 to14 false) .ret)
noncomputable def toCode : Code := .seq (.region 0 to0 false) (.seq (.region 1 to1 false) (.seq (.block 0 toSw) toEnd))
theorem to_body : Tryz.f5.body = some toCode := by kernel_rfl
theorem to_ok : codeOk T00 5 toCode = true := by kernel_rfl

/-- A slice that came in. -/
def inS (nm : Nat) (v : Value) (l : List UInt8) : Prop := (v = .slice none 0 0 ∧ l = []) ∨ v = vL nm 0 l.length (U + l.length)

theorem inS.sb {nm : Nat} {v : Value} {l : List UInt8} {H : AHeap} (h : inS nm v l) (hg : H.get nm = oRo l) : SB H v l := by
  rcases h with h | rfl
  · exact .inl h
  · refine .inr ⟨nm, 0, _, rfl, fun hl => ?_⟩
    rw [oRo_some hl] at hg
    unfold ldN
    rw [hg]
    simp only [Nat.zero_add, bv_length, ble_true (Nat.le_refl _), cond_true, List.drop_zero]
    rw [List.take_of_length_le (by rw [bv_length]; exact Nat.le_refl _)]

theorem SB.own {H : AHeap} {nm c : Nat} {l : List UInt8} {e : TypeId} {st : Fl} (hg : H.get nm = some (.cells (bv l) e st)) : SB H (vL nm 0 l.length c) l := by
  refine .inr ⟨nm, 0, c, rfl, fun _ => ?_⟩
  unfold ldN
  rw [hg]
  simp only [Nat.zero_add, bv_length, ble_true (Nat.le_refl _), cond_true, List.drop_zero]
  rw [List.take_of_length_le (by rw [bv_length]; exact Nat.le_refl _)]

theorem SB.part {H : AHeap} {nm c j : Nat} {l : List UInt8} {e : TypeId} {st : Fl} (hg : H.get nm = some (.cells (bv l) e st)) (hj : j ≤ l.length) : SB H (vL nm 0 j c) (l.take j) := by
  refine .inr ⟨nm, 0, c, by rw [List.length_take, Nat.min_eq_left hj], fun _ => ?_⟩
  unfold ldN
  rw [hg, List.length_take, Nat.min_eq_left hj]
  simp only [Nat.zero_add, bv_length, ble_true hj, cond_true, List.drop_zero]
  simp [bv]

/-- What a call leaves: the bytes that it hands back, and what was there. -/
structure OutB (bx : List Value) (l m : List UInt8) (H' : AHeap) (v : Value) (r : List UInt8) : Prop where
  sb : SB H' v r
  box : H'.get 1 = some (.cells bx 25 ⟨false, true⟩)
  gb : H'.get bb = oRo l
  gm : H'.get bm = oRo m
  nx : 1307 ≤ H'.next ∧ H'.next ≤ 1309
  low : ∀ b o n c, v = vL b o n c → b < H'.next
  root : H'.get 0 = some oRoot

theorem outB {bx : List Value} {l m r : List UInt8} {H' : AHeap} {nb j c N : Nat} (sb : SB H' (vL nb 0 j c) r) (box : H'.get 1 = some (.cells bx 25 ⟨false, true⟩)) (gb : H'.get bb = oRo l) (gm : H'.get bm = oRo m)
    (hn : H'.next = N) (h1 : 1307 ≤ N) (h2 : N ≤ 1309) (hb : nb < N) (hr : H'.get 0 = some oRoot := by kernel_rfl) : OutB bx l m H' (vL nb 0 j c) r :=
  ⟨sb, box, gb, gm, by rw [hn]; exact ⟨h1, h2⟩, fun b o n c h => by cases h; rw [hn]; exact hb, hr⟩

theorem outB0 {bx : List Value} {l m : List UInt8} {H' : AHeap} {N : Nat} (box : H'.get 1 = some (.cells bx 25 ⟨false, true⟩)) (gb : H'.get bb = oRo l) (gm : H'.get bm = oRo m)
    (hn : H'.next = N) (h1 : 1307 ≤ N) (h2 : N ≤ 1309) (hr : H'.get 0 = some oRoot := by kernel_rfl) : OutB bx l m H' (.slice none 0 0) [] :=
  ⟨.inl ⟨rfl, rfl⟩, box, gb, gm, by rw [hn]; exact ⟨h1, h2⟩, fun b o n c h => (by cases h), hr⟩

section
variable (bx : List Value) (l m : List UInt8) (k a b : Int) (vm : Value)

theorem H1_out : (H1 bx l m k a b vm).get 1 = some (.cells bx 25 ⟨false, true⟩) ∧ (H1 bx l m k a b vm).get bb = oRo l ∧ (H1 bx l m k a b vm).get bm = oRo m := ⟨by kernel_rfl, by kernel_rfl, by kernel_rfl⟩
theorem H2_out (c : List Value) : (H2 bx l m k a b vm c).get 1 = some (.cells bx 25 ⟨false, true⟩) ∧ (H2 bx l m k a b vm c).get bb = oRo l ∧ (H2 bx l m k a b vm c).get bm = oRo m := ⟨by kernel_rfl, by kernel_rfl, by kernel_rfl⟩
theorem H3_out (c d : List Value) : (((H2 bx l m k a b vm c).put 1307 none).new (.cells d 5 ⟨false, false⟩)).get 1 = some (.cells bx 25 ⟨false, true⟩) ∧ (((H2 bx l m k a b vm c).put 1307 none).new (.cells d 5 ⟨false, false⟩)).get bb = oRo l ∧
    (((H2 bx l m k a b vm c).put 1307 none).new (.cells d 5 ⟨false, false⟩)).get bm = oRo m ∧ (((H2 bx l m k a b vm c).put 1307 none).new (.cells d 5 ⟨false, false⟩)).get 1308 = some (.cells d 5 ⟨false, false⟩) ∧ (((H2 bx l m k a b vm c).put 1307 none).new (.cells d 5 ⟨false, false⟩)).next = 1309 := ⟨by kernel_rfl, by kernel_rfl, by kernel_rfl, by kernel_rfl, by kernel_rfl⟩

/-- The bytes stay: from region 4 on, no tail and no turn. -/
theorem to_keep_n (vo : Value) (p1 : Option Addr) (n c1 : Nat) (cc : List Value) (h3 : k ≠ 3) (h1 : k ≠ 1) (z : Nat → Value) :
    EvF T00 K0 5 .plain toSw4 (mkE 85 [(1, .slice p1 n c1), (2, pB), (5, vo)] z) (H2 bx l m k a b vm cc) .ret 85 [(4, vo)] (H2 bx l m k a b vm cc) := by
  refine EvF.seq (EvF.reg (to_r4no_n bx l m a b vm vo p1 n c1 cc z k h3)) fun z => EvF.false (by kernel_rfl) ?_
  refine EvF.re (n := 85) (gs := [(1, .slice p1 n c1), (2, pB), (5, vo)]) (by kernel_rfl) ⟨by kernel_rfl, by kernel_rfl, by kernel_rfl, trivial⟩ fun z => ?_
  refine EvF.seq (EvF.reg (to_r6no_n bx l m a b vm vo p1 n c1 cc z k h1)) fun z => EvF.true (by kernel_rfl) ?_
  refine EvF.re (n := 85) (gs := [(5, vo)]) (by kernel_rfl) ⟨by kernel_rfl, trivial⟩ fun z => ?_
  exact EvF.seq (EvF.reg (to_r7_n bx l m k a b vm vo cc z)) fun z => EvF.same Ev.ret ⟨by kernel_rfl, by kernel_rfl, trivial⟩
theorem to_keep_e (vo : Value) (p1 : Option Addr) (n c1 : Nat) (h3 : k ≠ 3) (h1 : k ≠ 1) (z : Nat → Value) :
    EvF T00 K0 5 .plain toSw4 (mkE 85 [(1, .slice p1 n c1), (2, pB), (5, vo)] z) (H1 bx l m k a b vm) .ret 85 [(4, vo)] (H1 bx l m k a b vm) := by
  refine EvF.seq (EvF.reg (to_r4no_e bx l m a b vm vo p1 n c1 z k h3)) fun z => EvF.false (by kernel_rfl) ?_
  refine EvF.re (n := 85) (gs := [(1, .slice p1 n c1), (2, pB), (5, vo)]) (by kernel_rfl) ⟨by kernel_rfl, by kernel_rfl, by kernel_rfl, trivial⟩ fun z => ?_
  refine EvF.seq (EvF.reg (to_r6no_e bx l m a b vm vo p1 n c1 z k h1)) fun z => EvF.true (by kernel_rfl) ?_
  refine EvF.re (n := 85) (gs := [(5, vo)]) (by kernel_rfl) ⟨by kernel_rfl, trivial⟩ fun z => ?_
  exact EvF.seq (EvF.reg (to_r7_e bx l m k a b vm vo z)) fun z => EvF.same Ev.ret ⟨by kernel_rfl, by kernel_rfl, trivial⟩

/-- Behind a region that says: no cut. -/
theorem to_nocut {vo : Value} {p1 : Option Addr} {n c1 : Nat} {H H' : AHeap} {v : Value} (h : ∀ z, EvF T00 K0 5 .plain toSw4 (mkE 85 [(1, .slice p1 n c1), (2, pB), (5, vo)] z) H .ret 85 [(4, v)] H') (z : Nat → Value) :
    EvF T00 K0 5 .plain (.cond (.tmp 9) (.seq (.region 3 to3 false) .ret) toSw4) (mkE 85 [(1, .slice p1 n c1), (2, pB), (5, vo), (9, .bool false)] z) H .ret 85 [(4, v)] H' :=
  EvF.false (by kernel_rfl) (EvF.re (n := 85) (gs := [(1, .slice p1 n c1), (2, pB), (5, vo)]) (by kernel_rfl) ⟨by kernel_rfl, by kernel_rfl, by kernel_rfl, trivial⟩ h)

theorem to_done {e : Env} {H H' : AHeap} {v : Value} (h : EvF T00 K0 5 .plain toSw e H .ret 85 [(4, v)] H') : EvF T00 K0 5 .plain (.seq (.block 0 toSw) toEnd) e H .ret 85 [(4, v)] H' :=
  EvF.out (EvF.block' h (fun i h => by cases h)) (by intro h; cases h)

/-- Where there are bytes. -/
theorem to_sw_n (p1 : Option Addr) (c1 : Nat) (hvm : inS bm vm m) (hl : l ≠ []) (hn : l.length ≤ 100000) (hm : m.length ≤ 100000) (z : Nat → Value) :
    ∃ v H', EvF T00 K0 5 .plain (.seq (.block 0 toSw) toEnd) (mkE 85 [(1, .slice p1 l.length c1), (2, pB), (5, vO l)] z) (H2 bx l m k a b vm (bv l)) .ret 85 [(4, v)] H' ∧ OutB bx l m H' v (harm k a b l m) := by
  have hg2 := H2_get bx l m k a b vm (bv l)
  have ho2 := H2_out bx l m k a b vm (bv l)
  have stay : OutB bx l m (H2 bx l m k a b vm (bv l)) (vO l) l := outB (SB.own hg2.2.1) ho2.1 ho2.2.1 ho2.2.2 hg2.2.2 (by decide) (by decide) (by decide)
  have hl0 : 0 < l.length := List.length_pos_iff.2 hl
  by_cases k2 : k = 2
  · subst k2
    have keep := to_keep_n bx l m 2 a b vm (vO l) p1 l.length c1 (bv l) (by decide) (by decide)
    cases a with
    | negSucc j =>
      refine ⟨vO l, H2 bx l m 2 (Int.negSucc j) b vm (bv l), to_done (EvF.seq (EvF.reg (to_r2neg_n bx l m b vm (vO l) p1 l.length c1 (bv l) j z)) fun z => to_nocut keep z), ?_⟩
      have e : harm 2 (Int.negSucc j) b l m = l := by
        unfold harm
        rw [if_neg (by rintro ⟨_, h, _⟩; exact absurd h (by simp)), if_neg (by decide), if_neg (by rintro ⟨h, _⟩; exact absurd h (by decide))]
      rw [e]; exact stay
    | ofNat j =>
      by_cases hj : j < l.length
      · refine ⟨vL 1307 0 j (U + l.length), H2 bx l m 2 (Int.ofNat j) b vm (bv l), to_done (EvF.seq (EvF.reg (to_r2pos_n bx l m b vm (vO l) p1 l.length c1 (bv l) j z)) fun z => ?_), ?_⟩
        · rw [show decide (Int.ofNat j < Int.ofNat l.length) = true from decide_eq_true (by simp only [Int.ofNat_eq_natCast]; omega)]
          refine EvF.true (by kernel_rfl) (EvF.re (n := 85) (gs := [(2, pB), (5, vO l)]) (by kernel_rfl) ⟨by kernel_rfl, by kernel_rfl, trivial⟩ fun z => ?_)
          exact EvF.seq (EvF.reg (to_r3 bx l m 2 b vm j (by omega) (bv l) z)) fun z => EvF.same Ev.ret ⟨by kernel_rfl, by kernel_rfl, trivial⟩
        · have e : harm 2 (Int.ofNat j) b l m = l.take j := by
            unfold harm
            rw [if_pos ⟨rfl, by simp, by simp only [Int.ofNat_eq_natCast]; omega⟩]
            simp
          rw [e]
          exact outB (SB.part hg2.2.1 (by omega)) ho2.1 ho2.2.1 ho2.2.2 hg2.2.2 (by decide) (by decide) (by decide)
      · refine ⟨vO l, H2 bx l m 2 (Int.ofNat j) b vm (bv l), to_done (EvF.seq (EvF.reg (to_r2pos_n bx l m b vm (vO l) p1 l.length c1 (bv l) j z)) fun z => ?_), ?_⟩
        · rw [show decide (Int.ofNat j < Int.ofNat l.length) = false from decide_eq_false (by simp only [Int.ofNat_eq_natCast]; omega)]
          exact to_nocut keep z
        · have e : harm 2 (Int.ofNat j) b l m = l := by
            unfold harm
            rw [if_neg (by rintro ⟨_, _, h⟩; simp only [Int.ofNat_eq_natCast] at h; omega), if_neg (by decide), if_neg (by rintro ⟨h, _⟩; exact absurd h (by decide))]
          rw [e]; exact stay
  have nocut := fun z => to_r2no_n bx l m a b vm (vO l) p1 l.length c1 (bv l) z k k2
  by_cases k3 : k = 3
  · subst k3
    have e : harm 3 a b l m = l ++ m := by
      unfold harm
      rw [if_neg (by rintro ⟨h, _⟩; exact absurd h (by decide)), if_pos rfl]
    rw [e]
    by_cases hm0 : m = []
    · subst hm0
      refine ⟨vO l, H2 bx l [] 3 a b vm (bv l), to_done (EvF.seq (EvF.reg (nocut z)) fun z => to_nocut (fun z => ?_) z), by rw [List.append_nil]; exact stay⟩
      refine EvF.seq (EvF.reg (to_r4yes_n bx l [] b vm (vO l) p1 l.length c1 (bv l) a z)) fun z => EvF.true (by kernel_rfl) ?_
      refine EvF.re (n := 85) (gs := [(2, pB), (5, vO l)]) (by kernel_rfl) ⟨by kernel_rfl, by kernel_rfl, trivial⟩ fun z => ?_
      exact EvF.seq (EvF.reg (to_r5z bx l [] 3 a b vm (hvm.sb ho2.2.2) z)) fun z => EvF.same Ev.ret ⟨by kernel_rfl, by kernel_rfl, trivial⟩
    · have ho3 := H3_out bx l m 3 a b vm (bv l) (bv (l ++ m))
      refine ⟨vL 1308 0 (l.length + m.length) (U + (l.length + m.length)), ((H2 bx l m 3 a b vm (bv l)).put 1307 none).new (.cells (bv (l ++ m)) 5 ⟨false, false⟩), to_done (EvF.seq (EvF.reg (nocut z)) fun z => to_nocut (fun z => ?_) z), ?_⟩
      · refine EvF.seq (EvF.reg (to_r4yes_n bx l m b vm (vO l) p1 l.length c1 (bv l) a z)) fun z => EvF.true (by kernel_rfl) ?_
        refine EvF.re (n := 85) (gs := [(2, pB), (5, vO l)]) (by kernel_rfl) ⟨by kernel_rfl, by kernel_rfl, trivial⟩ fun z => ?_
        exact EvF.seq (EvF.reg (to_r5n bx l m 3 a b vm (hvm.sb ho2.2.2) hl hm0 (by omega) z)) fun z => EvF.same Ev.ret ⟨by kernel_rfl, by kernel_rfl, trivial⟩
      · refine outB ?_ ho3.1 ho3.2.1 ho3.2.2.1 ho3.2.2.2.2 (by decide) (by decide) (by decide)
        have := SB.own (c := U + (l.length + m.length)) ho3.2.2.2.1
        rw [List.length_append] at this
        exact this
  by_cases k1 : k = 1
  · subst k1
    cases a with
    | negSucc j =>
      refine ⟨vO l, H2 bx l m 1 (Int.negSucc j) b vm (bv l), to_done (EvF.seq (EvF.reg (nocut z)) fun z => to_nocut (fun z => ?_) z), ?_⟩
      · refine EvF.seq (EvF.reg (to_r4no_n bx l m (Int.negSucc j) b vm (vO l) p1 l.length c1 (bv l) z 1 (by decide))) fun z => EvF.false (by kernel_rfl) ?_
        refine EvF.re (n := 85) (gs := [(1, .slice p1 l.length c1), (2, pB), (5, vO l)]) (by kernel_rfl) ⟨by kernel_rfl, by kernel_rfl, by kernel_rfl, trivial⟩ fun z => ?_
        refine EvF.seq (EvF.reg (to_r6neg_n bx l m b vm (vO l) p1 l.length c1 (bv l) z j)) fun z => EvF.true (by kernel_rfl) ?_
        refine EvF.re (n := 85) (gs := [(5, vO l)]) (by kernel_rfl) ⟨by kernel_rfl, trivial⟩ fun z => ?_
        exact EvF.seq (EvF.reg (to_r7_n bx l m 1 (Int.negSucc j) b vm (vO l) (bv l) z)) fun z => EvF.same Ev.ret ⟨by kernel_rfl, by kernel_rfl, trivial⟩
      · have e : harm 1 (Int.negSucc j) b l m = l := by
          unfold harm
          rw [if_neg (by rintro ⟨h, _⟩; exact absurd h (by decide)), if_neg (by decide), if_neg (by rintro ⟨_, h, _⟩; exact absurd h (by simp))]
        rw [e]; exact stay
    | ofNat j =>
      have hw : IntKind.wrap .i64 (IntKind.wrap .i64 (8 * Int.ofNat l.length) - 32) = 8 * (l.length : Int) - 32 := by
        simp only [Int.ofNat_eq_natCast]
        rw [wrap64_id (n := 8 * (l.length : Int)) (by omega) (by omega), wrap64_id (by omega) (by omega)]
      by_cases hj : j + 32 ≤ 8 * l.length
      · have hg3 := H2_get bx l m 1 (Int.ofNat j) b vm (bv (turns b j l 32))
        have ho3 := H2_out bx l m 1 (Int.ofNat j) b vm (bv (turns b j l 32))
        refine ⟨vO l, H2 bx l m 1 (Int.ofNat j) b vm (bv (turns b j l 32)), ?_, ?_⟩
        · refine EvF.seq (n := 85) (fs := [(2, pB), (5, vO l)]) (H1 := H2 bx l m 1 (Int.ofNat j) b vm (bv l)) (EvF.block' ?_ (fun i h => by cases h)) fun z => ?_
          · refine EvF.seq (EvF.reg (nocut z)) fun z => EvF.false (by kernel_rfl) ?_
            refine EvF.re (n := 85) (gs := [(1, .slice p1 l.length c1), (2, pB), (5, vO l)]) (by kernel_rfl) ⟨by kernel_rfl, by kernel_rfl, by kernel_rfl, trivial⟩ fun z => ?_
            refine EvF.seq (EvF.reg (to_r4no_n bx l m (Int.ofNat j) b vm (vO l) p1 l.length c1 (bv l) z 1 (by decide))) fun z => EvF.false (by kernel_rfl) ?_
            refine EvF.re (n := 85) (gs := [(1, .slice p1 l.length c1), (2, pB), (5, vO l)]) (by kernel_rfl) ⟨by kernel_rfl, by kernel_rfl, by kernel_rfl, trivial⟩ fun z => ?_
            refine EvF.seq (EvF.reg (to_r6pos_n bx l m b vm (vO l) p1 l.length c1 (bv l) j z)) fun z => ?_
            rw [hw, show decide (8 * (l.length : Int) - 32 < Int.ofNat j) = false from decide_eq_false (by simp only [Int.ofNat_eq_natCast]; omega)]
            exact EvF.false (by kernel_rfl) (EvF.same Ev.skip ⟨by kernel_rfl, by kernel_rfl, by kernel_rfl, trivial⟩)
          · refine EvF.seq (n := 85) (fs := [(2, pB), (5, vO l)]) (H1 := H2 bx l m 1 (Int.ofNat j) b vm (bv (turns b j l 32))) ?_ fun z => ?_
            · refine EvF.seq (EvF.reg (to_r8 bx l m 1 (Int.ofNat j) b vm (vO l) (bv l) z)) fun z => ?_
              exact EvF.block (EvF.loop (to_loop bx l m b vm j hj hn 32 0 rfl z))
            · refine EvF.re (n := 85) (gs := [(5, vO l)]) (by kernel_rfl) ⟨by kernel_rfl, trivial⟩ fun z => ?_
              exact EvF.seq (EvF.reg (to_r14_n bx l m 1 (Int.ofNat j) b vm (vO l) (bv (turns b j l 32)) z)) fun z => EvF.same Ev.ret ⟨by kernel_rfl, by kernel_rfl, trivial⟩
        · have e : harm 1 (Int.ofNat j) b l m = turns b j l 32 := by
            unfold harm
            rw [if_neg (by rintro ⟨h, _⟩; exact absurd h (by decide)), if_neg (by decide), if_pos ⟨rfl, by simp, by simp only [Int.ofNat_eq_natCast]; omega⟩]
            simp
          rw [e]
          refine outB ?_ ho3.1 ho3.2.1 ho3.2.2 hg3.2.2 (by decide) (by decide) (by decide)
          have := SB.own (c := U + l.length) hg3.2.1
          rw [turns_length] at this
          exact this
      · refine ⟨vO l, H2 bx l m 1 (Int.ofNat j) b vm (bv l), to_done (EvF.seq (EvF.reg (nocut z)) fun z => to_nocut (fun z => ?_) z), ?_⟩
        · refine EvF.seq (EvF.reg (to_r4no_n bx l m (Int.ofNat j) b vm (vO l) p1 l.length c1 (bv l) z 1 (by decide))) fun z => EvF.false (by kernel_rfl) ?_
          refine EvF.re (n := 85) (gs := [(1, .slice p1 l.length c1), (2, pB), (5, vO l)]) (by kernel_rfl) ⟨by kernel_rfl, by kernel_rfl, by kernel_rfl, trivial⟩ fun z => ?_
          refine EvF.seq (EvF.reg (to_r6pos_n bx l m b vm (vO l) p1 l.length c1 (bv l) j z)) fun z => ?_
          rw [hw, show decide (8 * (l.length : Int) - 32 < Int.ofNat j) = true from decide_eq_true (by simp only [Int.ofNat_eq_natCast]; omega)]
          refine EvF.true (by kernel_rfl) ?_
          refine EvF.re (n := 85) (gs := [(5, vO l)]) (by kernel_rfl) ⟨by kernel_rfl, trivial⟩ fun z => ?_
          exact EvF.seq (EvF.reg (to_r7_n bx l m 1 (Int.ofNat j) b vm (vO l) (bv l) z)) fun z => EvF.same Ev.ret ⟨by kernel_rfl, by kernel_rfl, trivial⟩
        · have e : harm 1 (Int.ofNat j) b l m = l := by
            unfold harm
            rw [if_neg (by rintro ⟨h, _⟩; exact absurd h (by decide)), if_neg (by decide), if_neg (by rintro ⟨_, _, h⟩; simp only [Int.ofNat_eq_natCast] at h; omega)]
          rw [e]; exact stay
  · have e : harm k a b l m = l := by
      unfold harm
      rw [if_neg (fun h => k2 h.1), if_neg k3, if_neg (fun h => k1 h.1)]
    exact ⟨vO l, H2 bx l m k a b vm (bv l), to_done (EvF.seq (EvF.reg (nocut z)) fun z => to_nocut (to_keep_n bx l m k a b vm (vO l) p1 l.length c1 (bv l) k3 k1) z), by rw [e]; exact stay⟩

end
end Go.AM.Seat
