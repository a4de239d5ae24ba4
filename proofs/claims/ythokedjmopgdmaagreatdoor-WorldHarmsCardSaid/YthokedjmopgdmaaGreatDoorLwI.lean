/- A part of the proof that WorldHarms answers true at every input: a part of the walk of the law WorldHarms. -/
import Derived.Test.YthokedjmopgdmaaGreatDoorLwG
set_option linter.all false
/- WorldHarms: the document's harm, the regions that touch bytes; the masks; the bits. -/
set_option maxRecDepth 100000
namespace Go.AM.Seat
open Go.Proofs

theorem bitA_eq (B i : Nat) (hi : i < 32) : bitA (Int.ofNat B) i = decide (Int.tmod (Int.ofNat (B / 2 ^ i)) 2 = 1) := by
  have h1 : min (IntKind.wrap .u64 (Int.ofNat i)).toNat 32 = i := by
    rw [show IntKind.wrap .u64 (Int.ofNat i) = (i : Int) from IntWalk.u64_in _ (by simp only [Int.ofNat_eq_natCast]; omega)]
    simp; omega
  have h2 : (Int.ofNat B).fdiv (2 ^ i) = Int.ofNat (B / 2 ^ i) := by
    rw [show (2 : Int) ^ i = Int.ofNat (2 ^ i) by simp, Int.fdiv_eq_ediv_of_nonneg _ (show (0 : Int) ≤ Int.ofNat (2 ^ i) from Int.natCast_nonneg (2 ^ i))]
    rfl
  have h3 : ∀ x : Nat, ((BitVec.ofInt 32 (Int.ofNat x)) &&& BitVec.ofInt 32 1).toNat = x % 2 := by
    intro x
    rw [BitVec.toNat_and]
    simp only [Int.ofNat_eq_natCast, BitVec.ofInt_natCast, BitVec.toNat_ofNat]
    have : (BitVec.ofInt 32 1).toNat = 1 := by decide
    rw [this, Nat.and_one_is_mod]
    omega
  unfold bitA
  rw [h1, h2, h3]
  have h4 : IntKind.wrap .u32 ((B / 2 ^ i % 2 : Nat) : Int) = ((B / 2 ^ i % 2 : Nat) : Int) := IntWalk.u32_in _ (by omega)
  rw [h4]
  rfl

theorem half_eq (B i : Nat) (hB : B < 4294967296) : IntKind.wrap .u32 ((Int.ofNat (B / 2 ^ i)).tdiv 2) = Int.ofNat (B / 2 ^ (i + 1)) := by
  have h1 : (Int.ofNat (B / 2 ^ i)).tdiv 2 = Int.ofNat (B / 2 ^ i / 2) := rfl
  have h2 : B / 2 ^ i / 2 = B / 2 ^ (i + 1) := by rw [Nat.div_div_eq_div_mul, Nat.pow_succ]
  rw [h1, h2]
  have : B / 2 ^ (i + 1) ≤ B := Nat.div_le_self _ _
  generalize B / 2 ^ (i + 1) = y at this ⊢
  exact IntWalk.u32_in _ (by simp only [Int.ofNat_eq_natCast]; omega)

/-- The mask behind so many halves. -/
def mk (t : Nat) : Int := (128 : Int).fdiv (2 ^ t)
theorem mk_half (t : Nat) (h : t < 7) : IntKind.wrap .u8 ((mk t).tdiv 2) = mk (t + 1) := by
  match t, h with
  | 0, _ => decide
  | 1, _ => decide
  | 2, _ => decide
  | 3, _ => decide
  | 4, _ => decide
  | 5, _ => decide
  | 6, _ => decide

theorem succ_eq {i : Nat} (h : i ≤ 1000000) : IntKind.wrap .i64 (Int.ofNat i + 1) = Int.ofNat (i + 1) := by
  simp only [Int.ofNat_eq_natCast]
  rw [wrap64_id (by omega) (by omega)]
  omega

section
variable (H : AHeap) (X N : Nat) (l m : List UInt8)

/-- The capacity is that of the append that made it. -/
abbrev vB (X : Nat) (l : List UInt8) : Value := vL X 0 l.length (U + l.length)

theorem ha_r4n (k a b : Int) (vb vm : Value) (h : SB H vb l) (hl : l ≠ []) (hn : l.length ≤ 1000000) (z : Nat → Value) :
    Rg T00 K0 ha4 (List.range ha4.size) (mkE 87 [(0, vb), (1, i64 k), (2, i64 a), (3, u32 b), (4, vm), (11, vN0)] z) H 87 [(0, vb), (1, i64 k), (2, i64 a), (3, u32 b), (4, vm), (11, vB H.next l)] (H.new (.cells (bv l) 5 ⟨false, false⟩)) := by
  have hs : List.range ha4.size = [0, 1] ++ ([2] ++ [3]) := by kernel_rfl
  rw [hs]
  have h0 : Rg T00 K0 ha4 [0, 1] (mkE 87 [(0, vb), (1, i64 k), (2, i64 a), (3, u32 b), (4, vm), (11, vN0)] z) H 87 [(0, vb), (1, i64 k), (2, i64 a), (3, u32 b), (4, vm), (33, vN0), (34, vb)] H :=
    Rg.of (by kernel_rfl) ⟨by kernel_rfl, by kernel_rfl, by kernel_rfl, by kernel_rfl, by kernel_rfl, by kernel_rfl, by kernel_rfl, by kernel_rfl, trivial⟩
  refine h0.append fun z => Rg.append (n := 87) (fs := [(0, vb), (1, i64 k), (2, i64 a), (3, u32 b), (4, vm), (35, vB H.next l)]) (H1 := H.new (.cells (bv l) 5 ⟨false, false⟩)) ?_ fun z => ?_
  · exact Rg.app (d := 35) (x := .tmp 33) (y := .tmp 34) (ty := (operOf ha4 2).type) (pos := (operOf ha4 2).pos) (af := (operOf ha4 2).after) (by kernel_rfl)
      (show appendA T00 H 22 22 vN0 vb = _ from app_nil h hl hn) ⟨by kernel_rfl, by kernel_rfl, by kernel_rfl, by kernel_rfl, by kernel_rfl, by kernel_rfl, by kernel_rfl, trivial⟩
  · exact Rg.of (by kernel_rfl) ⟨by kernel_rfl, by kernel_rfl, by kernel_rfl, by kernel_rfl, by kernel_rfl, by kernel_rfl, by kernel_rfl, trivial⟩

theorem ha_r4e (k a b : Int) (vb vm : Value) (h : SB H vb []) (z : Nat → Value) :
    Rg T00 K0 ha4 (List.range ha4.size) (mkE 87 [(0, vb), (1, i64 k), (2, i64 a), (3, u32 b), (4, vm), (11, vN0)] z) H 87 [(0, vb), (1, i64 k), (2, i64 a), (3, u32 b), (4, vm), (11, vN0)] H := by
  have hs : List.range ha4.size = [0, 1] ++ ([2] ++ [3]) := by kernel_rfl
  rw [hs]
  have h0 : Rg T00 K0 ha4 [0, 1] (mkE 87 [(0, vb), (1, i64 k), (2, i64 a), (3, u32 b), (4, vm), (11, vN0)] z) H 87 [(0, vb), (1, i64 k), (2, i64 a), (3, u32 b), (4, vm), (33, vN0), (34, vb)] H :=
    Rg.of (by kernel_rfl) ⟨by kernel_rfl, by kernel_rfl, by kernel_rfl, by kernel_rfl, by kernel_rfl, by kernel_rfl, by kernel_rfl, by kernel_rfl, trivial⟩
  refine h0.append fun z => Rg.append (n := 87) (fs := [(0, vb), (1, i64 k), (2, i64 a), (3, u32 b), (4, vm), (35, vN0)]) (H1 := H) ?_ fun z => ?_
  · exact Rg.app (d := 35) (x := .tmp 33) (y := .tmp 34) (ty := (operOf ha4 2).type) (pos := (operOf ha4 2).pos) (af := (operOf ha4 2).after) (by kernel_rfl)
      (show appendA T00 H 22 22 vN0 vb = _ from app_nil0 h) ⟨by kernel_rfl, by kernel_rfl, by kernel_rfl, by kernel_rfl, by kernel_rfl, by kernel_rfl, by kernel_rfl, trivial⟩
  · exact Rg.of (by kernel_rfl) ⟨by kernel_rfl, by kernel_rfl, by kernel_rfl, by kernel_rfl, by kernel_rfl, by kernel_rfl, by kernel_rfl, trivial⟩

/-- Region 3: the cut. -/
theorem ha_r3 (st : Fl) (hX : H.get X = some (.cells (bv l) 5 st)) (j : Nat) (hj : j < l.length) (hn : l.length ≤ 1000000) (z : Nat → Value) :
    ∃ v H', Rg T00 K0 ha3 (List.range ha3.size) (mkE 87 [(0, vB X l), (2, i64 (Int.ofNat j)), (11, vN0)] z) H 87 [(10, v)] H' ∧ SB H' v (l.take j) ∧ (H' = H ∨ H' = H.new (.cells (bv (l.take j)) 5 ⟨false, false⟩)) := by
  have hs : List.range ha3.size = [0, 1, 2] ++ ([3] ++ ([4] ++ [5])) := by kernel_rfl
  rw [hs]
  have h0 : Rg T00 K0 ha3 [0, 1, 2] (mkE 87 [(0, vB X l), (2, i64 (Int.ofNat j)), (11, vN0)] z) H 87 [(28, vN0), (29, vB X l), (30, i64 (Int.ofNat j))] H :=
    Rg.of (by kernel_rfl) ⟨by kernel_rfl, by kernel_rfl, by kernel_rfl, by kernel_rfl, trivial⟩
  have h3 : ∀ z, Rg T00 K0 ha3 [3] (mkE 87 [(28, vN0), (29, vB X l), (30, i64 (Int.ofNat j))] z) H 87 [(28, vN0), (31, vL X 0 j (U + l.length))] H := by
    intro z
    refine Rg.one (stepA_of (v := vL X 0 j (U + l.length)) (o := ⟨some 31, .slice 22 (.tmp 29) none (some (.tmp 30)) none, (operOf ha3 3).type, (operOf ha3 3).pos, (operOf ha3 3).after, none⟩) (by kernel_rfl) rfl (opA_slice (by kernel_rfl) ?_)) ⟨by kernel_rfl, by kernel_rfl, by kernel_rfl, trivial⟩
    exact slice_to hX (by omega) rfl
  have hsb : SB H (vL X 0 j (U + l.length)) (l.take j) := SB.part hX (by omega)
  have hlen : (l.take j).length = j := by rw [List.length_take]; omega
  by_cases h00 : l.take j = []
  · rw [h00] at hsb ⊢
    refine ⟨vN0, H, h0.append fun z => Rg.append (h3 z) fun z => Rg.append (n := 87) (fs := [(32, vN0)]) (H1 := H) ?_ fun z => ?_, .inl ⟨rfl, rfl⟩, .inl rfl⟩
    · exact Rg.app (d := 32) (x := .tmp 28) (y := .tmp 31) (ty := (operOf ha3 4).type) (pos := (operOf ha3 4).pos) (af := (operOf ha3 4).after) (by kernel_rfl)
        (show appendA T00 H 22 22 vN0 (vL X 0 j (U + l.length)) = _ from app_nil0 hsb) ⟨by kernel_rfl, by kernel_rfl, trivial⟩
    · exact Rg.of (by kernel_rfl) ⟨by kernel_rfl, by kernel_rfl, trivial⟩
  · refine ⟨vB H.next (l.take j), H.new (.cells (bv (l.take j)) 5 ⟨false, false⟩), h0.append fun z => Rg.append (h3 z) fun z => Rg.append (n := 87) (fs := [(32, vB H.next (l.take j))]) (H1 := H.new (.cells (bv (l.take j)) 5 ⟨false, false⟩)) ?_ fun z => ?_,
      SB.own (by rw [AHeap.get_new, if_pos rfl]), .inr rfl⟩
    · exact Rg.app (d := 32) (x := .tmp 28) (y := .tmp 31) (ty := (operOf ha3 4).type) (pos := (operOf ha3 4).pos) (af := (operOf ha3 4).after) (by kernel_rfl)
        (show appendA T00 H 22 22 vN0 (vL X 0 j (U + l.length)) = _ from app_nil hsb h00 (by omega)) ⟨by kernel_rfl, by kernel_rfl, trivial⟩
    · exact Rg.of (by kernel_rfl) ⟨by kernel_rfl, by kernel_rfl, trivial⟩

/-- Region 6: the tail. -/
theorem ha_r6 (vo vm v : Value) (H' : AHeap) (h : appendA T00 H 22 22 vo vm = some (v, H')) (z : Nat → Value) :
    Rg T00 K0 ha6 (List.range ha6.size) (mkE 87 [(4, vm), (11, vo)] z) H 87 [(10, v)] H' := by
  have hs : List.range ha6.size = [0, 1] ++ ([2] ++ [3]) := by kernel_rfl
  rw [hs]
  have h0 : Rg T00 K0 ha6 [0, 1] (mkE 87 [(4, vm), (11, vo)] z) H 87 [(38, vo), (39, vm)] H := Rg.of (by kernel_rfl) ⟨by kernel_rfl, by kernel_rfl, by kernel_rfl, trivial⟩
  refine h0.append fun z => Rg.append (n := 87) (fs := [(40, v)]) (H1 := H') ?_ fun z => ?_
  · exact Rg.app (d := 40) (x := .tmp 38) (y := .tmp 39) (ty := (operOf ha6 2).type) (pos := (operOf ha6 2).pos) (af := (operOf ha6 2).after) (by kernel_rfl) h ⟨by kernel_rfl, by kernel_rfl, trivial⟩
  · exact Rg.of (by kernel_rfl) ⟨by kernel_rfl, by kernel_rfl, trivial⟩

/-- Region 18: a bit is turned. -/
theorem ha_r18 (x : Int) (j i q : Nat) (c : List UInt8) (e : Fl) (hX : H.get N = some (.cells (bv c) 5 e)) (hc : c.length = l.length) (hq : q / 8 < l.length) (hn : l.length ≤ 1000000) (z : Nat → Value) :
    Rg T00 K0 ha18 (List.range ha18.size) (mkE 87 [(2, i64 (Int.ofNat j)), (3, u32 x), (11, vB N l), (12, i64 (Int.ofNat i)), (13, i64 (Int.ofNat q)), (14, u8 (mk (q % 8)))] z) H 87
      [(2, i64 (Int.ofNat j)), (3, u32 x), (11, vB N l), (12, i64 (Int.ofNat i))] (H.put N (some (.cells (bv (c.modify (q / 8) fun y => turnB y (q % 8))) 5 e))) := by
  obtain ⟨w, hw⟩ : ∃ w, c[q / 8]? = some w := ⟨c[q / 8]'(by omega), by simp⟩
  have hs : List.range ha18.size = [0, 1, 2, 3, 4, 5] ++ ([6] ++ ([7] ++ ([8, 9] ++ ([10] ++ [11])))) := by kernel_rfl
  rw [hs]
  have h0 := ha_r18a H (vB N l) x j i q (mk (q % 8)) z
  have hq8 : IntKind.wrap .i64 (Int.ofNat (q / 8)) = Int.ofNat (q / 8) := wrap64_id (by simp only [Int.ofNat_eq_natCast]; omega) (by simp only [Int.ofNat_eq_natCast]; omega)
  rw [hq8] at h0
  refine h0.append fun z => Rg.append (n := 87) (fs := [(2, i64 (Int.ofNat j)), (3, u32 x), (11, vB N l), (12, i64 (Int.ofNat i)), (14, u8 (mk (q % 8))), (73, vB N l), (75, i64 (Int.ofNat (q / 8))), (79, vP N (q / 8))]) (H1 := H) ?_ fun z => ?_
  · refine Rg.one (stepA_of (v := vP N (q / 8)) (o := ⟨some 79, .indexAddr 22 (.tmp 76) (.tmp 78), (operOf ha18 6).type, (operOf ha18 6).pos, (operOf ha18 6).after, none⟩) (by kernel_rfl) rfl (opA_val ?_))
      ⟨by kernel_rfl, by kernel_rfl, by kernel_rfl, by kernel_rfl, by kernel_rfl, by kernel_rfl, by kernel_rfl, by kernel_rfl, by kernel_rfl, trivial⟩
    exact index_at (c := U + l.length) hq
  refine Rg.append (n := 87) (fs := [(2, i64 (Int.ofNat j)), (3, u32 x), (11, vB N l), (12, i64 (Int.ofNat i)), (14, u8 (mk (q % 8))), (73, vB N l), (75, i64 (Int.ofNat (q / 8))), (80, u8 w.toNat)]) (H1 := H) ?_ fun z => ?_
  · refine Rg.one (stepA_of (v := u8 w.toNat) (o := ⟨some 80, .load 5 (.tmp 79), (operOf ha18 7).type, (operOf ha18 7).pos, (operOf ha18 7).after, none⟩) (by kernel_rfl) rfl (opA_load ?_))
      ⟨by kernel_rfl, by kernel_rfl, by kernel_rfl, by kernel_rfl, by kernel_rfl, by kernel_rfl, by kernel_rfl, by kernel_rfl, by kernel_rfl, trivial⟩
    exact load_at hX (by simp [bv, hw, u8])
  refine (ha_r18b H (vB N l) x j i (mk (q % 8)) w.toNat (i64 (Int.ofNat (q / 8))) z).append fun z => ?_
  refine Rg.append (n := 87) (fs := [(2, i64 (Int.ofNat j)), (3, u32 x), (11, vB N l), (12, i64 (Int.ofNat i)), (82, u8 (xr w.toNat (mk (q % 8)))), (83, vP N (q / 8))]) (H1 := H) ?_ fun z => ?_
  · refine Rg.one (stepA_of (v := vP N (q / 8)) (o := ⟨some 83, .indexAddr 22 (.tmp 73) (.tmp 75), (operOf ha18 10).type, (operOf ha18 10).pos, (operOf ha18 10).after, none⟩) (by kernel_rfl) rfl (opA_val ?_))
      ⟨by kernel_rfl, by kernel_rfl, by kernel_rfl, by kernel_rfl, by kernel_rfl, by kernel_rfl, by kernel_rfl, trivial⟩
    exact index_at (c := U + l.length) hq
  · refine Rg.one (stepA_skip (o := ⟨none, .store 5 (.tmp 83) (.tmp 82), (operOf ha18 11).type, (operOf ha18 11).pos, (operOf ha18 11).after, none⟩) (by kernel_rfl) rfl (opA_store ?_))
      ⟨by kernel_rfl, by kernel_rfl, by kernel_rfl, by kernel_rfl, by kernel_rfl, trivial⟩
    have := store_at (b := N) (q := q / 8) (n := xr w.toNat (mk (q % 8))) hX (by rw [bv_length]; omega)
    rw [show Value.int .u8 (xr w.toNat (mk (q % 8))) = u8 (xr w.toNat ((128 : Int).fdiv (2 ^ (q % 8)))) from rfl, bv_modify hw] at this
    exact this
end
end Go.AM.Seat
