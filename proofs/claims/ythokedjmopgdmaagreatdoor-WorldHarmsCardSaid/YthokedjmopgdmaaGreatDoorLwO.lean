/- A part of the proof that WorldHarms answers true at every input: a part of the walk of the law WorldHarms. -/
import Derived.Test.YthokedjmopgdmaaGreatDoorLwM
import Derived.Below
import Derived.Laws.LoneSync
import Derived.ChangeSlices
set_option linter.all false
/- WorldHarms: the law in every world. -/
set_option maxRecDepth 100000
namespace Go.AM.Seat
open Go.Proofs Go.RowKit

/-- A slice of bytes in a world. -/
def IsRow (w : World) (a : Option Addr) (len cap : Nat) (zs : List Int) : Prop :=
  (a = none ∧ len = 0 ∧ cap = 0 ∧ zs = []) ∨
  ∃ x, a = some x ∧ len ≤ cap ∧ zs.length = cap ∧ (∀ i, i < zs.length → w.cell? (x.add i) = some (.int .u8 (zs.getD i 0))) ∧ ∀ n ∈ zs, (Lit.int .u8 n).wf = true

def bytesL (zs : List Int) (len : Nat) : List UInt8 := (zs.take len).map fun n => UInt8.ofNat n.toNat

theorem wf_u8 {n : Int} (h : (Lit.int .u8 n).wf = true) : ((UInt8.ofNat n.toNat).toNat : Int) = n := by
  have h1 : (decide (IntKind.min .u8 ≤ n) && decide (n ≤ IntKind.max .u8)) = true := h
  simp only [Bool.and_eq_true, decide_eq_true_eq] at h1
  have h2 : IntKind.min .u8 = 0 := by decide
  have h3 : IntKind.max .u8 = 255 := by decide
  rw [h2, h3] at h1
  rw [UInt8.toNat_ofNat']
  omega

theorem info5s : ∃ i, T00.info 5 = some i ∧ i.size = 1 := by
  obtain ⟨i, hi, h1, _⟩ := info5
  exact ⟨i, hi, h1⟩

/-- What stands for a slice that came in. -/
theorem slice_in {W : World} {a : Option Addr} {len cap : Nat} {zs : List Int} (nm : Nat) (h : IsRow W a len cap zs) : ∃ (v : Value) (l : List UInt8) (A : Option At), inS nm v l ∧ (∀ γ : Gam, γ nm = A → VR γ v (.slice a len cap)) ∧
    (∀ o, oRo l = some o → ∃ A', A = some A' ∧ (∀ γ, OR T00.info γ A' W o) ∧ ∃ i n, W.cell? ⟨A'.B, i, none⟩ = some (.int .u8 n)) := by
  rcases h with ⟨rfl, rfl, rfl, rfl⟩ | ⟨x, rfl, hlc, hz, hc, hw⟩
  · exact ⟨.slice none 0 0, [], none, .inl ⟨rfl, rfl⟩, fun _ _ => .nilSlice, fun o ho => by cases ho⟩
  · by_cases h0 : cap = 0
    · subst h0
      obtain rfl : len = 0 := by omega
      exact ⟨vL nm 0 0 (U + 0), [], none, .inr rfl, fun _ _ => .noSlice (by unfold capOk; rw [if_neg (by omega)]; omega) rfl, fun o ho => by cases ho⟩
    · have hfirst := hc 0 (by omega)
      obtain ⟨e, n, hs, hoff, hspot⟩ := World.shape?_of_cell? hfirst
      obtain ⟨B, o, sp⟩ := x
      have e0 : (⟨B, o, sp⟩ : Addr).add 0 = ⟨B, o, sp⟩ := by unfold Addr.add; rw [if_pos rfl]
      rw [e0] at hs hspot hfirst
      simp only at hs hspot hfirst
      subst hspot
      obtain ⟨cc, fr, hblk, hn⟩ : ∃ cc fr, W.heap[B]? = some (.cells cc e fr) ∧ cc.size = n := by
        unfold World.shape? at hs
        split at hs
        · rename_i cc e' fr hb
          simp only [Option.some.injEq, Prod.mk.injEq] at hs
          exact ⟨cc, fr, by rw [hb, hs.1], hs.2⟩
        · cases hs
      have hcell : ∀ i, i < cap → cc[o + i]? = some (.int .u8 (zs.getD i 0)) := by
        intro i hi
        have := hc i (by omega)
        rw [add_off] at this
        simpa [World.cell?, hblk] using this
      have hlen : (bytesL zs len).length = len := by simp [bytesL, List.length_take]; omega
      have hN : o + cap ≤ cc.size := by
        have := hcell (cap - 1) (by omega)
        rw [Array.getElem?_eq_some_iff] at this
        obtain ⟨h1, _⟩ := this
        omega
      refine ⟨vL nm 0 (bytesL zs len).length (U + (bytesL zs len).length), bytesL zs len, some ⟨B, o, cc.size, 1⟩, .inr rfl, fun γ hγ => ?_, fun ob hob => ⟨_, rfl, fun γ => ?_, o, _, hfirst⟩⟩
      · rw [hlen]
        exact VR.slice (γ := γ) (b := nm) (o := 0) (n := len) (c := U + len) (c' := cap) (A := ⟨B, o, cc.size, 1⟩) hγ (by unfold capOk; rw [if_neg (by omega)]; omega) (by simp only [Nat.mul_one]; omega) hlc
      · have hne : bytesL zs len ≠ [] := by intro e; rw [e] at hob; cases hob
        rw [oRo_some hne] at hob
        cases hob
        refine ⟨cc, e, fr, hblk, rfl, info5s, by rw [bv_length, hlen]; show o + len ≤ cc.size; omega, ?_⟩
        intro k v hk
        have hk' : k < len := by
          rcases Nat.lt_or_ge k len with h | h
          · exact h
          · rw [List.getElem?_eq_none (by rw [bv_length, hlen]; exact h)] at hk; cases hk
        refine ⟨_, hcell k (by omega), ?_⟩
        have hv : v = .int .u8 (zs.getD k 0) := by
          have hkz : k < zs.length := by omega
          unfold bv bytesL at hk
          rw [List.map_map, List.getElem?_map, List.getElem?_take, if_pos hk', List.getElem?_eq_getElem hkz] at hk
          simp only [Option.map_some, Function.comp_apply, Option.some.injEq] at hk
          rw [← hk, wf_u8 (hw _ (List.getElem_mem hkz))]
          simp [List.getD, hkz]
        rw [hv]
        exact .int _ _

theorem HW_cases {l m : List UInt8} {b : Nat} {o : AObj} (h : (HW l m).get b = some o) : (b = bm ∧ oRo m = some o) ∨ (b = bb ∧ oRo l = some o) ∨ (b = 0 ∧ o = oRoot) := by
  unfold HW AHeap.get at h
  simp only [Tr.get_set] at h
  split at h
  · exact .inl ⟨by assumption, h⟩
  · split at h
    · exact .inr (.inl ⟨by assumption, h⟩)
    · split at h
      · cases h; exact .inr (.inr ⟨by assumption, rfl⟩)
      · cases h

theorem oRo_wr {l : List UInt8} {o : AObj} (h : oRo l = some o) : o.wr = false := by
  cases l with
  | nil => cases h
  | cons x r => cases h; rfl

theorem G1 : T00.G = 1 := by kernel_rfl
theorem info108 : ∃ i, T00.info 108 = some i ∧ i.size = 2 := by
  have h : (T00.info 108).isSome = true := by kernel_rfl
  obtain ⟨i, hi⟩ := Option.isSome_iff_exists.1 h
  have e : T00.info 108 = some Tryz.t108 := by kernel_rfl
  rw [hi] at e; cases e
  exact ⟨_, hi, by kernel_rfl⟩

def rootObj : Obj := .cells #[.int .u16 0, .int .u32 0] 108 (0, 0)

/-- The law: true, and memory that was there is as it was. -/
theorem law_calls {W : World} (hR : W.heap[0]? = some rootObj) {a0 a1 : Option Addr} {len0 cap0 len1 cap1 : Nat} {z0 z1 : List Int} {k a b : Int} (hb0 : 0 ≤ b) (hb1 : b < 4294967296) (h0 : IsRow W a0 len0 cap0 z0) (h1 : IsRow W a1 len1 cap1 z1) :
    Calls Tryz.prog 3 #[.slice a0 len0 cap0, .agg #[.int .i64 k, .int .i64 a, .int .u32 b, .slice a1 len1 cap1]] W fun e W' => e = .returned (.bool true) ∧ Below W.heap.size W W' := by
  obtain ⟨v0, l, A0, i0, r0, o0⟩ := slice_in bb h0
  obtain ⟨v1, m, A1, i1, r1, o1⟩ := slice_in bm h1
  obtain ⟨B, rfl⟩ : ∃ B : Nat, b = Int.ofNat B := ⟨b.toNat, by simp only [Int.ofNat_eq_natCast]; omega⟩
  obtain ⟨H', hm, hroot, hnx⟩ := law_memo l m k a B (by simp only [Int.ofNat_eq_natCast] at hb1; omega) v0 v1 i0 i1
  let γ : Gam := fun g => if g = 0 then some ⟨0, 0, 2, 2⟩ else if g = bb then A0 else if g = bm then A1 else none
  have γ0 : γ 0 = some ⟨0, 0, 2, 2⟩ := rfl
  have γb : γ bb = A0 := rfl
  have γm : γ bm = A1 := rfl
  have apart : ∀ A' : At, (∃ i n, W.cell? ⟨A'.B, i, none⟩ = some (.int .u8 n)) → A'.B ≠ 0 := by
    rintro A' ⟨i, n, hc⟩ e
    rw [e] at hc
    have hR' : W.heap[0]? = some (.cells #[.int .u16 0, .int .u32 0] 108 (0, 0)) := hR
    simp only [World.cell?, hR'] at hc
    match i with
    | 0 => simp at hc
    | 1 => simp at hc
    | i + 2 => simp at hc
  have hr : HRT T00 γ (HW l m) W := by
    refine ⟨fun b o hb => ?_, fun b c o p A D hb hc hA hD e hq => ?_, fun g hg => ?_⟩
    · rcases HW_cases hb with ⟨rfl, ho⟩ | ⟨rfl, ho⟩ | ⟨rfl, rfl⟩
      · obtain ⟨A', hA, hO, _⟩ := o1 o ho
        exact ⟨A', by rw [γm, hA], hO γ⟩
      · obtain ⟨A', hA, hO, _⟩ := o0 o ho
        exact ⟨A', by rw [γb, hA], hO γ⟩
      · refine ⟨_, γ0, #[.int .u16 0, .int .u32 0], (0, 0), hR, rfl, .inl rfl, ⟨info108, fun _ => ⟨rfl, rfl⟩⟩, by decide, ?_⟩
        intro k v hk
        match k with
        | 0 => cases hk; exact ⟨_, rfl, .int _ _⟩
        | 1 => cases hk; exact ⟨_, rfl, .int _ _⟩
        | k + 2 => simp at hk
    · rcases HW_cases hb with ⟨rfl, ho⟩ | ⟨rfl, ho⟩ | ⟨rfl, rfl⟩ <;> rcases HW_cases hc with ⟨rfl, hp⟩ | ⟨rfl, hp⟩ | ⟨rfl, rfl⟩
      · rfl
      · rw [oRo_wr ho, oRo_wr hp] at hq; rcases hq with hq | hq <;> cases hq
      · obtain ⟨A', hA', _, hn⟩ := o1 o ho
        rw [γm, hA'] at hA; cases hA
        rw [γ0] at hD; cases hD
        exact absurd e (apart _ hn)
      · rw [oRo_wr ho, oRo_wr hp] at hq; rcases hq with hq | hq <;> cases hq
      · rfl
      · obtain ⟨A', hA', _, hn⟩ := o0 o ho
        rw [γb, hA'] at hA; cases hA
        rw [γ0] at hD; cases hD
        exact absurd e (apart _ hn)
      · obtain ⟨A', hA', _, hn⟩ := o1 p hp
        rw [γm, hA'] at hD; cases hD
        rw [γ0] at hA; cases hA
        exact absurd e.symm (apart _ hn)
      · obtain ⟨A', hA', _, hn⟩ := o0 p hp
        rw [γb, hA'] at hD; cases hD
        rw [γ0] at hA; cases hA
        exact absurd e.symm (apart _ hn)
      · rfl
    · rw [G1] at hg
      obtain rfl : g = 0 := by omega
      exact ⟨_, γ0, rfl, rfl⟩
  have hf : Free γ (HW l m).next H'.next := by
    intro b h1 h2
    have h1' : 1 ≤ b := h1
    show (if b = 0 then _ else if b = bb then A0 else if b = bm then A1 else none) = none
    rw [if_neg (by omega), if_neg (by unfold bb; omega), if_neg (by unfold bm; omega)]
  have hl : VL γ [v0, vH k a (Int.ofNat B) v1] (#[.slice a0 len0 cap0, .agg #[.int .i64 k, .int .i64 a, .int .u32 (Int.ofNat B), .slice a1 len1 cap1]] : Array Value).toList := by
    refine VL.cons (r0 γ γb) (VL.cons ?_ (VL.nil _))
    have hh : VL γ [i64 k, i64 a, u32 (Int.ofNat B), v1] [.int .i64 k, .int .i64 a, .int .u32 (Int.ofNat B), .slice a1 len1 cap1] := VL.cons (.int _ _) (VL.cons (.int _ _) (VL.cons (.int _ _) (VL.cons (r1 γ γm) (VL.nil _))))
    exact VR.agg' hh.toArray
  refine (hm.ok γ W _ hr hf hl).mono ?_
  rintro e w' ⟨γ', v', rfl, hv, hs⟩
  refine ⟨by cases hv; rfl, hs.os, hs.tape, hs.output, hs.size, fun kk hkk => ?_⟩
  by_cases h00 : kk = 0
  · subst h00
    obtain ⟨A, hA, cc, fr, g1, g2, g3, ⟨_, g4⟩, g5, g6⟩ := hs.hr.live 0 _ hroot
    have hA2 := hs.sub 0 _ γ0
    rw [hA] at hA2
    cases hA2
    have hfr : fr = (0, 0) := by
      rcases g3 with g3 | ⟨g3, _⟩
      · exact g3
      · cases g3
    subst hfr
    have g2' : cc.size = 2 := g2
    obtain ⟨x0, y0, y1⟩ := g6 0 _ rfl
    obtain ⟨x1, y2, y3⟩ := g6 1 _ rfl
    cases y1
    cases y3
    have hcc : cc = #[.int .u16 0, .int .u32 0] := by
      refine Array.ext (by simpa using g2') fun i q1 q2 => ?_
      match i with
      | 0 =>
        have := (Array.getElem?_eq_some_iff.1 y0).2
        simpa using this
      | 1 =>
        have := (Array.getElem?_eq_some_iff.1 y2).2
        simpa using this
      | i + 2 => exact absurd q1 (by rw [g2']; omega)
    rw [hR]
    show w'.heap[0]? = _
    rw [g1, hcc]
    rfl
  · refine hs.frame kk hkk fun b o A hb hwr hA e => ?_
    rcases HW_cases hb with ⟨rfl, ho⟩ | ⟨rfl, ho⟩ | ⟨rfl, rfl⟩
    · rw [oRo_wr ho] at hwr; cases hwr
    · rw [oRo_wr ho] at hwr; cases hwr
    · rw [γ0] at hA; cases hA
      exact h00 e.symm
end Go.AM.Seat
