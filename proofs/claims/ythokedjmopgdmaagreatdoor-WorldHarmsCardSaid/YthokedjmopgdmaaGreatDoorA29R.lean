/- A part of the proof that WorldHarms answers true at every input: a part of the evaluation of the anchor. -/
import Derived.Test.YthokedjmopgdmaaGreatDoorA29Q
set_option linter.all false
/- The special memo, last part: the call holds in every world. -/
set_option maxRecDepth 100000
namespace Go.AM.Seat
open Go.Proofs

theorem o4_dst : o4.dst = some 30 := by rw [o4_eq]
theorem o6_dst : o6.dst = some 67 := by rw [o6_eq]
theorem und94 : T00.und 94 = some (.slice 209) := by kernel_rfl
theorem info209 : (T00.info 209).isSome = true := by kernel_rfl
theorem args_eq : mS1232.args = [vL 1219 0 1 (U + 1), .int .i64 (Int.ofNat 0), vL 1222 0 1 1] := by kernel_rfl

def Aim (γ : Gam) (w : World) (e : Ending) (w' : World) : Prop := ∃ γ' v', e = .returned v' ∧ VR γ' mS1232.v v' ∧ StepT T00 γ mS1232.H w γ' mS1232.H' w'

theorem insert_room {γ : Gam} {w : World} {args' : Array Value} (hr : HRT T00 γ HI w) (hf : Free γ HI.next mS1232.H'.next) (hl : VL γ argsB args'.toList) : Calls T00.P 137 args' w (Aim γ w) := by
  refine calls_of_wp (fn := Tryz.f137) Tryz.func137 body_eq ?_
  have he0 : VA γ e0 (args' ++ Array.replicate (Tryz.f137.ntmps - args'.size) undef) := VA.args hl Tryz.f137.ntmps
  refine part_same T00_good KK_ok c0_eq s0 ok0 hr he0 ?_
  intro a1 w1 γ1 he1 hs1 hd1
  refine part_same T00_good KK_ok c1_eq s1 ok1 hs1.hr he1 ?_
  intro a2 w2 γ2 he2 hs2 hd2
  refine part_same T00_good KK_ok c2_eq s2 ok2 hs2.hr he2 ?_
  intro a3 w3 γ3 he3 hs3 hd3
  refine part_same T00_good KK_ok c3_eq s3 ok3 hs3.hr he3 ?_
  intro a4 w4 γ4 he4 hs4 hd4
  refine part_same T00_good KK_ok c4_eq s4 ok4 hs4.hr he4 ?_
  intro a5 w5 γ5 he5 hs5 hd5
  refine part_same T00_good KK_ok c5_eq s5 ok5 hs5.hr he5 ?_
  intro a6 w6 γ6 he6 hs6 hd6
  -- region 8
  refine seq_ok c6_eq ?_
  refine seq_ok z6_eq ?_
  refine reg_ok r8_eq ops8_size ?_
  refine ops_step T00_good KK_ok t0 ops8_ok hs6.hr he6 ?_
  intro a7 w7 γ7 he7 hs7 hd7
  refine ops_step T00_good KK_ok t1 ops8_ok hs7.hr he7 ?_
  intro a8 w8 γ8 he8 hs8 hd8
  refine ops_step T00_good KK_ok t2 ops8_ok hs8.hr he8 ?_
  intro a9 w9 γ9 he9 hs9 hd9
  refine ops_step T00_good KK_ok t3 ops8_ok hs9.hr he9 ?_
  intro b0 x0 δ0 hb0 hz0 hq0
  have hcap := hb0.getD 29
  rw [f4_29] at hcap
  generalize hv29 : b0.tmps.getD 29 undef = v29 at hcap
  cases hcap with
  | slice k1 k2 k3 k4 =>
    rename_i c A
    have hc2 : 2 ≤ c := by
      unfold capOk at k2
      rw [if_neg (by omega)] at k2
      omega
    refine ops_hand o4_at (by rw [o4_eq]; rfl) (v' := goInt c) (by rw [o4_eq]; exact run_cap T00_ok und94 hv29 _) ?_
    have hb1 : VA δ0 (f5 c) (b0.put o4.dst (goInt c)).tmps := by
      rw [put_tmps, o4_dst]
      exact put_rel hb0 (.int _ _) (some 30)
    refine ops_step T00_good KK_ok (t5' c hc2) ops8_ok hz0.hr hb1 ?_
    intro b2 x2 δ2 hb2 hz2 hq2
    refine ops_nil ?_
    refine codeA_ok T00_good.ok T00_good.calls KK_ok RR (m := .plain) (s6 c) ok6 rfl hz2.hr (fun b h1 h2 => by omega) hb2 ?_
    rintro b3 x3 ⟨hq3, δ3, hb3, hz3⟩
    refine part_same T00_good KK_ok c7_eq (s7 c) ok7 hz3.hr hb3 ?_
    intro b4 x4 δ4 hb4 hz4 hq4
    -- region 14
    refine seq_ok c8_eq ?_
    refine seq_ok z8_eq ?_
    refine reg_ok r14_eq ops14_size ?_
    refine ops_step T00_good KK_ok (u0 c) ops14_ok hz4.hr hb4 ?_
    intro d0 y0 ε0 hd0 hy0 hp0
    refine ops_step T00_good KK_ok (u1 c) ops14_ok hy0.hr hd0 ?_
    intro d1 y1 ε1 hd1' hy1 hp1
    refine ops_step T00_good KK_ok (u2 c) ops14_ok hy1.hr hd1' ?_
    intro d2 y2 ε2 hd2' hy2 hp2
    refine ops_step T00_good KK_ok (u3 c) ops14_ok hy2.hr hd2' ?_
    intro d3 y3 ε3 hd3' hy3 hp3
    refine ops_step T00_good KK_ok (u4 c) ops14_ok hy3.hr hd3' ?_
    intro d4 y4 ε4 hd4' hy4 hp4
    refine ops_step T00_good KK_ok (u5 c) ops14_ok hy4.hr hd4' ?_
    intro d5 y5 ε5 hd5' hy5 hp5
    have hv := hd5'.getD 61
    rw [h6_61] at hv
    have hs := hd5'.getD 66
    rw [h6_66] at hs
    obtain ⟨inf, hinf⟩ := Option.isSome_iff_exists.1 info209
    refine ops_hand o6_at (by rw [o6_eq]; rfl) (v' := .bool false) (by
      rw [o6_eq]
      refine run_overlaps T00_good.ok hy5.hr rfl call197 und93 hinf hv hs (by decide) (by decide) (by decide) HI_1222 HI_1219 ?_
      intro h0
      have := HI_1219_nn
      rw [h0] at this
      cases this) ?_
    have hd6' : VA ε5 (h7 c) (d5.put o6.dst (.bool false)).tmps := by
      rw [put_tmps, o6_dst]
      exact put_rel hd5' (.bool _) (some 67)
    refine ops_step T00_good KK_ok (u7 c) ops14_ok hy5.hr hd6' ?_
    intro d7 y7 ε7 hd7' hy7 hp7
    refine ops_nil ?_
    refine codeA_ok T00_good.ok T00_good.calls KK_ok RR (m := .plain) (rr_eq c) ok8 rfl hy7.hr (fun b h1 h2 => by rw [HX_next, HI_next] at *; omega) hd7' ?_
    rintro a' w' ⟨hq', γ', hv', hs'⟩
    obtain ⟨v', r1, r2⟩ := results_ok T00_good.ok hs'.hr hv' (res_eq c)
    have hall := hs1.trans (hs2.trans (hs3.trans (hs4.trans (hs5.trans (hs6.trans (hs7.trans (hs8.trans (hs9.trans (hz0.trans (hz2.trans (hz3.trans (hz4.trans (hy0.trans (hy1.trans (hy2.trans (hy3.trans (hy4.trans (hy5.trans (hy7.trans hs')))))))))))))))))))
    obtain ⟨D, g1, g2⟩ := hall.hr.live 1219 _ HX_1219
    have hfr : γ' HX.next = none := by
      rw [hall.agree _ (.inr (Nat.le_refl _))]
      exact hf _ (by rw [HX_next, HI_next]; exact Nat.le_refl _) (by rw [HX_next, H'_next]; omega)
    have hmv := Step.rename hall.hr hfr HX_1219 g1
    refine ⟨?_, v', r1, _, v', rfl, ?_, hall.trans (hmv.trans (Step.drop hmv.hr ?_ fun b o hb => trSub_get H'_sub b o hb))⟩
    · show a'.defers = []
      simp [hq', hp7, put_defers', hp5, hp4, hp3, hp2, hp1, hp0, hq4, hq3, hq2, hq0, hd9, hd8, hd7, hd6, hd5, hd4, hd3, hd2, hd1]
    · rw [v_eq, ← HX_next]
      exact VR.renamed r2 g1 (by decide)
    · rw [H'_next, AHeap.next_new, AHeap.next_put, HX_next]

theorem mS1232_ok : MOk T00 137 mS1232 := by
  constructor
  · show HI.next ≤ _
    rw [HI_next, H'_next]; omega
  · intro γ w args' hr hf hl
    rw [args_eq] at hl
    have h0 := hl
    generalize hL : args'.toList = L at h0
    match L, h0 with
    | [], h0 => exact absurd h0.1 (by simp)
    | x :: r, h0 =>
      have hx := h0.2 0 _ _ rfl rfl
      have ht : VL γ [.int .i64 (Int.ofNat 0), vL 1222 0 1 1] r := ⟨by have := h0.1; simp at this ⊢; omega, fun i v v' p q => h0.2 (i + 1) v v' (by simpa using p) (by simpa using q)⟩
      cases hx with
      | slice k1 k2 k3 k4 =>
        rename_i c A
        have hc1 : 1 ≤ c := k4
        by_cases hc : c = 1
        · subst hc
          refine (mI1_ok.ok γ w args' hr hf ?_)
          rw [hL]
          exact VL.cons (.slice k1 (by unfold capOk; rw [if_pos (by unfold U; omega)]) k3 k4) ht
        · refine insert_room hr hf ?_
          rw [hL]
          exact VL.cons (.slice k1 (by unfold capOk; rw [if_neg (by omega)]; omega) k3 k4) ht
end Go.AM.Seat
