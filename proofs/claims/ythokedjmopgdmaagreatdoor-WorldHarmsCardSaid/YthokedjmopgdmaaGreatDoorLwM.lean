/- A part of the proof that WorldHarms answers true at every input: a part of the walk of the law WorldHarms. -/
import Derived.Test.YthokedjmopgdmaaGreatDoorLwK
import Derived.Test.YthokedjmopgdmaaGreatDoorA29L4
set_option linter.all false
section
/- WorldHarms: the law's last region, in any order. -/
set_option maxRecDepth 100000
namespace Go.AM.Seat
open Go.Proofs

theorem chkPair_val {T : Tab} {ops : Array Oper} {tr : List (Env × AHeap)} {i s : Nat} {o : Oper} {e e2 : Env} {H H2 : AHeap} {v : Value} (ho : ops[i]? = some o) (hi : tr[i]? = some (e, H)) (hs : tr[s]? = some (e2, H2))
    (h : valA T (evA e) o = some v) : chkPair T ops tr (i, s) = true := by
  unfold chkPair
  simp only [ho, hi, hs, h]
  cases Region.wanted o (yielded ops e) <;> rfl

theorem la6_range : List.range la6.size = [0, 1, 2, 3, 4, 5, 6, 7, 8, 9, 10, 11, 12, 13, 14, 15, 16, 17, 18, 19, 20, 21, 22, 23] := by kernel_rfl
theorem pl36_pairs : pl3_6.pairs = [(13, 3), (13, 0), (11, 3), (11, 0), (9, 3), (9, 0), (7, 3), (7, 0), (3, 15)] := by kernel_rfl
theorem pl36_news : pl3_6.news = [(2, 5)] := by kernel_rfl

noncomputable abbrev q6_3 : Oper := ⟨some 22, .convert 22 9 (.tmp 21), (operOf la6 3).type, (operOf la6 3).pos, (operOf la6 3).after, none⟩
theorem q6_3_at : la6[3]? = some q6_3 := by kernel_rfl
noncomputable abbrev q6_7 : Oper := ⟨some 26, .load 3 (.tmp 25), (operOf la6 7).type, (operOf la6 7).pos, (operOf la6 7).after, none⟩
theorem q6_7_at : la6[7]? = some q6_7 := by kernel_rfl
noncomputable abbrev q6_9 : Oper := ⟨some 28, .load 3 (.tmp 27), (operOf la6 9).type, (operOf la6 9).pos, (operOf la6 9).after, none⟩
theorem q6_9_at : la6[9]? = some q6_9 := by kernel_rfl
noncomputable abbrev q6_11 : Oper := ⟨some 30, .load 23 (.tmp 29), (operOf la6 11).type, (operOf la6 11).pos, (operOf la6 11).after, none⟩
theorem q6_11_at : la6[11]? = some q6_11 := by kernel_rfl
noncomputable abbrev q6_13 : Oper := ⟨some 32, .load 22 (.tmp 31), (operOf la6 13).type, (operOf la6 13).pos, (operOf la6 13).after, none⟩
theorem q6_13_at : la6[13]? = some q6_13 := by kernel_rfl

section
variable (K : Kall) (z : Nat → Value) (l m : List UInt8) (k a b : Int) (vb vm vT vE : Value) (r : List UInt8) (HT HE : AHeap)

def tr6 : List (Env × AHeap) := [(ev6 z l k a b vb vm vT vE r HT 0, (HL l m k a b vm)), (ev6 z l k a b vb vm vT vE r HT 1, (HL l m k a b vm)), (ev6 z l k a b vb vm vT vE r HT 2, (HL l m k a b vm)), (ev6 z l k a b vb vm vT vE r HT 3, HT), (ev6 z l k a b vb vm vT vE r HT 4, HT), (ev6 z l k a b vb vm vT vE r HT 5, HT), (ev6 z l k a b vb vm vT vE r HT 6, (HC HT l)), (ev6 z l k a b vb vm vT vE r HT 7, (HC HT l)), (ev6 z l k a b vb vm vT vE r HT 8, (HC HT l)), (ev6 z l k a b vb vm vT vE r HT 9, (HC HT l)), (ev6 z l k a b vb vm vT vE r HT 10, (HC HT l)), (ev6 z l k a b vb vm vT vE r HT 11, (HC HT l)), (ev6 z l k a b vb vm vT vE r HT 12, (HC HT l)), (ev6 z l k a b vb vm vT vE r HT 13, (HC HT l)), (ev6 z l k a b vb vm vT vE r HT 14, (HC HT l)), (ev6 z l k a b vb vm vT vE r HT 15, HE), (ev6 z l k a b vb vm vT vE r HT 16, HE), (ev6 z l k a b vb vm vT vE r HT 17, HE), (ev6 z l k a b vb vm vT vE r HT 18, HE), (ev6 z l k a b vb vm vT vE r HT 19, HE), (ev6 z l k a b vb vm vT vE r HT 20, HE), (ev6 z l k a b vb vm vT vE r HT 21, HE), (ev6 z l k a b vb vm vT vE r HT 22, HE), (ev6 z l k a b vb vm vT vE r HT 23, HE), (ev6 z l k a b vb vm vT vE r HT 24, HE)]

theorem tr6_ok (hT : K 5 [vH k a b vm, vb] (HL l m k a b vm) = some (vT, HT)) (hE : K 6 [vB HT.next l, i64 k, i64 a, u32 b, vm] (HC HT l) = some (vE, HE)) (sT : SB HT vT r) (sE : SB HE vE r) (sB : SB HE vb l)
    (bC : (HC HT l).get 1 = some (.cells [i64 k, i64 a, u32 b, vm] 25 ⟨false, true⟩)) (hl : l.length ≤ 1000000) :
    traceA T00 K la6 (List.range la6.size) (mkE 42 [(0, vb), (3, p1), (5, wB l)] z) (HL l m k a b vm) = some (tr6 z l m k a b vb vm vT vE r HT HE) := by
  rw [la6_range]
  show traceA T00 K la6 _ (ev6 z l k a b vb vm vT vE r HT 0) _ = _

  exact (traceA_cons (s6_0) (traceA_cons (s6_1) (traceA_cons (s6_2 hT) (traceA_cons (s6_3 sT) (traceA_cons (s6_4) (traceA_cons (s6_5 hl) (traceA_cons (s6_6) (traceA_cons (s6_7 bC) (traceA_cons (s6_8) (traceA_cons (s6_9 bC) (traceA_cons (s6_10) (traceA_cons (s6_11 bC) (traceA_cons (s6_12) (traceA_cons (s6_13 bC) (traceA_cons (s6_14 hE) (traceA_cons (s6_15 sE) (traceA_cons (s6_16) (traceA_cons (s6_17) (traceA_cons (s6_18) (traceA_cons (s6_19 sB) (traceA_cons (s6_20) (traceA_cons (s6_21) (traceA_cons (s6_22) (traceA_cons (s6_23) rfl))))))))))))))))))))))))

theorem rd_load {H : AHeap} {bx : List Value} {e : Env} {v : Value} {t q d s : Nat} {ty : TypeId} {pos : String} {af : Array Edge} {g : Option (Nat × Bool)} (hb : H.get 1 = some (.cells bx 25 ⟨false, true⟩)) (ht : T00.agg t = some false) (hv : bx[q]? = some v)
    (he : evA e (.tmp s) = vP 1 q) : readA T00 H (evA e) ⟨some d, .load t (.tmp s), ty, pos, af, g⟩ = some v := by
  simp only [readA, he]
  exact field_at hb ht hv

/-- Region 6, in any order. -/
theorem la_r6 (hT : K 5 [vH k a b vm, vb] (HL l m k a b vm) = some (vT, HT)) (hE : K 6 [vB HT.next l, i64 k, i64 a, u32 b, vm] (HC HT l) = some (vE, HE)) (sT : SB HT vT r) (sE : SB HE vE r) (sB : SB HE vb l)
    (bT : HT.get 1 = some (.cells [i64 k, i64 a, u32 b, vm] 25 ⟨false, true⟩)) (bC : (HC HT l).get 1 = some (.cells [i64 k, i64 a, u32 b, vm] 25 ⟨false, true⟩)) (sT2 : SB HE vT r) (nx : 1307 ≤ HT.next ∧ HT.next ≤ 1309)
    (hv : veq 4 vm vm = true) (hl : l.length ≤ 1000000) :
    drawA T00 K pl3_6 la6 (mkE 42 [(0, vb), (3, p1), (5, wB l)] z) (HL l m k a b vm) = some (ev6 z l k a b vb vm vT vE r HT 24, HE) := by
  have b0 : (HL l m k a b vm).get 1 = some (.cells [i64 k, i64 a, u32 b, vm] 25 ⟨false, true⟩) := by kernel_rfl
  refine drawA_tr (tr6_ok K z l m k a b vb vm vT vE r HT HE hT hE sT sE sB bC hl) (fun p hp => ?_) (fun p hp => ?_) rfl
  · rw [pl36_pairs] at hp
    simp only [List.mem_cons, List.not_mem_nil, or_false] at hp
    rcases hp with rfl | rfl | rfl | rfl | rfl | rfl | rfl | rfl | rfl
    · exact chkPair_of (v := vm) q6_13_at rfl rfl (rd_load (q := 3) bT agg22 rfl (by kernel_rfl)) (rd_load (q := 3) bC agg22 rfl (by kernel_rfl)) hv
    · exact chkPair_of (v := vm) q6_13_at rfl rfl (rd_load (q := 3) b0 agg22 rfl (by kernel_rfl)) (rd_load (q := 3) bC agg22 rfl (by kernel_rfl)) hv
    · exact chkPair_of (v := u32 b) q6_11_at rfl rfl (rd_load (q := 2) bT agg23 rfl (by kernel_rfl)) (rd_load (q := 2) bC agg23 rfl (by kernel_rfl)) (by simp [veq, i64, u32])
    · exact chkPair_of (v := u32 b) q6_11_at rfl rfl (rd_load (q := 2) b0 agg23 rfl (by kernel_rfl)) (rd_load (q := 2) bC agg23 rfl (by kernel_rfl)) (by simp [veq, i64, u32])
    · exact chkPair_of (v := i64 a) q6_9_at rfl rfl (rd_load (q := 1) bT agg3 rfl (by kernel_rfl)) (rd_load (q := 1) bC agg3 rfl (by kernel_rfl)) (by simp [veq, i64, u32])
    · exact chkPair_of (v := i64 a) q6_9_at rfl rfl (rd_load (q := 1) b0 agg3 rfl (by kernel_rfl)) (rd_load (q := 1) bC agg3 rfl (by kernel_rfl)) (by simp [veq, i64, u32])
    · exact chkPair_of (v := i64 k) q6_7_at rfl rfl (rd_load (q := 0) bT agg3 rfl (by kernel_rfl)) (rd_load (q := 0) bC agg3 rfl (by kernel_rfl)) (by simp [veq, i64, u32])
    · exact chkPair_of (v := i64 k) q6_7_at rfl rfl (rd_load (q := 0) b0 agg3 rfl (by kernel_rfl)) (rd_load (q := 0) bC agg3 rfl (by kernel_rfl)) (by simp [veq, i64, u32])
    · rcases sT with ⟨h1, h2⟩ | ⟨b', o', c', h1, h2⟩
      · subst h1 h2
        exact chkPair_val (v := wB []) q6_3_at rfl rfl (by kernel_rfl)
      · have e : evA (ev6 z l k a b vb vm vT vE r HT 3) (.tmp 21) = vT := by kernel_rfl
        refine chkPair_of (v := wB r) q6_3_at rfl rfl (readA_text und9 ?_) (readA_text und9 ?_) (by simp [veq, wB])
        · rw [e]; exact text_of sT2
        · rw [e]; exact text_of (.inr ⟨b', o', c', h1, h2⟩)
  · rw [pl36_news] at hp
    simp only [List.mem_cons, List.not_mem_nil, or_false] at hp
    subst hp
    suffices key : (HL l m k a b vm).get HT.next = none from chkNew_of rfl rfl key
    obtain ⟨n1, n2⟩ := nx
    have : HT.next = 1307 ∨ HT.next = 1308 ∨ HT.next = 1309 := by omega
    have k1 : (HL l m k a b vm).get 1307 = none := by kernel_rfl
    have k2 : (HL l m k a b vm).get 1308 = none := by kernel_rfl
    have k3 : (HL l m k a b vm).get 1309 = none := by kernel_rfl
    rcases this with h | h | h <;> rw [h] <;> assumption
end
end Go.AM.Seat
end

section
/- WorldHarms: the law in the abstract machine. -/
set_option maxRecDepth 100000
namespace Go.AM.Seat
open Go.Proofs

theorem anchor3 : MOk T3 4 m0 := MOk.of (callA_ok T3_good RR NN) m0_ok
theorem anchor0 : MOk T00 4 m0 := ⟨anchor3.next, anchor3.ok⟩

theorem HB_cases {N : Nat} {bx : List Value} {l m : List UInt8} {b : Nat} {o : AObj} (h : (HB N bx l m).get b = some o) :
    (b = bm ∧ oRo m = some o) ∨ (b = bb ∧ oRo l = some o) ∨ (b = 1 ∧ o = .cells bx 25 ⟨false, true⟩) ∨ (b = 0 ∧ o = oRoot) := by
  unfold HB AHeap.get at h
  simp only [Tr.get_set] at h
  split at h
  · exact .inl ⟨by assumption, h⟩
  · split at h
    · exact .inr (.inl ⟨by assumption, h⟩)
    · split at h
      · cases h; exact .inr (.inr (.inl ⟨by assumption, rfl⟩))
      · split at h
        · cases h; exact .inr (.inr (.inr ⟨by assumption, rfl⟩))
        · cases h

/-- The anchor, beside what came in. -/
theorem anchor_memo (bx : List Value) (l m : List UInt8) : MOk T00 4 ⟨[], HA bx l m, .bool true, HB N0 bx l m⟩ := by
  have h : MOk T00 4 ⟨m0.args, HA bx l m, m0.v, HB N0 bx l m⟩ := by
    refine anchor0.extend (fun b o hb => trSub_get (show trSub m0.H.objs (HA bx l m).objs = true by kernel_rfl) b o hb) (by kernel_rfl) (by kernel_rfl) fun b o hb => ?_
    rcases HB_cases hb with ⟨rfl, h⟩ | ⟨rfl, h⟩ | ⟨rfl, rfl⟩ | ⟨rfl, rfl⟩
    · exact .inr ⟨by kernel_rfl, by kernel_rfl, (show (HA bx l m).get bm = oRo m by kernel_rfl).trans h⟩
    · exact .inr ⟨by kernel_rfl, by kernel_rfl, (show (HA bx l m).get bb = oRo l by kernel_rfl).trans h⟩
    · exact .inr ⟨by kernel_rfl, by kernel_rfl, by kernel_rfl⟩
    · exact .inl (by kernel_rfl)
  exact h

theorem SB.same {H H' : AHeap} {v : Value} {l : List UInt8} (h : SB H v l) (hg : ∀ b o n c, v = vL b o n c → H'.get b = H.get b) : SB H' v l := by
  rcases h with h | ⟨b, o, c, rfl, h⟩
  · exact .inl h
  · refine .inr ⟨b, o, c, rfl, fun hl => ?_⟩
    have := h hl
    unfold ldN at this ⊢
    rw [hg b o _ c rfl]
    exact this

/-- The law. -/
theorem law_memo (l m : List UInt8) (k a : Int) (B : Nat) (hB : B < 4294967296) (vb vm : Value) (hvb : inS bb vb l) (hvm : inS bm vm m) :
    ∃ H', MOk T00 3 ⟨[vb, vH k a (Int.ofNat B) vm], HW l m, .bool true, H'⟩ ∧ H'.get 0 = some oRoot ∧ H'.next ≤ 2000 := by
  have he : Fr ([vb, vH k a (Int.ofNat B) vm].toArray ++ Array.replicate (Tryz.f3.ntmps - [vb, vH k a (Int.ofNat B) vm].length) undef) 42 [(0, vb), (1, vH k a (Int.ofNat B) vm)] := ⟨by kernel_rfl, by kernel_rfl, by kernel_rfl, trivial⟩
  have hA := anchor_memo [i64 k, i64 a, u32 (Int.ofNat B), vm] l m
  have gB : (HL l m k a (Int.ofNat B) vm).get bb = oRo l := by kernel_rfl
  have gM : (HL l m k a (Int.ofNat B) vm).get bm = oRo m := by kernel_rfl
  have g0 : (HL l m k a (Int.ofNat B) vm).get 0 = some oRoot := by kernel_rfl
  obtain ⟨q1, c1, e1⟩ := (hvb.sb gB).len
  obtain ⟨q2, c2, e2⟩ := (hvm.sb gM).len
  -- the first regions, with a machine that knows the anchor
  have first : ∀ {K : Kall} {ax : AX} {n : Nat} {gs : List (Nat × Value)} {H' : AHeap}, K 4 [] (HA [i64 k, i64 a, u32 (Int.ofNat B), vm] l m) = some (.bool true, HL l m k a (Int.ofNat B) vm) →
      (∀ z, EvF T00 K 3 .plain la3c (mkE 42 [(0, vb), (3, p1)] z) (HL l m k a (Int.ofNat B) vm) ax n gs H') →
      EvF T00 K 3 .plain laCode ([vb, vH k a (Int.ofNat B) vm].toArray ++ Array.replicate (Tryz.f3.ntmps - [vb, vH k a (Int.ofNat B) vm].length) undef) (HW l m) ax n gs H' := by
    intro K ax n gs H' hK h
    rw [he.eq]
    refine EvF.seq (EvF.reg (la_r0 K l m k a (Int.ofNat B) vm vb _)) fun z => ?_
    exact EvF.seq (n := 42) (fs := [(0, vb), (3, p1)]) (H1 := HL l m k a (Int.ofNat B) vm) (EvF.seq (EvF.reg (la_r1 K l m k a (Int.ofNat B) vm vb _ hK z)) fun z => EvF.false (by kernel_rfl) (EvF.same Ev.skip ⟨by kernel_rfl, by kernel_rfl, by kernel_rfl, trivial⟩)) h
  have fin : ∀ {K : Kall} {H' : AHeap}, KOk T00 K → EvF T00 K 3 .plain laCode ([vb, vH k a (Int.ofNat B) vm].toArray ++ Array.replicate (Tryz.f3.ntmps - [vb, vH k a (Int.ofNat B) vm].length) undef) (HW l m) .ret 42 [(4, .bool true)] H' →
      MOk T00 3 ⟨[vb, vH k a (Int.ofNat B) vm], HW l m, .bool true, H'⟩ := by
    intro K H' hK h
    obtain ⟨e', h', f'⟩ := h
    have hr : resA T00 H' e' Tryz.f3.results.toList = some [.bool true] := by
      show some [e'.getD 4 undef] = _
      rw [f'.sl.1]
    exact MOk.ev T00_good hK (T := T00) (fn := Tryz.f3) (args := [vb, vH k a (Int.ofNat B) vm]) Tryz.func3 la_body la_ok h' (.inr rfl) hr
  have h3 := fun K z => la_r3 K l m k a (Int.ofNat B) q1 q2 l.length c1 m.length c2 z
  simp only [← e1, ← e2] at h3
  by_cases hbig : 1000 < l.length ∨ 1000 < m.length
  · have ht : (decide (1000 < l.length) || decide (1000 < m.length)) = true := by simpa using hbig
    rw [ht] at h3
    refine ⟨HL l m k a (Int.ofNat B) vm, fin (kIf_ok hA K0_ok) (first (kIf_hit 4 _ K0) fun z => EvF.out (EvF.seq (EvF.reg (h3 _ z)) fun z => EvF.true (by kernel_rfl) ?_) (by intro h; cases h)), g0, by show 1306 ≤ 2000; omega⟩
    refine EvF.re (n := 42) (gs := []) (by kernel_rfl) trivial fun z => ?_
    exact EvF.seq (EvF.reg (la_r4 _ _ z)) fun z => EvF.same Ev.ret ⟨by kernel_rfl, by kernel_rfl, trivial⟩
  · have ht : (decide (1000 < l.length) || decide (1000 < m.length)) = false := by
      rw [Bool.or_eq_false_iff, decide_eq_false_iff_not, decide_eq_false_iff_not]
      exact ⟨fun h => hbig (.inl h), fun h => hbig (.inr h)⟩
    rw [ht] at h3
    have hl : l.length ≤ 1000 := by omega
    have hm : m.length ≤ 1000 := by omega
    obtain ⟨vT, HT, hT, oT⟩ := to_memo [i64 k, i64 a, u32 (Int.ofNat B), vm] l m k a (Int.ofNat B) vm vb hvb hvm hl hm
    have nbb : bb ≠ HT.next ∧ bb ≠ HT.next + 1 ∧ bb ≠ HT.next + 2 := by have := oT.nx; unfold bb; omega
    have nbm : bm ≠ HT.next ∧ bm ≠ HT.next + 1 ∧ bm ≠ HT.next + 2 := by have := oT.nx; unfold bm; omega
    have hC : ∀ nm, nm ≠ HT.next → (HC HT l).get nm = HT.get nm := fun nm h => by unfold HC; rw [AHeap.get_new, if_neg h]
    have hCn : (HC HT l).next = HT.next + 1 := rfl
    have sM : SB (HC HT l) vm m := hvm.sb (by rw [hC _ nbm.1]; exact oT.gm)
    have sM2 : SB (HN (HC HT l) l) vm m := hvm.sb (by rw [keepN _ _ _ (by rw [hCn]; exact nbm.2.1), hC _ nbm.1]; exact oT.gm)
    obtain ⟨vE, HE, hE, oE⟩ := ha_memo (HC HT l) HT.next ⟨true, false⟩ l m k a B hB vm (by unfold HC; rw [AHeap.get_new, if_pos rfl]) sM sM2 hl hm
    have hEk : ∀ nm, nm ≠ HT.next → nm ≠ HT.next + 1 → nm ≠ HT.next + 2 → HE.get nm = HT.get nm := fun nm n0 n1 n2 => by
      rw [oE.keep nm (by rw [hCn]; exact n1) (by rw [hCn]; omega), hC nm n0]
    have nx := oT.nx
    refine ⟨HE, fin (kIf_ok hA (kIf_ok hT (kIf_ok hE K0_ok))) (first (kIf_hit 4 _ _) fun z => ?_), by rw [hEk 0 (by omega) (by omega) (by omega)]; exact oT.root, by have := oE.nx; rw [hCn] at this; omega⟩
    refine EvF.seq (n := 42) (fs := [(0, vb), (3, p1)]) (H1 := HL l m k a (Int.ofNat B) vm) (EvF.seq (EvF.reg (h3 _ z)) fun z => EvF.false (by kernel_rfl) (EvF.same Ev.skip ⟨by kernel_rfl, by kernel_rfl, by kernel_rfl, trivial⟩)) fun z => ?_
    refine EvF.seq (EvF.reg (la_r5 _ l m k a (Int.ofNat B) vb vm (hvb.sb gB) z)) fun z => ?_
    have hv : veq 4 vm vm = true := by rw [e2]; simp [veq]
    have h6 := la_r6 (kIf 4 ⟨[], HA [i64 k, i64 a, u32 (Int.ofNat B), vm] l m, .bool true, HB N0 [i64 k, i64 a, u32 (Int.ofNat B), vm] l m⟩ (kIf 5 ⟨[vH k a (Int.ofNat B) vm, vb], HB N0 [i64 k, i64 a, u32 (Int.ofNat B), vm] l m, vT, HT⟩
        (kIf 6 ⟨[vB HT.next l, i64 k, i64 a, u32 (Int.ofNat B), vm], HC HT l, vE, HE⟩ K0))) z l m k a (Int.ofNat B) vb vm vT vE (harm k a (Int.ofNat B) l m) HT HE
      ((kIf_miss (by decide)).trans (kIf_hit 5 _ _)) ((kIf_miss (by decide)).trans ((kIf_miss (by decide)).trans (kIf_hit 6 _ _))) oT.sb oE.sb
      (hvb.sb (by rw [hEk _ nbb.1 nbb.2.1 nbb.2.2]; exact oT.gb)) oT.box (by rw [hC 1 (by omega)]; exact oT.box)
      (oT.sb.same fun b' o' n' c' hb => by
        have := oT.low b' o' n' c' hb
        exact hEk b' (by omega) (by omega) (by omega)) oT.nx hv (by omega)
    exact EvF.seq (n := 42) (fs := [(4, .bool true)]) ⟨_, Ev.draw pl36 h6, by kernel_rfl, by kernel_rfl, trivial⟩ fun z => EvF.same Ev.ret ⟨by kernel_rfl, by kernel_rfl, trivial⟩
end Go.AM.Seat
end

