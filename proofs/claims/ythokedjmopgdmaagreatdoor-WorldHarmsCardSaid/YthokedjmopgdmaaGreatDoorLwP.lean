/- A part of the proof that WorldHarms answers true at every input: a part of the walk of the law WorldHarms. -/
import Derived.Test.YthokedjmopgdmaaGreatDoorLwO
import Derived.Test.YthokedjmopgdmaaGreatDoorLwR
import Derived.Test.YthokedjmopgdmaaGreatDoorTie
import Derived.Test.YthokedjmopgdmaaGreatDoorCards
import Derived.ChangeSame
import Derived.ChangeVars
import Derived.JoinedOf
import Derived.RowKit
import Derived.LaidLaws
import Derived.LaidHandle
import Derived.LaidMore
import Derived.MakeChecks
import Derived.ProofKit
import Derived.OpenShut
import Derived.Carry
import Derived.Handed
import Derived.Stop.Joined
import Derived.Lib.SmallJoins
import Derived.SevenTiedAt
set_option linter.all false
section
/- WorldHarms: the row, and its tied card. -/
namespace Go.Proofs.YthokedjmopgdmaaGreatDoor
open Go.Joins Go.ChangeShapes Go.WideShapes Go.ChangeAt Go.RowKit Go.AM.Seat
set_option linter.unusedVariables false
set_option maxRecDepth 100000

theorem own : ownKnob Tryz.prog.godebug = none := by kernel_rfl
theorem laidOut : laidOutB Tryz.prog = true := by kernel_rfl
theorem gRoot : Tryz.prog.globalNamed "copyist/ident.root" = some 0 := by kernel_rfl
theorem tRoot : (Tryz.prog.globals[0]?).map (·.type) = some 108 := by kernel_rfl
theorem gSize : Tryz.prog.globals.size = 1 := by kernel_rfl
theorem row0 : ((begin Tryz.prog (fun _ _ => 0) default).world.heap[0]?).bind Obj.row? = some (#[.int .u16 0, .int .u32 0], 108) := by kernel_rfl

/-- The one listed variable. -/
def laid : List (String × DataW Unit) := [("copyist/ident.root", Rows.laid_copyist_ident_root)]

/-- What the condition gives: the variable's block. -/
theorem root_of {W : World} (hS : W.ShapedOpen Tryz.prog) (hL : laidMetH Tryz.prog laid W) : W.heap[0]? = some rootObj := by
  obtain ⟨cs, hh, hsz, _⟩ := hS.1 0 _ 108 (by rw [gSize]; omega) row0
  rw [MakeChecks.laidMetH_plain _ _ _ (by kernel_rfl)] at hL
  obtain ⟨ps, ⟨g0, t0, cs0, f0, p0, q0, hg0, ht0, hv0, hd0, _, _⟩, _, _⟩ := hL
  obtain rfl := Option.some.inj (gRoot.symm.trans hg0)
  obtain rfl := Option.some.inj (tRoot.symm.trans ht0)
  have hcs : cs0 = cs := by
    unfold World.var? at hv0
    rw [gRoot] at hv0
    simp only [Option.bind_some, hh] at hv0
    exact (Option.some.inj hv0).symm
  subst hcs
  have c52 : Tryz.prog.cellsOf 52 = 1 := by kernel_rfl
  have c23 : Tryz.prog.cellsOf 23 = 1 := by kernel_rfl
  have c108 : Tryz.prog.cellsOf 108 = 2 := by kernel_rfl
  obtain ⟨y0, y1, n, hx, hl, h0, h1⟩ := trod_struct2 Tryz.underlying108 hd0
  obtain ⟨n0, e0, r0, _⟩ := DataW.trod_int Tryz.underlying52 h0
  obtain ⟨n1, e1, r1, _⟩ := DataW.trod_int Tryz.underlying23 h1
  rw [c108] at hl
  obtain ⟨l⟩ := cs0
  match l, hl with
  | [x0, x1], _ =>
    simp only [c52, c23] at e0 e1
    simp at e0 e1
    subst e0 e1
    simp only [Rows.laid_copyist_ident_root, Prod.mk.injEq, DataW.agg.injEq, List.cons.injEq] at hx
    rw [r0, r1] at hx
    have a0 : (0 : Int) = n0 := by simpa using hx.1.1
    have a1 : (0 : Int) = n1 := by simpa using hx.1.2
    subst a0 a1
    exact hh

section
variable {H : Type} {enc : TypeId × Value → H}

/-- The builder of the worked texts, that hands on that the world is shaped. -/
theorem returnsInHanded_shaped {a : Assume} {C : Checked} {os : Os} {f : FuncId} {fn : Func} {s : ChangeSpec} {conds : List PathCond} {apart fresh handsOn again : Bool} {X : World → Array Value → Prop}
    (hX : ∀ (w w' : World) (args : Array Value), w.heap = w'.heap → X w args → X w' args)
    (own : ownKnob C.prog.godebug = none) (started : os.Started) (noInit : C.prog.inits.idxOf? f = none) (hfn : C.prog.funcs[f]? = some fn)
    (witness : ∃ (w : World) (tape : Tape) (i : Input), w.os = os ∧ (w.forCall tape i).Shaped C.prog ∧ i.vars = [] ∧ Input.okWide C.prog (w.forCall tape i) .any w.heap.size f i ∧
      ((s.pre enc C.prog fn conds apart (w.forCall tape i).memory i.args ∧ X (w.forCall tape i).memory i.args) ∧ sizedMet enc C.prog fn (OpenSpec.ofChange s) apart (w.forCall tape i).memory i.args) ∧ a.holds C.prog (lone (Frame.enter C.prog f i.args .normal) [] (w.forCall tape i)))
    (contract : ∀ (W : World) (base : Nat) (args : Array Value) (ds gs : List (DataW H)) (before : List MemPlace), W.ShapedOpen C.prog →
      (∀ (j : Nat) t v, fn.params[j]? = some t → args[j]? = some v → Value.okWide C.prog W .any base t v) →
      DataW.Whole enc C.prog fn.params.toList s.vars apart W args.toList ds gs before → X W args →
      Calls C.prog f args W fun e W' => ∃ v, e = .returned v ∧ s.post enc C.prog fn apart fresh handsOn again W args v W') :
    ReturnsInHanded a C os f .any (fun w args => (s.pre enc C.prog fn conds apart w args ∧ X w args) ∧ sizedMet enc C.prog fn (OpenSpec.ofChange s) apart w args) (s.post enc C.prog fn apart fresh handsOn again) := by
  refine returnsInHanded_of_calls own started noInit witness ?_
  intro w tape i _ hsh _ hok hpre hholds
  obtain ⟨_, _, _, fn', hfn', _, _, _, _, hval⟩ := hok
  have e : fn' = fn := Option.some.inj (hfn'.symm.trans hfn)
  subst e
  obtain ⟨⟨⟨ds, gs, before, hw, hc⟩, hx⟩, hz⟩ := hpre
  have hw' := DataW.Whole.of_heap (w' := w.forCall tape i) (by rfl) hw
  refine (contract (w.forCall tape i) w.heap.size i.args ds gs before hsh hval hw' (hX _ _ _ (by rfl) hx)).mono fun e W' ⟨v, he, hp⟩ => ?_
  subst he
  exact ChangeSpec.post_blind hp
end

theorem door_met (os : Os) (args : Array Value) : laidMetH Tryz.prog laid ((World.holding Tryz.prog os ⟨#[], #[], []⟩).forCall (fun _ _ => 0) ⟨#[], args, []⟩).memory :=
  laidMetH_of_parts3 (fuel := 8) (laidMet_of_run' 8 (by kernel_rfl) (by kernel_rfl)) (by kernel_rfl) (by kernel_rfl)

/-- A row of bytes, opened. -/
theorem row_of {H : Type} {enc : TypeId × Value → H} {W : World} {v : Value} {n : Nat} {y : DataW H × List MemPlace} (h : DataW.trod enc Tryz.prog W 0 (fun _ => true) true n 22 [v] = some y) :
    ∃ a len cap zs, v = .slice a len cap ∧ IsRow W a len cap zs := by
  rcases open_ints Tryz.underlying22 Tryz.underlying5 (by kernel_rfl) h with ⟨hcs, _⟩ | ⟨x, l, c, zs, hcs, _, hl, hm, hz, _, hcell, hwz⟩
  · simp only [List.cons.injEq, and_true] at hcs
    exact ⟨none, 0, 0, [], hcs, .inl ⟨rfl, rfl, rfl, rfl⟩⟩
  · simp only [List.cons.injEq, and_true] at hcs
    exact ⟨some x, l, c, zs, hcs, .inr ⟨x, rfl, hl, by simpa using hz, hcell, hwz⟩⟩

theorem wf_u32 {n : Int} (h : (Lit.int .u32 n).wf = true) : 0 ≤ n ∧ n < 4294967296 := by
  have h1 : (decide (IntKind.min .u32 ≤ n) && decide (n ≤ IntKind.max .u32)) = true := h
  simp only [Bool.and_eq_true, decide_eq_true_eq] at h1
  have h2 : IntKind.min .u32 = 0 := by decide
  have h3 : IntKind.max .u32 = 4294967295 := by decide
  rw [h2, h3] at h1
  omega

set_option maxRecDepth 100000 in
theorem lifted (os : Os) (started : os.Started) (H : Type) (enc : TypeId × Value → H) :
    ReturnsInHanded {} Tryz.checked os 3 .any (fun w args => (Rows.worldHarmsSpec.pre enc Tryz.prog Tryz.f3 [] false w args ∧ laidMetH Tryz.prog laid w) ∧ sizedMet enc Tryz.prog Tryz.f3 (OpenSpec.ofChange Rows.worldHarmsSpec) false w args)
      (Rows.worldHarmsSpec.post enc Tryz.prog Tryz.f3 false true false false) := by
  refine returnsInHanded_shaped (C := Tryz.checked) (X := fun w _ => laidMetH Tryz.prog laid w) (fun _ _ _ hh h => h.of_heap hh) own started (by kernel_rfl) Tryz.func3
    (ChangeSpec.witness_at (enc := enc) (C := Tryz.checked) (os := os) (X := fun w _ => laidMetH Tryz.prog laid w) false (World.holding Tryz.prog os ⟨#[], #[], []⟩) #[.slice none 0 0, .agg #[.int .i64 0, .int .i64 0, .int .u32 0, .slice none 0 0]] 8 rfl (by kernel_rfl) (by kernel_rfl) (by kernel_rfl) (by kernel_rfl) (by kernel_rfl) (door_met os _)) ?_
  intro W base args ds gs before hS hval0 hW hL
  have hval : ∀ (j : Nat) t v, Tryz.f3.params[j]? = some t → args[j]? = some v → Value.okWide Tryz.prog W .any base t v := hval0
  have hW' := hW
  obtain ⟨p, q, hA0, hV, rfl, hfz, hnd⟩ := hW
  have hA : DataW.TrodAll enc Tryz.prog W 0 (fun _ => true) true Tryz.f3.params.toList args.toList ds p := hA0
  rw [Tryz.params3] at hA hval
  obtain ⟨v0, vs0, d0, ds0, p0, q0, hargs, rfl, rfl, h0, r0⟩ := trodAll_cons hA
  obtain ⟨v1, vs1, d1, ds1, p1, q1, rfl, rfl, rfl, h1, r1⟩ := trodAll_cons r0
  obtain ⟨rfl, rfl, rfl⟩ := trodAll_nil r1
  obtain rfl : args = #[v0, v1] := by cases args; simp_all
  obtain ⟨rfl, rfl⟩ := trodVars_none hV
  have hr := root_of hS hL
  have k0 := h0
  have k1 := h1
  have lt0 : ∀ x ∈ p0, x.block < W.heap.size := by obtain ⟨m, hm⟩ := k0; exact DataW.trod_lt m _ _ _ hm
  have lt1 : ∀ x ∈ p1, x.block < W.heap.size := by obtain ⟨m, hm⟩ := k1; exact DataW.trod_lt m _ _ _ hm
  obtain ⟨a0, len0, cap0, rfl⟩ := okWide_slice Tryz.underlying22 (hval 0 22 v0 rfl rfl)
  obtain ⟨m0, hm0⟩ := h0
  obtain ⟨a0', len0', cap0', z0, e0, i0⟩ := row_of (v := .slice a0 len0 cap0) (by simpa [Value.cells] using hm0)
  cases e0
  obtain ⟨x0, x1, x2, x3, y0, y1, y2, y3, n, rfl, rfl, rfl, g0, g1, g2, g3⟩ := open_agg4 Tryz.underlying25 (by kernel_rfl) (by kernel_rfl) (hval 1 25 v1 rfl rfl) h1
  obtain ⟨k, e1, _, _⟩ := DataW.trod_int Tryz.underlying3 g0
  obtain ⟨a, e2, _, _⟩ := DataW.trod_int Tryz.underlying3 g1
  obtain ⟨b, e3, _, wb⟩ := DataW.trod_int Tryz.underlying23 g2
  obtain ⟨a1, len1, cap1, z1, rfl, i1⟩ := row_of g3
  simp only [List.cons.injEq, and_true] at e1 e2 e3
  subst e1 e2 e3
  obtain ⟨hb0, hb1⟩ := wf_u32 wb
  refine (law_calls hr hb0 hb1 i0 i1).mono fun e W' ⟨he, bel⟩ => ?_
  subst he
  exact ⟨_, rfl, _, _, _, [], _, [], hW', trodAll_mk1 (shut_bool Tryz.underlying4 _),
    trodAll_cons_mk (Below.trod laidOut (by kernel_rfl) (of_decide_eq_true (by kernel_rfl)) k0 bel lt0) (trodAll_cons_mk (Below.trod laidOut (by kernel_rfl) (of_decide_eq_true (by kernel_rfl)) k1 bel lt1) trodAll_mk0), rfl, bel.frame _, fun h => by cases h⟩

end Go.Proofs.YthokedjmopgdmaaGreatDoor
end

section
/- WorldHarms: the row. -/
namespace Go.Proofs.YthokedjmopgdmaaGreatDoor
open Go
set_option maxRecDepth 100000
/-- The row. -/
theorem worldHarms_holds : Rows.WorldHarmsSaid :=
  OpenClaim.holds_of_wide 3 Tryz.f3 rfl rfl rfl rfl rfl rfl rfl ⟨rfl, rfl, rfl, rfl, rfl⟩ rfl rfl rfl rfl rfl (by kernel_rfl) Tryz.func3 closed
    (of_decide_eq_true (by kernel_rfl)) (by unfold Func.isWrapper; first | (rw [if_pos (by decide +kernel)]; kernel_rfl) | (rw [if_neg (by decide +kernel)]; exact ⟨rfl, rfl⟩))
    (fun os started H enc _ => lifted os started H enc)

end Go.Proofs.YthokedjmopgdmaaGreatDoor
end

