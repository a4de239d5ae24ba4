/- A part of the proof that WorldHarms answers true at every input: a part of the evaluation of the anchor. -/
import Derived.Test.YthokedjmopgdmaaGreatDoorA29P
set_option linter.all false
/- The special memo, second part. -/
set_option maxRecDepth 100000
namespace Go.AM.Seat
open Go.Proofs

noncomputable def st' (c : Code) (e : Env) : Option (AX × Env × AHeap) := codeA T00 KK 137 RR .plain (hdc c) e HI
noncomputable def e8 (c : Nat) : Env := nx (st c7 (f6 c))
theorem ok7 : codeOk T00 137 (hdc c7) = true := by kernel_rfl
theorem s7 (c : Nat) : normal (st c7 (f6 c)) HI = true := by kernel_rfl

/-! Region 14: slices.overlaps. -/
noncomputable def z8 : Code := hdc c8
noncomputable def ops14 : Array Oper := regOps (hdc z8)
theorem z8_eq : z8 = .seq (hdc z8) (tlc z8) := by kernel_rfl
theorem r14_eq : hdc z8 = .region 14 ops14 false := by kernel_rfl
theorem ops14_ok : ops14.toList.all (operOk T00.G) = true := by kernel_rfl
theorem ops14_size : List.range ops14.size = [0, 1, 2, 3, 4, 5, 6, 7] := by kernel_rfl
noncomputable def h1 (c : Nat) : Env := env1 (stepA T00 KK ops14 0 (e8 c) HI)
theorem u0 (c : Nat) : stepA T00 KK ops14 0 (e8 c) HI = some (h1 c, HI) := by kernel_rfl
noncomputable def h2 (c : Nat) : Env := env1 (stepA T00 KK ops14 1 (h1 c) HI)
theorem u1 (c : Nat) : stepA T00 KK ops14 1 (h1 c) HI = some (h2 c, HI) := by kernel_rfl
noncomputable def h3 (c : Nat) : Env := env1 (stepA T00 KK ops14 2 (h2 c) HI)
theorem u2 (c : Nat) : stepA T00 KK ops14 2 (h2 c) HI = some (h3 c, HI) := by kernel_rfl
noncomputable def h4 (c : Nat) : Env := env1 (stepA T00 KK ops14 3 (h3 c) HI)
theorem u3 (c : Nat) : stepA T00 KK ops14 3 (h3 c) HI = some (h4 c, HI) := by kernel_rfl
noncomputable def h5 (c : Nat) : Env := env1 (stepA T00 KK ops14 4 (h4 c) HI)
theorem u4 (c : Nat) : stepA T00 KK ops14 4 (h4 c) HI = some (h5 c, HI) := by kernel_rfl
noncomputable def h6 (c : Nat) : Env := env1 (stepA T00 KK ops14 5 (h5 c) HI)
theorem u5 (c : Nat) : stepA T00 KK ops14 5 (h5 c) HI = some (h6 c, HI) := by kernel_rfl
theorem h6_61 (c : Nat) : (h6 c).getD 61 undef = vL 1222 0 1 1 := by kernel_rfl
theorem h6_66 (c : Nat) : (h6 c).getD 66 undef = vL 1219 2 1 (U + 1) := by kernel_rfl
noncomputable def o6 : Oper := match ops14[6]? with
  | some o => o
  | none => ⟨none, .move (.tmp 0), 0, "", #[], none⟩
theorem o6_at : ops14[6]? = some o6 := by kernel_rfl
theorem o6_eq : o6 = ⟨some 67, .call ⟨.value (.func 197), #[.tmp 61, .tmp 66], #[93, 93]⟩, o6.type, o6.pos, o6.after, none⟩ := by kernel_rfl
noncomputable def h7 (c : Nat) : Env := putA (h6 c) (some 67) (.bool false)
noncomputable def h8 (c : Nat) : Env := env1 (stepA T00 KK ops14 7 (h7 c) HI)
theorem u7 (c : Nat) : stepA T00 KK ops14 7 (h7 c) HI = some (h8 c, HI) := by kernel_rfl

def cellsOf (H : AHeap) (b : Nat) : List Value × TypeId × Fl := match H.get b with
  | some (.cells c e st) => (c, e, st)
  | _ => ([], 0, ⟨false, false⟩)
theorem HI_1222 : HI.get 1222 = some (.cells (cellsOf HI 1222).1 (cellsOf HI 1222).2.1 ⟨false, (cellsOf HI 1222).2.2.ex⟩) := by kernel_rfl
theorem HI_1219 : HI.get 1219 = some (.cells (cellsOf HI 1219).1 (cellsOf HI 1219).2.1 (cellsOf HI 1219).2.2) := by kernel_rfl
def isNil {α : Type} : List α → Bool
  | [] => true
  | _ => false
theorem HI_1219_nn : isNil (cellsOf HI 1219).1 = false := by kernel_rfl
theorem und93 : T00.und 93 = some (.slice 209) := by kernel_rfl
theorem call197 (args : Array Value) (w : World) : (callFunc 197 args).run T00.P w = ((Extern.SlicesOverlaps.overlaps #[93, 93] #[4] args).run T00.P w).andThen fun v w' => .ok (.value v) w' :=
  run_callFunc_extern (P := Tryz.prog) Tryz.func197 (by kernel_rfl) (by kernel_rfl) (by kernel_rfl) (e := Extern.SlicesOverlaps.overlaps #[93, 93] #[4]) (by kernel_rfl) args w

/-! The rest. -/
noncomputable def rr (c : Nat) : Option (AX × Env × AHeap) := codeA T00 KK 137 RR .plain (tlc z8) (h8 c) HI
theorem ok8 : codeOk T00 137 (tlc z8) = true := by kernel_rfl
noncomputable def ex (c : Nat) : Env := match rr c with
  | some (_, e, _) => e
  | none => #[]
noncomputable def HX : AHeap := match rr 2 with
  | some (_, _, H) => H
  | none => HI
theorem rr_eq (c : Nat) : rr c = some (.ret, ex c, HX) := by kernel_rfl
theorem HX_next : HX.next = 1223 := by kernel_rfl
theorem res_eq (c : Nat) : resA T00 HX (ex c) Tryz.f137.results.toList = some [vL 1219 0 2 (U + 2)] := by kernel_rfl
theorem HX_1219 : HX.get 1219 = some (.cells (cellsOf HX 1219).1 (cellsOf HX 1219).2.1 (cellsOf HX 1219).2.2) := by kernel_rfl
theorem H'_sub : trSub mS1232.H'.objs ((HX.put 1219 none).new (.cells (cellsOf HX 1219).1 (cellsOf HX 1219).2.1 ⟨(cellsOf HX 1219).2.2.st, false⟩)).objs = true := by kernel_rfl
theorem H'_next : mS1232.H'.next = 1224 := by kernel_rfl
theorem v_eq : mS1232.v = vL 1223 0 2 (U + 2) := by kernel_rfl
theorem HI_next : HI.next = 1223 := by kernel_rfl
end Go.AM.Seat
