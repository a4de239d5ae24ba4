/- A part of the proof that WorldHarms answers true at every input: a part of the evaluation of the anchor. -/
import Derived.Test.YthokedjmopgdmaaGreatDoorDef
import Derived.Test.YthokedjmopgdmaaGreatDoorA29S
import Derived.Test.YthokedjmopgdmaaGreatDoorAm5
set_option linter.all false
/- The special memo: the call of slices.Insert onto a slice of one value whose capacity isn't known. -/
set_option maxRecDepth 100000
namespace Go.AM.Seat
open Go.Proofs

noncomputable def mI1 : Memo := ⟨[vL 1219 0 1 1, .int .i64 (Int.ofNat 0), vL 1222 0 1 1], mS1232.H, mS1232.v, mS1232.H'⟩
theorem mI1_chk : memoOk (callA T00 RR NN) 137 mI1 = true := by kernel_rfl
theorem mI1_ok : MOk T00 137 mI1 := MOk.of (callA_ok T00_good RR NN) mI1_chk

def hdc : Code → Code
  | .seq a _ => a
  | c => c
def tlc : Code → Code
  | .seq _ b => b
  | c => c
def regOps : Code → Array Oper
  | .region _ ops _ => ops
  | _ => #[]
noncomputable def c0 : Code := match Tryz.f137.body with | some c => c | none => .skip
noncomputable def c1 := tlc c0
noncomputable def c2 := tlc c1
noncomputable def c3 := tlc c2
noncomputable def c4 := tlc c3
noncomputable def c5 := tlc c4
noncomputable def c6 := tlc c5
noncomputable def c7 := tlc c6
noncomputable def c8 := tlc c7
theorem body_eq : Tryz.f137.body = some c0 := by kernel_rfl
theorem c0_eq : c0 = .seq (hdc c0) c1 := by kernel_rfl
theorem c1_eq : c1 = .seq (hdc c1) c2 := by kernel_rfl
theorem c2_eq : c2 = .seq (hdc c2) c3 := by kernel_rfl
theorem c3_eq : c3 = .seq (hdc c3) c4 := by kernel_rfl
theorem c4_eq : c4 = .seq (hdc c4) c5 := by kernel_rfl
theorem c5_eq : c5 = .seq (hdc c5) c6 := by kernel_rfl
theorem c6_eq : c6 = .seq (hdc c6) c7 := by kernel_rfl
theorem c7_eq : c7 = .seq (hdc c7) c8 := by kernel_rfl
theorem c8_eq : c8 = .seq (hdc c8) (tlc c8) := by kernel_rfl
theorem okc (i : Code) (h : codeOk T00 137 i = true) : codeOk T00 137 i = true := h
theorem ok0 : codeOk T00 137 (hdc c0) = true := by kernel_rfl
theorem ok1 : codeOk T00 137 (hdc c1) = true := by kernel_rfl
theorem ok2 : codeOk T00 137 (hdc c2) = true := by kernel_rfl
theorem ok3 : codeOk T00 137 (hdc c3) = true := by kernel_rfl
theorem ok4 : codeOk T00 137 (hdc c4) = true := by kernel_rfl
theorem ok5 : codeOk T00 137 (hdc c5) = true := by kernel_rfl

noncomputable def KK : Kall := callA T00 RR NN
theorem KK_ok : KOk T00 KK := callA_ok T00_good RR NN
def argsB : List Value := [vL 1219 0 1 (U + 2), .int .i64 (Int.ofNat 0), vL 1222 0 1 1]
noncomputable def HI : AHeap := mS1232.H
noncomputable def e0 : Env := argsB.toArray ++ Array.replicate (Tryz.f137.ntmps - argsB.length) undef
noncomputable def st (c : Code) (e : Env) : Option (AX × Env × AHeap) := codeA T00 KK 137 RR .plain (hdc c) e HI
noncomputable def e1 : Env := nx (st c0 e0)
theorem s0 : normal (st c0 e0) HI = true := by kernel_rfl
noncomputable def e2 : Env := nx (st c1 e1)
theorem s1 : normal (st c1 e1) HI = true := by kernel_rfl
noncomputable def e3 : Env := nx (st c2 e2)
theorem s2 : normal (st c2 e2) HI = true := by kernel_rfl
noncomputable def e4 : Env := nx (st c3 e3)
theorem s3 : normal (st c3 e3) HI = true := by kernel_rfl
noncomputable def e5 : Env := nx (st c4 e4)
theorem s4 : normal (st c4 e4) HI = true := by kernel_rfl
noncomputable def e6 : Env := nx (st c5 e5)
theorem s5 : normal (st c5 e5) HI = true := by kernel_rfl

/-! Region 8: cap(s). -/
noncomputable def z6 : Code := hdc c6
noncomputable def ops8 : Array Oper := regOps (hdc z6)
theorem z6_eq : z6 = .seq (hdc z6) (tlc z6) := by kernel_rfl
theorem r8_eq : hdc z6 = .region 8 ops8 false := by kernel_rfl
theorem ops8_ok : ops8.toList.all (operOk T00.G) = true := by kernel_rfl
theorem ops8_size : List.range ops8.size = [0, 1, 2, 3, 4, 5] := by kernel_rfl
def env1 (r : Option (Env × AHeap)) : Env := match r with
  | some (e, _) => e
  | none => #[]
noncomputable def f1 : Env := env1 (stepA T00 KK ops8 0 e6 HI)
theorem t0 : stepA T00 KK ops8 0 e6 HI = some (f1, HI) := by kernel_rfl
noncomputable def f2 : Env := env1 (stepA T00 KK ops8 1 f1 HI)
theorem t1 : stepA T00 KK ops8 1 f1 HI = some (f2, HI) := by kernel_rfl
noncomputable def f3 : Env := env1 (stepA T00 KK ops8 2 f2 HI)
theorem t2 : stepA T00 KK ops8 2 f2 HI = some (f3, HI) := by kernel_rfl
noncomputable def f4 : Env := env1 (stepA T00 KK ops8 3 f3 HI)
theorem t3 : stepA T00 KK ops8 3 f3 HI = some (f4, HI) := by kernel_rfl
theorem f4_29 : f4.getD 29 undef = vL 1219 0 1 (U + 2) := by kernel_rfl
noncomputable def o4 : Oper := match ops8[4]? with
  | some o => o
  | none => ⟨none, .move (.tmp 0), 0, "", #[], none⟩
theorem o4_at : ops8[4]? = some o4 := by kernel_rfl
theorem o4_eq : o4 = ⟨some 30, .call ⟨.builtin .cap, #[.tmp 29], #[94]⟩, o4.type, o4.pos, o4.after, none⟩ := by kernel_rfl
noncomputable def f5 (c : Nat) : Env := putA f4 (some 30) (goInt c)
theorem t5 (c : Nat) : stepA T00 KK ops8 5 (f5 c) HI = some (putA (f5 c) (some 31) (.bool (decide ((c : Int) < (2 : Int)))), HI) := by kernel_rfl
noncomputable def f6 (c : Nat) : Env := putA (f5 c) (some 31) (.bool false)
theorem t5' (c : Nat) (h : 2 ≤ c) : stepA T00 KK ops8 5 (f5 c) HI = some (f6 c, HI) := by
  rw [t5, show decide ((c : Int) < (2 : Int)) = false from decide_eq_false (by omega)]
  rfl
theorem ok6 : codeOk T00 137 (tlc z6) = true := by kernel_rfl
theorem s6 (c : Nat) : codeA T00 KK 137 RR .plain (tlc z6) (f6 c) HI = some (.normal, f6 c, HI) := by kernel_rfl
end Go.AM.Seat
