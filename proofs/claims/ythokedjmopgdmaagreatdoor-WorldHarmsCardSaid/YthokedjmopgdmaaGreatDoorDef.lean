/- A part of the proof that WorldHarms answers true at every input: the seat: its tables are the tables of the program. -/
import Derived.Test.YthokedjmopgdmaaGreatDoorTab
import Derived.Test.YthokedjmopgdmaaGreatDoorAm5
import Derived.KernelRfl
import Derived.Laws.Externs
set_option linter.all false
section
set_option maxRecDepth 100000
namespace Go.AM.Seat
open Go.Proofs

@[reducible] def vN : Value := .pointer none
@[reducible] def vP (b o : Nat) : Value := .pointer (some ⟨b, o, none⟩)
@[reducible] def vL (b o n c : Nat) : Value := .slice (some ⟨b, o, none⟩) n c
@[reducible] def vS (l : List UInt8) : Value := .string ⟨l.toArray⟩
@[reducible] def vA (l : List Value) : Value := .agg l.toArray
@[reducible] def oB (l : List Nat) (e : TypeId) (st : Fl) : AObj := .cells (l.map fun n => .int .u8 (Int.ofNat n)) e st
@[reducible] def nL : Tr AObj := .nil
@[reducible] def nO : Option AObj := none
@[reducible] def sO (o : AObj) : Option AObj := some o
@[reducible] def nD (l : Tr AObj) (v : Option AObj) (r : Tr AObj) : Tr AObj := .node l v r

def RR : Nat := 1000000
def NN : Nat := 100

def meth (t : TypeId) (name : String) : Option FuncId :=
  cond (Nat.beq t 203 && name == "Plus") (some 350) (cond (Nat.beq t 198 && name == "Measure") (some 342) (none))

noncomputable def T00 : Tab where
  P := Tryz.prog
  info := types.get
  fn := funcs.get
  ext := fun _ => none
  meth := meth
  same := fun f => Nat.beq f 226
  prim := fun _ => none
  plan := fun f id => match plans.get f with
    | some t => t.get id
    | none => none

def bodyOk (T : Tab) (f : FuncId) (fn : Func) : Bool :=
  match fn.body with
  | some c => codeOk T f c
  | none => true

theorem bodyOk_ok {T : Tab} {f : FuncId} {fn : Func} (h : bodyOk T f fn = true) (c : Code) (hc : fn.body = some c) : codeOk T f c = true := by
  unfold bodyOk at h
  rw [hc] at h
  exact h
end Go.AM.Seat
end

section
set_option maxRecDepth 100000
namespace Go.AM.Seat
open Go.Proofs
theorem b3_ok : bodyOk T00 3 Tryz.f3 = true := by kernel_rfl
theorem b4_ok : bodyOk T00 4 Tryz.f4 = true := by kernel_rfl
theorem b5_ok : bodyOk T00 5 Tryz.f5 = true := by kernel_rfl
theorem b6_ok : bodyOk T00 6 Tryz.f6 = true := by kernel_rfl
theorem b7_ok : bodyOk T00 7 Tryz.f7 = true := by kernel_rfl
theorem b8_ok : bodyOk T00 8 Tryz.f8 = true := by kernel_rfl
theorem b9_ok : bodyOk T00 9 Tryz.f9 = true := by kernel_rfl
theorem b10_ok : bodyOk T00 10 Tryz.f10 = true := by kernel_rfl
theorem b11_ok : bodyOk T00 11 Tryz.f11 = true := by kernel_rfl
theorem b12_ok : bodyOk T00 12 Tryz.f12 = true := by kernel_rfl
theorem b13_ok : bodyOk T00 13 Tryz.f13 = true := by kernel_rfl
theorem b14_ok : bodyOk T00 14 Tryz.f14 = true := by kernel_rfl
theorem b16_ok : bodyOk T00 16 Tryz.f16 = true := by kernel_rfl
theorem b17_ok : bodyOk T00 17 Tryz.f17 = true := by kernel_rfl
theorem b20_ok : bodyOk T00 20 Tryz.f20 = true := by kernel_rfl
theorem b23_ok : bodyOk T00 23 Tryz.f23 = true := by kernel_rfl
theorem b24_ok : bodyOk T00 24 Tryz.f24 = true := by kernel_rfl
theorem b25_ok : bodyOk T00 25 Tryz.f25 = true := by kernel_rfl
theorem b26_ok : bodyOk T00 26 Tryz.f26 = true := by kernel_rfl
theorem b27_ok : bodyOk T00 27 Tryz.f27 = true := by kernel_rfl
theorem b28_ok : bodyOk T00 28 Tryz.f28 = true := by kernel_rfl
theorem b29_ok : bodyOk T00 29 Tryz.f29 = true := by kernel_rfl
theorem b30_ok : bodyOk T00 30 Tryz.f30 = true := by kernel_rfl
theorem b31_ok : bodyOk T00 31 Tryz.f31 = true := by kernel_rfl
theorem b32_ok : bodyOk T00 32 Tryz.f32 = true := by kernel_rfl
theorem b33_ok : bodyOk T00 33 Tryz.f33 = true := by kernel_rfl
theorem b34_ok : bodyOk T00 34 Tryz.f34 = true := by kernel_rfl
theorem b35_ok : bodyOk T00 35 Tryz.f35 = true := by kernel_rfl
theorem b36_ok : bodyOk T00 36 Tryz.f36 = true := by kernel_rfl
theorem b37_ok : bodyOk T00 37 Tryz.f37 = true := by kernel_rfl
theorem b43_ok : bodyOk T00 43 Tryz.f43 = true := by kernel_rfl
theorem b44_ok : bodyOk T00 44 Tryz.f44 = true := by kernel_rfl
theorem b50_ok : bodyOk T00 50 Tryz.f50 = true := by kernel_rfl
theorem b51_ok : bodyOk T00 51 Tryz.f51 = true := by kernel_rfl
theorem b52_ok : bodyOk T00 52 Tryz.f52 = true := by kernel_rfl
theorem b53_ok : bodyOk T00 53 Tryz.f53 = true := by kernel_rfl
theorem b54_ok : bodyOk T00 54 Tryz.f54 = true := by kernel_rfl
theorem b55_ok : bodyOk T00 55 Tryz.f55 = true := by kernel_rfl
theorem b56_ok : bodyOk T00 56 Tryz.f56 = true := by kernel_rfl
theorem b57_ok : bodyOk T00 57 Tryz.f57 = true := by kernel_rfl
theorem fl0_bodies : AllF (fun f x => bodyOk T00 f x = true) fl0 := ⟨b3_ok, b4_ok, b5_ok, b6_ok, b7_ok, b8_ok, b9_ok, b10_ok, b11_ok, b12_ok, b13_ok, b14_ok, b16_ok, b17_ok, b20_ok, b23_ok, b24_ok, b25_ok, b26_ok, b27_ok, b28_ok, b29_ok, b30_ok, b31_ok, b32_ok, b33_ok, b34_ok, b35_ok, b36_ok, b37_ok, b43_ok, b44_ok, b50_ok, b51_ok, b52_ok, b53_ok, b54_ok, b55_ok, b56_ok, b57_ok, trivial⟩
end Go.AM.Seat
end

section
set_option maxRecDepth 100000
namespace Go.AM.Seat
open Go.Proofs
theorem b58_ok : bodyOk T00 58 Tryz.f58 = true := by kernel_rfl
theorem b59_ok : bodyOk T00 59 Tryz.f59 = true := by kernel_rfl
theorem b60_ok : bodyOk T00 60 Tryz.f60 = true := by kernel_rfl
theorem b61_ok : bodyOk T00 61 Tryz.f61 = true := by kernel_rfl
theorem b62_ok : bodyOk T00 62 Tryz.f62 = true := by kernel_rfl
theorem b63_ok : bodyOk T00 63 Tryz.f63 = true := by kernel_rfl
theorem b64_ok : bodyOk T00 64 Tryz.f64 = true := by kernel_rfl
theorem b66_ok : bodyOk T00 66 Tryz.f66 = true := by kernel_rfl
theorem b67_ok : bodyOk T00 67 Tryz.f67 = true := by kernel_rfl
theorem b73_ok : bodyOk T00 73 Tryz.f73 = true := by kernel_rfl
theorem b74_ok : bodyOk T00 74 Tryz.f74 = true := by kernel_rfl
theorem b75_ok : bodyOk T00 75 Tryz.f75 = true := by kernel_rfl
theorem b76_ok : bodyOk T00 76 Tryz.f76 = true := by kernel_rfl
theorem b78_ok : bodyOk T00 78 Tryz.f78 = true := by kernel_rfl
theorem b79_ok : bodyOk T00 79 Tryz.f79 = true := by kernel_rfl
theorem b80_ok : bodyOk T00 80 Tryz.f80 = true := by kernel_rfl
theorem b82_ok : bodyOk T00 82 Tryz.f82 = true := by kernel_rfl
theorem b83_ok : bodyOk T00 83 Tryz.f83 = true := by kernel_rfl
theorem b84_ok : bodyOk T00 84 Tryz.f84 = true := by kernel_rfl
theorem b85_ok : bodyOk T00 85 Tryz.f85 = true := by kernel_rfl
theorem b92_ok : bodyOk T00 92 Tryz.f92 = true := by kernel_rfl
theorem b93_ok : bodyOk T00 93 Tryz.f93 = true := by kernel_rfl
theorem b94_ok : bodyOk T00 94 Tryz.f94 = true := by kernel_rfl
theorem b95_ok : bodyOk T00 95 Tryz.f95 = true := by kernel_rfl
theorem b96_ok : bodyOk T00 96 Tryz.f96 = true := by kernel_rfl
theorem b97_ok : bodyOk T00 97 Tryz.f97 = true := by kernel_rfl
theorem b98_ok : bodyOk T00 98 Tryz.f98 = true := by kernel_rfl
theorem b99_ok : bodyOk T00 99 Tryz.f99 = true := by kernel_rfl
theorem b100_ok : bodyOk T00 100 Tryz.f100 = true := by kernel_rfl
theorem b101_ok : bodyOk T00 101 Tryz.f101 = true := by kernel_rfl
theorem b102_ok : bodyOk T00 102 Tryz.f102 = true := by kernel_rfl
theorem b103_ok : bodyOk T00 103 Tryz.f103 = true := by kernel_rfl
theorem b104_ok : bodyOk T00 104 Tryz.f104 = true := by kernel_rfl
theorem b105_ok : bodyOk T00 105 Tryz.f105 = true := by kernel_rfl
theorem b106_ok : bodyOk T00 106 Tryz.f106 = true := by kernel_rfl
theorem b108_ok : bodyOk T00 108 Tryz.f108 = true := by kernel_rfl
theorem b110_ok : bodyOk T00 110 Tryz.f110 = true := by kernel_rfl
theorem b111_ok : bodyOk T00 111 Tryz.f111 = true := by kernel_rfl
theorem b112_ok : bodyOk T00 112 Tryz.f112 = true := by kernel_rfl
theorem b113_ok : bodyOk T00 113 Tryz.f113 = true := by kernel_rfl
theorem fl1_bodies : AllF (fun f x => bodyOk T00 f x = true) fl1 := ⟨b58_ok, b59_ok, b60_ok, b61_ok, b62_ok, b63_ok, b64_ok, b66_ok, b67_ok, b73_ok, b74_ok, b75_ok, b76_ok, b78_ok, b79_ok, b80_ok, b82_ok, b83_ok, b84_ok, b85_ok, b92_ok, b93_ok, b94_ok, b95_ok, b96_ok, b97_ok, b98_ok, b99_ok, b100_ok, b101_ok, b102_ok, b103_ok, b104_ok, b105_ok, b106_ok, b108_ok, b110_ok, b111_ok, b112_ok, b113_ok, trivial⟩
end Go.AM.Seat
end

section
set_option maxRecDepth 100000
namespace Go.AM.Seat
open Go.Proofs
theorem b114_ok : bodyOk T00 114 Tryz.f114 = true := by kernel_rfl
theorem b115_ok : bodyOk T00 115 Tryz.f115 = true := by kernel_rfl
theorem b116_ok : bodyOk T00 116 Tryz.f116 = true := by kernel_rfl
theorem b124_ok : bodyOk T00 124 Tryz.f124 = true := by kernel_rfl
theorem b127_ok : bodyOk T00 127 Tryz.f127 = true := by kernel_rfl
theorem b128_ok : bodyOk T00 128 Tryz.f128 = true := by kernel_rfl
theorem b129_ok : bodyOk T00 129 Tryz.f129 = true := by kernel_rfl
theorem b130_ok : bodyOk T00 130 Tryz.f130 = true := by kernel_rfl
theorem b131_ok : bodyOk T00 131 Tryz.f131 = true := by kernel_rfl
theorem b132_ok : bodyOk T00 132 Tryz.f132 = true := by kernel_rfl
theorem b133_ok : bodyOk T00 133 Tryz.f133 = true := by kernel_rfl
theorem b134_ok : bodyOk T00 134 Tryz.f134 = true := by kernel_rfl
theorem b135_ok : bodyOk T00 135 Tryz.f135 = true := by kernel_rfl
theorem b137_ok : bodyOk T00 137 Tryz.f137 = true := by kernel_rfl
theorem b138_ok : bodyOk T00 138 Tryz.f138 = true := by kernel_rfl
theorem b139_ok : bodyOk T00 139 Tryz.f139 = true := by kernel_rfl
theorem b140_ok : bodyOk T00 140 Tryz.f140 = true := by kernel_rfl
theorem b141_ok : bodyOk T00 141 Tryz.f141 = true := by kernel_rfl
theorem b142_ok : bodyOk T00 142 Tryz.f142 = true := by kernel_rfl
theorem b143_ok : bodyOk T00 143 Tryz.f143 = true := by kernel_rfl
theorem b144_ok : bodyOk T00 144 Tryz.f144 = true := by kernel_rfl
theorem b145_ok : bodyOk T00 145 Tryz.f145 = true := by kernel_rfl
theorem b148_ok : bodyOk T00 148 Tryz.f148 = true := by kernel_rfl
theorem b151_ok : bodyOk T00 151 Tryz.f151 = true := by kernel_rfl
theorem b152_ok : bodyOk T00 152 Tryz.f152 = true := by kernel_rfl
theorem b153_ok : bodyOk T00 153 Tryz.f153 = true := by kernel_rfl
theorem b154_ok : bodyOk T00 154 Tryz.f154 = true := by kernel_rfl
theorem b155_ok : bodyOk T00 155 Tryz.f155 = true := by kernel_rfl
theorem b156_ok : bodyOk T00 156 Tryz.f156 = true := by kernel_rfl
theorem b159_ok : bodyOk T00 159 Tryz.f159 = true := by kernel_rfl
theorem b162_ok : bodyOk T00 162 Tryz.f162 = true := by kernel_rfl
theorem b166_ok : bodyOk T00 166 Tryz.f166 = true := by kernel_rfl
theorem b169_ok : bodyOk T00 169 Tryz.f169 = true := by kernel_rfl
theorem b170_ok : bodyOk T00 170 Tryz.f170 = true := by kernel_rfl
theorem b171_ok : bodyOk T00 171 Tryz.f171 = true := by kernel_rfl
theorem b172_ok : bodyOk T00 172 Tryz.f172 = true := by kernel_rfl
theorem b173_ok : bodyOk T00 173 Tryz.f173 = true := by kernel_rfl
theorem b175_ok : bodyOk T00 175 Tryz.f175 = true := by kernel_rfl
theorem b176_ok : bodyOk T00 176 Tryz.f176 = true := by kernel_rfl
theorem b177_ok : bodyOk T00 177 Tryz.f177 = true := by kernel_rfl
theorem fl2_bodies : AllF (fun f x => bodyOk T00 f x = true) fl2 := ⟨b114_ok, b115_ok, b116_ok, b124_ok, b127_ok, b128_ok, b129_ok, b130_ok, b131_ok, b132_ok, b133_ok, b134_ok, b135_ok, b137_ok, b138_ok, b139_ok, b140_ok, b141_ok, b142_ok, b143_ok, b144_ok, b145_ok, b148_ok, b151_ok, b152_ok, b153_ok, b154_ok, b155_ok, b156_ok, b159_ok, b162_ok, b166_ok, b169_ok, b170_ok, b171_ok, b172_ok, b173_ok, b175_ok, b176_ok, b177_ok, trivial⟩
end Go.AM.Seat
end

section
set_option maxRecDepth 100000
namespace Go.AM.Seat
open Go.Proofs
theorem b178_ok : bodyOk T00 178 Tryz.f178 = true := by kernel_rfl
theorem b180_ok : bodyOk T00 180 Tryz.f180 = true := by kernel_rfl
theorem b182_ok : bodyOk T00 182 Tryz.f182 = true := by kernel_rfl
theorem b184_ok : bodyOk T00 184 Tryz.f184 = true := by kernel_rfl
theorem b185_ok : bodyOk T00 185 Tryz.f185 = true := by kernel_rfl
theorem b187_ok : bodyOk T00 187 Tryz.f187 = true := by kernel_rfl
theorem b189_ok : bodyOk T00 189 Tryz.f189 = true := by kernel_rfl
theorem b190_ok : bodyOk T00 190 Tryz.f190 = true := by kernel_rfl
theorem b191_ok : bodyOk T00 191 Tryz.f191 = true := by kernel_rfl
theorem b192_ok : bodyOk T00 192 Tryz.f192 = true := by kernel_rfl
theorem b193_ok : bodyOk T00 193 Tryz.f193 = true := by kernel_rfl
theorem b194_ok : bodyOk T00 194 Tryz.f194 = true := by kernel_rfl
theorem b195_ok : bodyOk T00 195 Tryz.f195 = true := by kernel_rfl
theorem b196_ok : bodyOk T00 196 Tryz.f196 = true := by kernel_rfl
theorem b200_ok : bodyOk T00 200 Tryz.f200 = true := by kernel_rfl
theorem b201_ok : bodyOk T00 201 Tryz.f201 = true := by kernel_rfl
theorem b207_ok : bodyOk T00 207 Tryz.f207 = true := by kernel_rfl
theorem b208_ok : bodyOk T00 208 Tryz.f208 = true := by kernel_rfl
theorem b209_ok : bodyOk T00 209 Tryz.f209 = true := by kernel_rfl
theorem b210_ok : bodyOk T00 210 Tryz.f210 = true := by kernel_rfl
theorem b211_ok : bodyOk T00 211 Tryz.f211 = true := by kernel_rfl
theorem b214_ok : bodyOk T00 214 Tryz.f214 = true := by kernel_rfl
theorem b227_ok : bodyOk T00 227 Tryz.f227 = true := by kernel_rfl
theorem b231_ok : bodyOk T00 231 Tryz.f231 = true := by kernel_rfl
theorem b232_ok : bodyOk T00 232 Tryz.f232 = true := by kernel_rfl
theorem b233_ok : bodyOk T00 233 Tryz.f233 = true := by kernel_rfl
theorem b234_ok : bodyOk T00 234 Tryz.f234 = true := by kernel_rfl
theorem b235_ok : bodyOk T00 235 Tryz.f235 = true := by kernel_rfl
theorem b236_ok : bodyOk T00 236 Tryz.f236 = true := by kernel_rfl
theorem b237_ok : bodyOk T00 237 Tryz.f237 = true := by kernel_rfl
theorem b238_ok : bodyOk T00 238 Tryz.f238 = true := by kernel_rfl
theorem b239_ok : bodyOk T00 239 Tryz.f239 = true := by kernel_rfl
theorem b240_ok : bodyOk T00 240 Tryz.f240 = true := by kernel_rfl
theorem b241_ok : bodyOk T00 241 Tryz.f241 = true := by kernel_rfl
theorem b242_ok : bodyOk T00 242 Tryz.f242 = true := by kernel_rfl
theorem b243_ok : bodyOk T00 243 Tryz.f243 = true := by kernel_rfl
theorem b244_ok : bodyOk T00 244 Tryz.f244 = true := by kernel_rfl
theorem b245_ok : bodyOk T00 245 Tryz.f245 = true := by kernel_rfl
theorem b246_ok : bodyOk T00 246 Tryz.f246 = true := by kernel_rfl
theorem b247_ok : bodyOk T00 247 Tryz.f247 = true := by kernel_rfl
theorem fl3_bodies : AllF (fun f x => bodyOk T00 f x = true) fl3 := ⟨b178_ok, b180_ok, b182_ok, b184_ok, b185_ok, b187_ok, b189_ok, b190_ok, b191_ok, b192_ok, b193_ok, b194_ok, b195_ok, b196_ok, b200_ok, b201_ok, b207_ok, b208_ok, b209_ok, b210_ok, b211_ok, b214_ok, b227_ok, b231_ok, b232_ok, b233_ok, b234_ok, b235_ok, b236_ok, b237_ok, b238_ok, b239_ok, b240_ok, b241_ok, b242_ok, b243_ok, b244_ok, b245_ok, b246_ok, b247_ok, trivial⟩
end Go.AM.Seat
end

section
set_option maxRecDepth 100000
namespace Go.AM.Seat
open Go.Proofs
theorem b251_ok : bodyOk T00 251 Tryz.f251 = true := by kernel_rfl
theorem b255_ok : bodyOk T00 255 Tryz.f255 = true := by kernel_rfl
theorem b257_ok : bodyOk T00 257 Tryz.f257 = true := by kernel_rfl
theorem b263_ok : bodyOk T00 263 Tryz.f263 = true := by kernel_rfl
theorem b264_ok : bodyOk T00 264 Tryz.f264 = true := by kernel_rfl
theorem b266_ok : bodyOk T00 266 Tryz.f266 = true := by kernel_rfl
theorem b268_ok : bodyOk T00 268 Tryz.f268 = true := by kernel_rfl
theorem b269_ok : bodyOk T00 269 Tryz.f269 = true := by kernel_rfl
theorem b270_ok : bodyOk T00 270 Tryz.f270 = true := by kernel_rfl
theorem b271_ok : bodyOk T00 271 Tryz.f271 = true := by kernel_rfl
theorem b272_ok : bodyOk T00 272 Tryz.f272 = true := by kernel_rfl
theorem b273_ok : bodyOk T00 273 Tryz.f273 = true := by kernel_rfl
theorem b342_ok : bodyOk T00 342 Tryz.f342 = true := by kernel_rfl
theorem b343_ok : bodyOk T00 343 Tryz.f343 = true := by kernel_rfl
theorem b344_ok : bodyOk T00 344 Tryz.f344 = true := by kernel_rfl
theorem b345_ok : bodyOk T00 345 Tryz.f345 = true := by kernel_rfl
theorem b346_ok : bodyOk T00 346 Tryz.f346 = true := by kernel_rfl
theorem b347_ok : bodyOk T00 347 Tryz.f347 = true := by kernel_rfl
theorem b348_ok : bodyOk T00 348 Tryz.f348 = true := by kernel_rfl
theorem b350_ok : bodyOk T00 350 Tryz.f350 = true := by kernel_rfl
theorem fl4_bodies : AllF (fun f x => bodyOk T00 f x = true) fl4 := ⟨b251_ok, b255_ok, b257_ok, b263_ok, b264_ok, b266_ok, b268_ok, b269_ok, b270_ok, b271_ok, b272_ok, b273_ok, b342_ok, b343_ok, b344_ok, b345_ok, b346_ok, b347_ok, b348_ok, b350_ok, trivial⟩
end Go.AM.Seat
end

section
set_option maxRecDepth 100000
namespace Go.AM.Seat
open Go.Proofs

theorem fl_bodies : AllF (fun f x => bodyOk T00 f x = true) fl := AllF.append (AllF.append (AllF.append (AllF.append (fl0_bodies) fl1_bodies) fl2_bodies) fl3_bodies) fl4_bodies

theorem meth350 (v : Value) (w : World) : (method (Tryz.prog.types.size + Made.depth) 203 v "Plus").run Tryz.prog w = .ok (350, v) w := by kernel_rfl
theorem meth342 (v : Value) (w : World) : (method (Tryz.prog.types.size + Made.depth) 198 v "Measure").run Tryz.prog w = .ok (342, v) w := by kernel_rfl

theorem T00_ok : T00.Ok where
  info := fun t i h => info_of_type (AllF.get tl_ok types_eq (show types.get t = some i from h))
  fn := fun f x h => AllF.get fl_ok funcs_eq (show funcs.get f = some x from h)
  ext := fun f s h => by cases h
  same := fun f h x w => by
    have := Nat.eq_of_beq_eq_true (show Nat.beq f 226 = true from h)
    subst this
    show (callFunc 226 #[x]).run Tryz.prog w = _
    rw [run_callFunc_extern Tryz.func226 (by kernel_rfl) (by kernel_rfl) (by kernel_rfl) (e := Extern.AbiNoEscape.same) (by kernel_rfl)]
    rfl
  meth := fun t name f h => by
    have h' : meth t name = some f := h
    unfold meth at h'
    cases h0 : (Nat.beq t 203 && name == "Plus") with
    | true =>
      rw [h0] at h'; cases h'
      simp only [Bool.and_eq_true, beq_iff_eq] at h0
      obtain ⟨a, b⟩ := h0
      have := Nat.eq_of_beq_eq_true a
      subst this b
      exact meth350
    | false =>
      rw [h0] at h'
      cases h1 : (Nat.beq t 198 && name == "Measure") with
      | true =>
        rw [h1] at h'; cases h'
        simp only [Bool.and_eq_true, beq_iff_eq] at h1
        obtain ⟨a, b⟩ := h1
        have := Nat.eq_of_beq_eq_true a
        subst this b
        exact meth342
      | false =>
        rw [h1] at h'
        cases h'
  mixed := by kernel_rfl

theorem T00_calls : T00.Calls := fun f x h => AllF.get fl_calls funcs_eq (show funcs.get f = some x from h)

theorem T00_bodies : ∀ f fn c, T00.fn f = some fn → fn.body = some c → codeOk T00 f c = true := fun f fn c h hc =>
  bodyOk_ok (AllF.get fl_bodies funcs_eq (show funcs.get f = some fn from h)) c hc
theorem T00_good : T00.Good := ⟨T00_ok, T00_calls, fun f p h => (by cases h), T00_bodies⟩
end Go.AM.Seat
end

