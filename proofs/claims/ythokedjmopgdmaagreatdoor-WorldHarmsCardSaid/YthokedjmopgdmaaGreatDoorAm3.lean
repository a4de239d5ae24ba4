/- A part of the proof that WorldHarms answers true at every input: the abstract machine: operations on slices, strings and handles. -/
import Derived.Test.YthokedjmopgdmaaGreatDoorAm2
import Derived.Lib.Builder
import Derived.Lib.UnsafeStr
set_option linter.all false
section
/- The abstract machine, part I: stores, maps, new slices, bytes of a text, copy, clear. -/
namespace Go.AM
variable {T : Tab}

def storeA (T : Tab) (H : AHeap) (t : TypeId) (a v : Value) : Option AHeap :=
  match a, T.info t with
  | .pointer (some ⟨b, o, none⟩), some i => cond (Nat.beq v.cells.size i.size) (stN H b o v.cells.toList) none
  | _, _ => none

theorem storeA_ok (hT : T.Ok) {γ : Gam} {H H' : AHeap} {w : World} (h : HRT T γ H w) {t : TypeId} {a v a' v' : Value} (hs : storeA T H t a v = some H') (ha : VR γ a a') (hv : VR γ v v') :
    ∃ w', (Instr.storeAt t a' v').run T.P w = .ok () w' ∧ StepT T γ H w γ H' w' := by
  unfold storeA at hs
  split at hs
  · rename_i b o i hi
    cases hz : Nat.beq v.cells.size i.size with
    | false => rw [hz] at hs; cases hs
    | true =>
      rw [hz] at hs
      simp only [cond_true] at hs
      have hz' : v.cells.size = i.size := by simpa using hz
      cases ha with
      | ptr hA =>
        obtain ⟨w', h1, h2⟩ := stN_ok (P := T.P) hA o v.cells.toList v'.cells.toList 0 H H' w h hv.cells (by simpa using hs)
        refine ⟨w', ?_, h2⟩
        have hne : ¬ v'.cells.size ≠ i.size := by rw [hv.size]; simp [hz']
        simp only [Instr.storeAt, Instr.sureAddr, storeVar, Sem.run_bind, Sem.run_pure, Result.andThen_ok, hT.run_size hi, hne, if_false]
        exact h1
  · cases hs

def makeMapA (H : AHeap) : Value × AHeap := (.map (some H.next), H.new (.map [] 0))

theorem makeMapA_ok {γ : Gam} {H : AHeap} {w : World} (h : HRT T γ H w) (hf : γ H.next = none) (t : TypeId) :
    ∃ γ' r' w', (Instr.makeMap t none).run T.P w = .ok r' w' ∧ VR γ' (makeMapA H).1 r' ∧ StepT T γ H w γ' (makeMapA H).2 w' := by
  refine ⟨add γ H.next { B := w.heap.size, o := 0, N := 0, s := 0 }, .map (some w.heap.size), { w with heap := w.heap.push (.map #[] 0) }, by simp [Instr.makeMap], ?_, ?_⟩
  · exact VR.map (γ := add γ H.next { B := w.heap.size, o := 0, N := 0, s := 0 }) (b := H.next) (A := { B := w.heap.size, o := 0, N := 0, s := 0 }) add_same
  · refine Step.new h hf rfl ?_
    exact ⟨#[], by simp, rfl, fun i e e' h => by simp at h⟩

def makeSliceA (T : Tab) (H : AHeap) (t : TypeId) (l c : Value) : Option (Value × AHeap) :=
  match T.und t, l, c with
  | some (.slice e), .int _ l, .int _ c => match T.info e, zeroCellsOf T e with
    | some i, some z => cond (decide (0 ≤ l ∧ l ≤ c ∧ c ≤ 100000) && Nat.ble i.bytes 1000 && Nat.beq z.size i.size) (rowA T H e (zeros z (c.toNat * i.size)).toList l.toNat c.toNat) none
    | _, _ => none
  | _, _, _ => none

theorem wrap_small {n : Int} (h0 : 0 ≤ n) (h1 : n ≤ 100000) : IntKind.i64.wrap n = n := by
  simp [IntKind.wrap, IntKind.bits, IntKind.signed]; omega

theorem makeSliceA_ok (hT : T.Ok) {γ : Gam} {H H' : AHeap} {w : World} (h : HRT T γ H w) (hf : γ H.next = none) {t : TypeId} {l c l' c' r : Value} (hm : makeSliceA T H t l c = some (r, H')) (hl : VR γ l l') (hc : VR γ c c') :
    ∃ γ' r' w', (Instr.makeSlice t l' c').run T.P w = .ok r' w' ∧ VR γ' r r' ∧ StepT T γ H w γ' H' w' := by
  unfold makeSliceA at hm
  split at hm
  · rename_i e k1 l k2 c hu
    split at hm
    · rename_i i z hi hz
      obtain ⟨hz1, hz2, i', z', hi', hzz, rfl⟩ := zeroCellsOf_ok (γ := γ) hz
      rw [hi] at hi'; cases hi'
      cases hq : (decide (0 ≤ l ∧ l ≤ c ∧ c ≤ 100000) && Nat.ble i.bytes 1000 && Nat.beq z'.cells.size i.size) with
      | false => rw [hq] at hm; cases hm
      | true =>
        rw [hq] at hm
        simp only [cond_true, rowA, hi, Option.some.injEq, Prod.mk.injEq] at hm
        obtain ⟨rfl, rfl⟩ := hm
        simp only [Bool.and_eq_true, decide_eq_true_eq] at hq
        obtain ⟨⟨⟨q1, q2, q3⟩, q4⟩, q5⟩ := hq
        have q4 := Nat.le_of_ble_eq_true q4
        have q5 : z'.cells.size = i.size := by simpa using q5
        cases hl; cases hc
        have hzv := zeros_ok hz1 hz2 (c.toNat * i.size)
        obtain ⟨D, g1, g2, g3⟩ := new_cells (P := T.P) (st := ⟨false, false⟩) h hf hi (CR.of_list hzv.toList) (by simp) (fun q => by cases q)
        simp only [Array.toArray_toList] at g1 g3
        refine ⟨_, .slice (some ⟨w.heap.size, 0, none⟩) l.toNat c.toNat, _, ?_, ?_, g3⟩
        · have e1 : IntKind.i64.wrap l = l := wrap_small q1 (by omega)
          have e2 : IntKind.i64.wrap c = c := wrap_small (by omega) q3
          have e3 : ¬ ((c < 0 || (i.bytes : Int) * c > 2 ^ 48) = true) := by
            have : (i.bytes : Int) * c ≤ 1000 * 100000 := Int.mul_le_mul (by omega) q3 (by omega) (by omega)
            simp; omega
          have e4 : ¬ (l < 0) := by omega
          have e5 : ¬ (l > c) := by omega
          simp only [Instr.makeSlice, asInt, asIntOf, Sem.run_bind, hT.run_und hu, Result.andThen_ok, Sem.run_pure, hT.run_info hi, e1, e2]
          have e6 : ¬ (((decide (c < 0) || decide ((i.bytes : Int) * c > 2 ^ 48)) || decide (l < 0) || decide (l > c)) = true) := by
            simp at e3 ⊢; omega
          rw [if_neg e6]
          simp only [Sem.run_bind, run_askRoom, Result.andThen_ok, hT.run_size hi]
          by_cases e0 : c.toNat * i.size = 0
          · rw [if_pos e0]
            have e7 : ((Array.range (c.toNat * i.size)).map fun k => (#[] : Array Value)[k % (#[] : Array Value).size]!) = zeros z'.cells (c.toNat * i.size) := by rw [e0]; simp [zeros]
            simp only [Sem.run_bind, Sem.run_pure, Result.andThen_ok, e7, g1]
          · rw [if_neg e0]
            have e7 : ((Array.range (c.toNat * i.size)).map fun k => z'.cells[k % z'.cells.size]!) = zeros z'.cells (c.toNat * i.size) := rfl
            simp only [Sem.run_bind, Sem.run_pure, Result.andThen_ok, hT.run_zero hi hzz, e7, g1]
        · subst g2
          refine slice_new ?_ ?_ (by omega)
          · unfold capOk
            split
            · rfl
            · omega
          · simp [zeros]
    · cases hm
  · cases hm

/-! A map's entry. -/
def updA (T : Tab) (H : AHeap) (t : TypeId) (m k v : Value) : Option AHeap :=
  match T.und t, m with
  | some (.map kt _), .map (some r) => match H.get r with
    | some (.map es clock) => cond (flat 2 k) (match pureA T.P (Instr.checkKey false 10000 kt k), findA T kt k es with
      | some (), some (some (i, _)) => cond (Instr.sameBits 10000 (((es[i]?).map (·.key)).getD k) k) (some (H.put r (some (.map (es.modify i fun e => { e with key := k, val := v }) clock)))) none
      | some (), some none => some (H.put r (some (.map (es ++ [{ key := k, val := v, born := clock }]) (clock + 1))))
      | _, _ => none) none
    | _ => none
  | _, _ => none

theorem run_setObj {P : Program} {w : World} {r : Nat} {o o' : Obj} (h : w.heap[r]? = some o) (hn : ∀ c e f, o ≠ .cells c e f) : (setObj r o').run P w = .ok () (setH w r o') := by
  cases o <;> first | exact absurd rfl (hn _ _ _) | (simp only [setObj, Sem.run, h]; rfl)

theorem ER.modify {γ : Gam} {es es' : List MapEntry} (h : ER γ es es') {k v v' : Value} (hk : VR γ k k) (hv : VR γ v v') (i : Nat) :
    ER γ (es.modify i fun e => { e with key := k, val := v }) (es'.modify i fun e => { e with key := k, val := v' }) := by
  refine ⟨by simp [h.1], fun j x x' hx hx' => ?_⟩
  rw [List.getElem?_modify] at hx hx'
  cases hj : es[j]? with
  | none => rw [hj] at hx; cases hx
  | some e =>
    cases hj' : es'[j]? with
    | none => rw [hj'] at hx'; cases hx'
    | some e' =>
      rw [hj] at hx; rw [hj'] at hx'
      obtain ⟨a, b, c⟩ := h.2 j e e' hj hj'
      by_cases e1 : i = j
      · subst e1
        simp only [if_true, Option.map_eq_map, Option.map_some, Option.some.injEq] at hx hx'
        subst hx; subst hx'
        exact ⟨hk, hv, c⟩
      · simp only [if_neg e1, Option.map_eq_map, Option.map_some, Option.some.injEq] at hx hx'
        subst hx; subst hx'
        exact ⟨a, b, c⟩

theorem ER.push {γ : Gam} {es es' : List MapEntry} (h : ER γ es es') {e e' : MapEntry} (h1 : VR γ e.key e'.key) (h2 : VR γ e.val e'.val) (h3 : e.born = e'.born) : ER γ (es ++ [e]) (es' ++ [e']) := by
  refine ⟨by simp [h.1], fun j x x' hx hx' => ?_⟩
  rw [List.getElem?_append] at hx hx'
  rw [← h.1] at hx'
  split at hx
  · rename_i hj; rw [if_pos hj] at hx'; exact h.2 j x x' hx hx'
  · rename_i hj; rw [if_neg hj] at hx'
    cases hjj : j - es.length with
    | zero => rw [hjj] at hx hx'; simp at hx hx'; subst hx; subst hx'; exact ⟨h1, h2, h3⟩
    | succ n => rw [hjj] at hx; simp at hx

theorem ER.key {γ : Gam} {es es' : List MapEntry} (h : ER γ es es') (hf : keysFlat es = true) (i : Nat) (k : Value) : ((es'[i]?).map (·.key)).getD k = ((es[i]?).map (·.key)).getD k := by
  cases hi : es[i]? with
  | none =>
    have : es'[i]? = none := by
      rw [List.getElem?_eq_none_iff] at hi ⊢
      rw [← h.1]; exact hi
    rw [this]
  | some e =>
    have hlt : i < es'.length := by
      rw [← h.1]
      rcases Nat.lt_or_ge i es.length with h | h
      · exact h
      · rw [List.getElem?_eq_none h] at hi; cases hi
    rw [List.getElem?_eq_getElem hlt]
    obtain ⟨a, _, _⟩ := h.2 i e _ hi (List.getElem?_eq_getElem hlt)
    have hm : e ∈ es := List.mem_of_getElem? hi
    exact flat_eq (List.all_eq_true.1 hf e hm) a

theorem findA_flat {kt : TypeId} {k : Value} {es : List MapEntry} {r : Option (Nat × Value)} (h : findA T kt k es = some r) : keysFlat es = true := by
  unfold findA at h
  split at h
  · cases hf : keysFlat es with
    | false => rw [hf] at h; cases h
    | true => rfl
  · cases h

theorem updA_ok (hT : T.Ok) {γ : Gam} {H H' : AHeap} {w : World} (h : HRT T γ H w) {t : TypeId} {m k v m' k' v' : Value} (hu : updA T H t m k v = some H') (hm : VR γ m m') (hk : VR γ k k') (hv : VR γ v v') :
    ∃ w', (Instr.mapUpdate t m' k' v').run T.P w = .ok () w' ∧ StepT T γ H w γ H' w' := by
  unfold updA at hu
  split at hu
  · rename_i kt et r hu1
    split at hu
    · rename_i es clock hb
      cases hf : flat 2 k with
      | false => rw [hf] at hu; cases hu
      | true =>
        rw [hf] at hu
        simp only [cond_true] at hu
        have hk' : k' = k := flat_eq hf hk
        subst hk'
        cases hm with
        | map hA =>
          rename_i A
          obtain ⟨es', h1, h2⟩ := map_at h hA hb
          split at hu
          · rename_i i v0 hp hfd
            cases hsb : Instr.sameBits 10000 (((es[i]?).map (·.key)).getD k') k' with
            | false => rw [hsb] at hu; cases hu
            | true =>
              rw [hsb] at hu
              simp only [cond_true, Option.some.injEq] at hu
              subst hu
              obtain ⟨r', h3, h4⟩ := findA_ok hT (w := w) hfd h2
              match r', h4 with
              | some (i', v1), h4 =>
                obtain ⟨rfl, _⟩ := h4
                refine ⟨setH w A.B (.map (es'.modify i fun e => { e with key := k', val := v' }) clock), ?_, ?_⟩
                · have hkey : ((es'[i]?).map (·.key)).getD k' = ((es[i]?).map (·.key)).getD k' := by
                    have := h2.key (findA_flat hfd) i k'
                    rwa [Array.getElem?_toList] at this
                  have hst : (Instr.keyThatStays (((es'[i]?).map (·.key)).getD k') k').run T.P w = .ok k' w := by
                    rw [hkey]
                    simp only [Instr.keyThatStays, hsb, if_true, Sem.run_pure]
                  simp only [Instr.mapUpdate, Sem.run_bind, hT.run_und hu1, Result.andThen_ok, run_getObj_map h1, pureA_run hp, h3, hst]
                  exact run_setObj h1 (fun _ _ _ e => by cases e)
                · refine Step.set h hb rfl hA ?_
                  refine ⟨_, setH_same (by have := h1; rw [Array.getElem?_eq_some_iff] at this; exact this.1), ?_⟩
                  rw [Array.toList_modify]
                  exact h2.modify hk hv i
          · rename_i hp hfd
            cases hu
            obtain ⟨r', h3, h4⟩ := findA_ok hT (w := w) hfd h2
            match r', h4 with
            | none, h4 =>
              refine ⟨setH w A.B (.map (es'.push { key := k', val := v', born := clock }) (clock + 1)), ?_, ?_⟩
              · simp only [Instr.mapUpdate, Sem.run_bind, hT.run_und hu1, Result.andThen_ok, run_getObj_map h1, pureA_run hp, h3]
                exact run_setObj h1 (fun _ _ _ e => by cases e)
              · refine Step.set h hb rfl hA ?_
                refine ⟨_, setH_same (by have := h1; rw [Array.getElem?_eq_some_iff] at this; exact this.1), ?_⟩
                rw [Array.toList_push]
                exact h2.push hk hv rfl
          · cases hu
    · cases hu
  · cases hu

/-! A text's bytes. -/
def bytesA (T : Tab) (H : AHeap) (src dst : TypeId) (x : Value) : Option (Value × AHeap) :=
  match T.und src, T.und dst, x with
  | some _, some (.slice e), .string s => match T.und e, T.info e with
    | some (.int .u8), some i => cond (Nat.beq i.size 1 && Nat.ble s.size 1000000) (some (.slice (some ⟨H.next, 0, none⟩) s.size (U + s.size), H.new (.cells (byteCells s) e ⟨true, false⟩))) none
    | _, _ => none
  | _, _, _ => none

theorem bytesWorld_eq (w : World) (e : TypeId) (s : ByteArray) :
    Lib.bytesWorld w e s = { w with drawn := w.drawn + 1, heap := w.heap.push (.cells (Lib.bytesCells w e s) e ((Lib.bytesCells w e s).size, (Lib.bytesCells w e s).size + 1)) } := by
  have hh : (Lib.bytesWorld w e s).heap = w.heap.push (.cells (Lib.bytesCells w e s) e ((Lib.bytesCells w e s).size, (Lib.bytesCells w e s).size + 1)) := by
    refine Array.ext_getElem? fun i => ?_
    rw [Array.getElem?_push]
    by_cases h1 : i = w.heap.size
    · subst h1; rw [if_pos rfl]; exact Lib.bytesWorld_at_new w e s
    · rw [if_neg h1]
      rcases Nat.lt_or_ge i w.heap.size with h2 | h2
      · exact Lib.bytesWorld_at_old w e s i h2
      · rw [Array.getElem?_eq_none (by rw [Lib.bytesWorld_size]; omega), Array.getElem?_eq_none h2]
  have h2 : ∀ a b : World, a.heap = b.heap → a.tape = b.tape → a.drawn = b.drawn → a.os = b.os → a.output = b.output → a = b := by
    intro a b q1 q2 q3 q4 q5
    cases a; cases b; simp_all
  refine h2 _ _ hh ?_ ?_ ?_ ?_ <;> (simp only [Lib.bytesWorld, World.freeze]; split <;> rfl)

theorem bytesA_ok (hT : T.Ok) {γ : Gam} {H H' : AHeap} {w : World} (h : HRT T γ H w) (hf : γ H.next = none) {src dst : TypeId} {x x' r : Value} (hb : bytesA T H src dst x = some (r, H')) (hx : VR γ x x') :
    ∃ γ' r' w', (convert src dst x').run T.P w = .ok r' w' ∧ VR γ' r r' ∧ StepT T γ H w γ' H' w' := by
  unfold bytesA at hb
  split at hb
  · rename_i d e s hs hd
    split at hb
    · rename_i i he hi
      cases hq : (Nat.beq i.size 1 && Nat.ble s.size 1000000) with
      | false => rw [hq] at hb; cases hb
      | true =>
        rw [hq] at hb
        simp only [cond_true, Option.some.injEq, Prod.mk.injEq] at hb
        obtain ⟨rfl, rfl⟩ := hb
        simp only [Bool.and_eq_true] at hq
        have hz : i.size = 1 := by simpa using hq.1
        cases hx
        have hrun := Lib.run_convert_string_bytes (P := T.P) w src dst e s (hT.und hs) (hT.und hd) (hT.und he)
        have hsz : (Lib.bytesCells w e s).size = grownCap w s.size 0 e := by
          have := grown_ge w s.size 0 e
          have hd : s.data.size = s.size := rfl
          simp [Lib.bytesCells, hd]; omega
        refine ⟨add γ H.next { B := w.heap.size, o := 0, N := (Lib.bytesCells w e s).size, s := 1 }, _, _, hrun, ?_, ?_⟩
        · refine slice_new ?_ (by rw [hsz]; omega) (grown_ge _ _ _ _)
          unfold capOk
          rw [if_neg (by omega)]
          have := grown_ge w s.size 0 e
          omega
        · rw [bytesWorld_eq]
          have s1 := Step.drew h (w.drawn + 1)
          refine s1.trans (Step.new s1.hr hf rfl ?_)
          refine ⟨Lib.bytesCells w e s, ((Lib.bytesCells w e s).size, (Lib.bytesCells w e s).size + 1), by simp, rfl, .inr ⟨rfl, Nat.le_refl _⟩, ⟨⟨i, hi, hz⟩, fun q => by cases q⟩, ?_, ?_⟩
          · simp only [byteCells_length]; rw [hsz]; have := grown_ge w s.size 0 e; omega
          · intro k v hv
            refine ⟨v, ?_, ?_⟩
            · show (Lib.bytesCells w e s)[0 + k]? = some v
              rw [Nat.zero_add]
              unfold byteCells at hv
              rw [List.getElem?_map] at hv
              cases hk : s.data.toList[k]? with
              | none => rw [hk] at hv; cases hv
              | some b =>
                rw [hk] at hv
                simp only [Option.map_some, Option.some.injEq] at hv
                subst hv
                rw [Array.getElem?_toList] at hk
                have hlt : k < s.data.size := by
                  rcases Nat.lt_or_ge k s.data.size with h | h
                  · exact h
                  · rw [Array.getElem?_eq_none h] at hk; cases hk
                unfold Lib.bytesCells
                rw [Array.getElem?_append_left (by simpa using hlt), Array.getElem?_map, hk]
                rfl
            · exact ((byteCells_flat (γ := γ) s).2 k v v hv hv).mono (sub_add hf)
    · cases hb
  · cases hb

/-! Bytes that are told to have been a text. -/
def markA (T : Tab) (H : AHeap) (t : TypeId) (x : Value) : Option (Value × AHeap) :=
  match T.und t, x with
  | some (.slice e), .slice (some ⟨b, o, none⟩) n c => match T.und e with
    | some (.int .u8) => match H.get b with
      | some (.cells cs e' st) => cond (Nat.beq n 0) none (some (.slice (some ⟨b, o, none⟩) n c, H.put b (some (.cells cs e' ⟨true, st.ex⟩))))
      | _ => none
    | _ => none
  | _, _ => none

theorem markA_ok (hT : T.Ok) {γ : Gam} {H H' : AHeap} {w : World} (h : HRT T γ H w) {t : TypeId} {x x' r : Value} (hb : markA T H t x = some (r, H')) (hx : VR γ x x') :
    ∃ r' w', (convert t t x').run T.P w = .ok r' w' ∧ VR γ r r' ∧ StepT T γ H w γ H' w' := by
  unfold markA at hb
  split at hb
  · rename_i e b o n c hu
    split at hb
    · rename_i he
      split at hb
      · rename_i cs e' st hg
        cases hn0 : Nat.beq n 0 with
        | true => rw [hn0] at hb; cases hb
        | false =>
        rw [hn0] at hb
        cases hb
        have hx2 := hx
        have key : ∀ {A : At} {c' : Nat}, γ b = some A → ∃ r' w', (convert t t (.slice (some ⟨A.B, A.o + o, none⟩) n c')).run T.P w = .ok r' w' ∧ r' = .slice (some ⟨A.B, A.o + o, none⟩) n c' ∧ StepT T γ H w γ (H.put b (some (.cells cs e' ⟨true, st.ex⟩))) w' := by
          intro A c' hA
          obtain ⟨A', h1, cc, fr, h2, h3, h4, h5, h6, h7⟩ := h.live b _ hg
          rw [hA] at h1; cases h1
          have hsh : w.shape? A.B = some (e', cc.size) := by simp [World.shape?, h2]
          refine ⟨.slice (some ⟨A.B, A.o + o, none⟩) n c', setH w A.B (.cells cc e' (if fr.1 == fr.2 then (cc.size, cc.size + 1) else (min fr.1 cc.size, max fr.2 (cc.size + 1)))), ?_, rfl, ?_⟩
          · have hlt2 : A.B < w.heap.size := by rw [Array.getElem?_eq_some_iff] at h2; exact h2.1
            have hf : w.freeze { block := A.B, off := cc.size } 1 = setH w A.B (.cells cc e' (if fr.1 == fr.2 then (cc.size, cc.size + 1) else (min fr.1 cc.size, max fr.2 (cc.size + 1)))) := by
              simp only [World.freeze, setH, Nat.one_ne_zero, if_false]
              congr 1
              refine Array.ext_getElem? fun i => ?_
              rw [Array.getElem?_modify]
              by_cases hi : A.B = i
              · subst hi
                obtain ⟨hlt3, h2'⟩ := Array.getElem?_eq_some_iff.1 h2
                obtain ⟨lo, hi⟩ := fr
                simp [hlt3, h2']
              · simp [hi, Array.getElem?_setIfInBounds_ne hi]
            simp only [convert, Sem.run_bind, hT.run_und hu, Result.andThen_ok, hT.run_und he, beq_self_eq_true, markStringish, run_shape, hsh, run_freeze, hf, Sem.run_pure]
          · refine Step.set h hg rfl hA ?_
            have hlt2 : A.B < w.heap.size := by rw [Array.getElem?_eq_some_iff] at h2; exact h2.1
            refine ⟨cc, (if fr.1 == fr.2 then (cc.size, cc.size + 1) else (min fr.1 cc.size, max fr.2 (cc.size + 1))), by simp [setH, hlt2], h3, .inr ⟨rfl, ?_⟩, h5, h6, h7⟩
            split
            · show A.N ≤ cc.size
              rw [h3]; exact Nat.le_refl _
            · rename_i hne
              show A.N ≤ min fr.1 cc.size
              rcases h4 with rfl | ⟨_, h4⟩
              · simp at hne
              · simp only [h3]; omega
        cases hx with
        | slice hA hc hle hn =>
          obtain ⟨r', w', g1, g2, g3⟩ := key hA
          exact ⟨r', w', g1, by rw [g2]; exact hx2, g3⟩
        | noSlice hc hs => cases hn0
      · cases hb
    · cases hb
  · cases hb

theorem markA_next {H H' : AHeap} {t : TypeId} {x r : Value} (hb : markA T H t x = some (r, H')) : H'.next = H.next := by
  unfold markA at hb
  split at hb
  · rename_i e b o n c hu
    split at hb
    · split at hb
      · cases hn0 : Nat.beq n 0 with
        | true => rw [hn0] at hb; cases hb
        | false => rw [hn0] at hb; cases hb; rfl
      · cases hb
    · cases hb
  · cases hb
end Go.AM
end

section
/- The abstract machine, part Ib: pointers without types. -/
namespace Go.AM
variable {T : Tab}

/-- A pointer that loses its type, or gets it again. -/
def ptrA (T : Tab) (H : AHeap) (src dst : TypeId) (x : Value) : Option Value :=
  match T.und src, T.und dst, x with
  | some (.pointer t), some .unsafePointer, .pointer (some ⟨b, o, none⟩) => match H.get b, T.info t with
    | some (.cells c _ _), some j => cond (Nat.blt o c.length && !Nat.beq j.size 0) (some x) none
    | _, _ => none
  | some .unsafePointer, some (.pointer u), .pointer (some ⟨b, o, none⟩) => match H.get b, T.info u with
    | some (.cells c e st), some _ => cond (st.ex && liesAt T.P T.P.depth e (c.length / T.P.cellsOf e) o u 1) (some x) none
    | _, _ => none
  | _, _, _ => none

theorem ptrA_ok (hT : T.Ok) {γ : Gam} {H : AHeap} {w : World} (h : HRT T γ H w) {src dst : TypeId} {x x' v : Value} (hp : ptrA T H src dst x = some v) (hx : VR γ x x') :
    ∃ v', (convert src dst x').run T.P w = .ok v' w ∧ VR γ v v' := by
  unfold ptrA at hp
  split at hp
  · rename_i t b o hs hd
    split at hp
    · rename_i c e st j hb hj
      cases hq : (Nat.blt o c.length && !Nat.beq j.size 0) with
      | false => rw [hq] at hp; cases hp
      | true =>
        rw [hq] at hp; cases hp
        simp only [Bool.and_eq_true] at hq
        have hx2 := hx
        cases hx with
        | ptr hA =>
          rename_i A
          obtain ⟨A', h1, cc, fr, h2, h3, h4, h5, h6, h7⟩ := h.live b _ hb
          rw [hA] at h1; cases h1
          have hlt : o < c.length := by simpa using hq.1
          have hsz : j.size ≠ 0 := by intro e0; rw [e0] at hq; simp at hq
          exact ⟨_, Lib.run_to_unsafe w ⟨A.B, A.o + o, none⟩ (hT.und hs) (hT.und hd) (hT.info _ _ hj) hsz (e := e) (cells := cc.size) (by simp [World.shape?, h2]) (by show A.o + o < cc.size; omega), hx2⟩
    · cases hp
  · rename_i u b o hs hd
    split at hp
    · rename_i c e st j hb hj
      cases hq : (st.ex && liesAt T.P T.P.depth e (c.length / T.P.cellsOf e) o u 1) with
      | false => rw [hq] at hp; cases hp
      | true =>
        rw [hq] at hp; cases hp
        simp only [Bool.and_eq_true] at hq
        have hx2 := hx
        cases hx with
        | ptr hA =>
          rename_i A
          obtain ⟨A', h1, cc, fr, h2, h3, h4, h5, h6, h7⟩ := h.live b _ hb
          rw [hA] at h1; cases h1
          obtain ⟨g1, g2⟩ := h5.2 hq.1
          refine ⟨_, Lib.run_from_unsafe w ⟨A.B, A.o + o, none⟩ (hT.und hs) (hT.und hd) (hT.info _ _ hj) (e := e) (cells := cc.size) (by simp [World.shape?, h2]) ?_, hx2⟩
          show liesAt T.P T.P.depth e (cc.size / T.P.cellsOf e) (A.o + o) u 1 = true
          rw [g1, Nat.zero_add, h3, ← g2]
          exact hq.2
    · cases hp
  · cases hp

theorem ptrA_mono {H H' : AHeap} (hs : ∀ b o, H.get b = some o → H'.get b = some o) {src dst : TypeId} {x v : Value} (hp : ptrA T H src dst x = some v) : ptrA T H' src dst x = some v := by
  unfold ptrA at *
  split at hp
  · rename_i t b o h1 h2
    try rw [h1, h2]
    try simp only
    split at hp
    · rename_i c e st j hb hj
      try rw [hs _ _ hb, hj]
      exact hp
    · cases hp
  · rename_i u b o h1 h2
    try rw [h1, h2]
    try simp only
    split at hp
    · rename_i c e st j hb hj
      try rw [hs _ _ hb, hj]
      exact hp
    · cases hp
  · cases hp

/-- The first place of a row. -/
def sliceDataA (x : Value) : Option Value :=
  match x with
  | .slice none 0 0 => some (.pointer none)
  | .slice (some ⟨b, o, none⟩) n _ => cond (Nat.beq n 0) none (some (.pointer (some ⟨b, o, none⟩)))
  | _ => none

theorem sliceDataA_ok {γ : Gam} {w : World} {ts : Array TypeId} {ty : TypeId} {x x' v : Value} (hp : sliceDataA x = some v) (hx : VR γ x x') :
    ∃ v', (Builtin.unsafeSliceData_ ts ty #[x']).run T.P w = .ok v' w ∧ VR γ v v' := by
  unfold sliceDataA at hp
  split at hp
  · cases hp; cases hx
    exact ⟨_, Lib.run_unsafeSliceData_nil w ts ty 0 0, .nilPtr⟩
  · rename_i b o n c
    cases hn : Nat.beq n 0 with
    | true => rw [hn] at hp; cases hp
    | false =>
      rw [hn] at hp; cases hp
      have hn0 : n ≠ 0 := by intro e; subst e; simp at hn
      cases hx with
      | slice hA hc hle hnc =>
        exact ⟨_, Lib.run_unsafeSliceData_row w ts ty _ n _ (by omega), .ptr hA⟩
      | noSlice _ _ => exact absurd rfl hn0
  · cases hp

theorem liesAt_bytes' {P : Program} {e : TypeId} (hc : P.cellsOf e = 1) (count off n : Nat) (hn : off + n ≤ count) : liesAt P P.depth e count off e n = true := by
  have hd : P.depth = (2 * (P.types.size + Made.depth) + 1) + 1 := rfl
  rw [hd]
  simp only [liesAt, Bool.or_eq_true]
  left
  rw [hd]
  simp [rowAt, hc, hn, sameLayout, Nat.mod_one]

theorem run_unsafeString_at {P : Program} (w : World) (pt it ty e : TypeId) (hp : P.underlying pt = some (.pointer e)) (hc : P.cellsOf e = 1) (g f cells : Nat) (hsh : w.shape? g = some (e, cells)) (l : List UInt8) (h0 : l ≠ []) (hn : f + l.length ≤ cells) (h63 : l.length ≤ 9223372036854775807)
    (hcell : ∀ j x, l[j]? = some x → w.cell? ((⟨g, f, none⟩ : Addr).add j) = some (.int .u8 x.toNat)) :
    (Builtin.unsafeString_ #[pt, it] ty #[.pointer (some ⟨g, f, none⟩), .int .i64 l.length]).run P w = .ok (.string ⟨l.toArray⟩) (w.freeze ⟨g, f, none⟩ l.length) := by
  have hl : l.length ≠ 0 := by simpa using h0
  have hlb := Lib.run_loadBytes (P := P) w l ⟨g, f, none⟩ .empty hcell
  have hlies := liesAt_bytes' (P := P) hc (cells / P.cellsOf e) f l.length (by rw [hc]; simpa using hn)
  have h63' : ¬ (9223372036854775807 : Int) < (l.length : Int) := by omega
  have hdef : Builtin.unsafeString_ #[pt, it] ty #[.pointer (some ⟨g, f, none⟩), .int .i64 l.length] =
      (do
        let n ← asInt (.int .i64 l.length)
        if n < 0 then runtimePanic (.error "unsafe.String: len out of range")
        if n > IntKind.i64.max then unsupported (.unsafePointer "String: a length above the largest int")
        if n = 0 then pure (.string .empty)
        else if ← variablesAt ⟨g, f, none⟩ (← elemOf pt) n.toNat then do
          let s ← loadBytes ⟨g, f, none⟩ .empty n.toNat
          freeze ⟨g, f, none⟩ n.toNat
          pure (.string s)
        else unsupported (.unsafePointer "String: not so many bytes at ptr")) := rfl
  rw [hdef]
  have hmax : IntKind.i64.max = 9223372036854775807 := rfl
  have hneg : ¬ (l.length : Int) < 0 := by omega
  simp [asInt, asIntOf, hmax, h63', hneg, hl, variablesAt, hsh, elemOf, run_underlying hp, hlies, hlb]

/-- A block that is lost, and what is done to it. -/
theorem Step.lose {I : TypeId → Option TypeInfo} {G : Nat} {γ : Gam} {H : AHeap} {w w' : World} (h : HR I G γ H w) {b : Nat} {o : AObj} {A : At} (hb : H.get b = some o) (hwr : o.wr = true) (hA : γ b = some A)
    (hw : ∀ B, B ≠ A.B → w'.heap[B]? = w.heap[B]?) (hsz : w'.heap.size = w.heap.size) (h1 : w'.os = w.os) (h2 : w'.output = w.output) (h3 : w'.tape = w.tape) : Step I G γ H w γ (H.put b none) w' := by
  have hget : ∀ c p, (H.put b none).get c = some p → c ≠ b ∧ H.get c = some p := by
    intro c p hc
    rw [AHeap.get_put] at hc
    split at hc
    · cases hc
    · rename_i e; exact ⟨e, hc⟩
  exact {
    le := Nat.le_refl _
    agree := fun _ _ => rfl
    sub := .refl γ
    hr := {
      live := fun c p hc => by
        obtain ⟨e, hc⟩ := hget c p hc
        obtain ⟨D, g1, g2⟩ := h.live c p hc
        exact ⟨D, g1, g2.mono (.refl _) (hw _ fun q => e (h.inj c b p o D A hc hb g1 hA q (.inr hwr)))⟩
      inj := fun c d p q D E hc hd hD hE e hq => h.inj c d p q D E (hget c p hc).2 (hget d q hd).2 hD hE e hq
      glob := h.glob }
    frame := fun B _ hn => hw B fun e => hn b o A hb hwr hA e.symm
    fresh := fun c p D hc hD => .inr ⟨c, p, D, (hget c p hc).2, hD, rfl, id⟩
    size := by rw [hsz]; exact Nat.le_refl _
    os := h1
    output := h2
    tape := h3 }

def bytesOf : List Value → Option (List UInt8)
  | [] => some []
  | .int .u8 n :: r => cond (decide (0 ≤ n ∧ n < 256)) (match bytesOf r with
    | some l => some (UInt8.ofNat n.toNat :: l)
    | none => none) none
  | _ :: _ => none

theorem bytesOf_eq : ∀ {l : List Value} {bs : List UInt8}, bytesOf l = some bs → l = bs.map fun x => Value.int .u8 x.toNat := by
  intro l
  induction l with
  | nil => intro bs h; simp [bytesOf] at h; subst h; rfl
  | cons v r ih =>
    intro bs h
    unfold bytesOf at h
    split at h
    · rename_i e; cases e
    · rename_i n r' e
      cases e
      cases hq : decide (0 ≤ n ∧ n < 256) with
      | false => rw [hq] at h; cases h
      | true =>
        rw [hq] at h
        simp only [cond_true] at h
        split at h
        · rename_i l' hl
          cases h
          have hn := of_decide_eq_true hq
          rw [ih hl]
          simp only [List.map_cons, List.cons.injEq, Value.int.injEq, true_and, and_true]
          have : (UInt8.ofNat n.toNat).toNat = n.toNat := by
            simp only [UInt8.toNat_ofNat']
            omega
          rw [this]; omega
        · cases h
    · cases h

/-- unsafe.String -/
def unsafeStrA (T : Tab) (H : AHeap) (pt : TypeId) (p n : Value) : Option (Value × AHeap) :=
  match T.und pt, p, n with
  | _, .pointer none, .int .i64 0 => some (.string .empty, H)
  | some (.pointer e), .pointer (some ⟨b, o, none⟩), .int .i64 n => match H.get b, T.info e with
    | some (.cells _ e' _), some i => cond (Nat.beq e e' && Nat.beq i.size 1 && decide (0 < n ∧ n ≤ 1000000000)) (match ldN H b o n.toNat with
      | some l => match bytesOf l with
        | some bs => some (.string ⟨bs.toArray⟩, H.put b none)
        | none => none
      | none => none) none
    | _, _ => none
  | _, _, _ => none

theorem unsafeStrA_next {H H' : AHeap} {pt : TypeId} {p n v : Value} (h : unsafeStrA T H pt p n = some (v, H')) : H'.next = H.next := by
  unfold unsafeStrA at h
  split at h
  · cases h; rfl
  · rename_i e b o n _
    split at h
    · rename_i e' _ i _ _
      cases hq : (Nat.beq e e' && Nat.beq i.size 1 && decide (0 < n ∧ n ≤ 1000000000)) with
      | false => rw [hq] at h; cases h
      | true =>
        rw [hq] at h
        simp only [cond_true] at h
        split at h
        · split at h
          · cases h; rfl
          · cases h
        · cases h
    · cases h
  · cases h

theorem unsafeStrA_ok (hT : T.Ok) {γ : Gam} {H H' : AHeap} {w : World} (h : HRT T γ H w) {pt it ty : TypeId} {p n p' n' v : Value} (hs : unsafeStrA T H pt p n = some (v, H')) (hp : VR γ p p') (hn : VR γ n n') :
    ∃ v' w', (Builtin.unsafeString_ #[pt, it] ty #[p', n']).run T.P w = .ok v' w' ∧ VR γ v v' ∧ StepT T γ H w γ H' w' := by
  unfold unsafeStrA at hs
  split at hs
  · cases hs; cases hp; cases hn
    exact ⟨_, w, Lib.run_unsafeString_none w pt it ty none, .string _, Step.refl h⟩
  · rename_i e b o n hu
    split at hs
    · rename_i c e' st i hb hi
      cases hq : (Nat.beq e e' && Nat.beq i.size 1 && decide (0 < n ∧ n ≤ 1000000000)) with
      | false => rw [hq] at hs; cases hs
      | true =>
        rw [hq] at hs
        simp only [cond_true] at hs
        simp only [Bool.and_eq_true] at hq
        obtain ⟨⟨q1, q2⟩, q3⟩ := hq
        have q1 := Nat.eq_of_beq_eq_true q1
        have q2 : i.size = 1 := by simpa using q2
        have q3 := of_decide_eq_true q3
        subst q1
        split at hs
        · rename_i l hl
          split at hs
          · rename_i bs hbs
            cases hs
            have el := bytesOf_eq hbs
            cases hn
            cases hp with
            | ptr hA =>
              rename_i A
              obtain ⟨l', g1, g2, g3⟩ := cells_of h hA hl
              obtain ⟨A', k1, cc, fr, k2, k3, k4, k5, k6, k7⟩ := h.live b _ hb
              rw [hA] at k1; cases k1
              have hlen : bs.length = n.toNat := by
                have := g1.1; rw [el] at this; simp at this; omega
              have hcs : T.P.cellsOf e = 1 := by simp [Program.cellsOf, hT.info _ _ hi, q2]
              have hfit : o + n.toNat ≤ c.length := by
                unfold ldN at hl
                rw [hb] at hl
                simp only at hl
                cases hz : Nat.ble (o + n.toNat) c.length with
                | false => rw [hz] at hl; cases hl
                | true => exact Nat.le_of_ble_eq_true hz
              have hcell : ∀ j x, bs[j]? = some x → w.cell? ((⟨A.B, A.o + o, none⟩ : Addr).add j) = some (.int .u8 x.toNat) := by
                intro j x hj
                have hlj : l[j]? = some (Value.int .u8 x.toNat) := by rw [el, List.getElem?_map, hj]; rfl
                cases hlj' : l'[j]? with
                | none =>
                  have : j < l.length := by
                    rw [List.getElem?_eq_some_iff] at hlj; exact hlj.1
                  rw [List.getElem?_eq_none_iff] at hlj'
                  have := g1.1; omega
                | some y =>
                  have hy := g1.2 j _ _ hlj hlj'
                  cases hy
                  have := g3 j _ hlj'
                  rw [add_off]; exact this
              have hrun := run_unsafeString_at (P := T.P) w pt it ty e (hT.und hu) hcs A.B (A.o + o) cc.size (by simp [World.shape?, k2]) bs (by intro e0; subst e0; simp at hlen; omega) (by omega) (by omega) hcell
              have en : (n : Int) = (bs.length : Int) := by omega
              rw [en]
              refine ⟨_, _, hrun, .string _, Step.lose h hb rfl hA ?_ ?_ ?_ ?_ ?_⟩
              · intro B hB
                unfold World.freeze
                split
                · rfl
                · simp only [Array.getElem?_modify]
                  rw [if_neg (fun e0 => hB e0.symm)]
              all_goals (unfold World.freeze; split <;> simp)
          · cases hs
        · cases hs
    · cases hs
  · cases hs
end Go.AM
end

section
/- The abstract machine, part J: one operation, whichever. -/
namespace Go.AM
variable {T : Tab}

/-- A store that may be the first one behind what is known of the block. -/
def st1X (H : AHeap) (b o : Nat) (v : Value) : Option AHeap :=
  match H.get b with
  | some (.cells c e st) => cond (Nat.beq o c.length && one v && !st.ex) (some (H.put b (some (.cells (c ++ [v]) e st)))) (st1 H b o v)
  | _ => none

def stX (H : AHeap) (b : Nat) : Nat → List Value → Option AHeap
  | _, [] => some H
  | o, v :: r => match st1X H b o v with
    | some H' => stX H' b (o + 1) r
    | none => none

theorem st1X_ok {P : Program} {γ : Gam} {H H' : AHeap} {w : World} (h : HRT T γ H w) {b o : Nat} {v v' : Value} {A : At} (hA : γ b = some A) (hv : VR γ v v') (hs : st1X H b o v = some H') (hN : A.o + o < A.N) :
    ∃ w', (store ⟨A.B, A.o + o, none⟩ v').run P w = .ok () w' ∧ StepT T γ H w γ H' w' := by
  unfold st1X at hs
  split at hs
  · rename_i c e st hb
    cases hc : (Nat.beq o c.length && one v && !st.ex) with
    | false => rw [hc] at hs; exact st1_ok h hA hv hs
    | true =>
      rw [hc] at hs
      simp only [cond_true, Option.some.injEq] at hs
      subst hs
      simp only [Bool.and_eq_true, Bool.not_eq_true'] at hc
      obtain ⟨⟨hc1, hc2⟩, hc3⟩ := hc
      have hc1 : o = c.length := by simpa using hc1
      obtain ⟨A', h1, cc, fr, h2, h3, h4, h5, h6, h7⟩ := h.live b _ hb
      rw [hA] at h1; cases h1
      have hsz : A.o + o < cc.size := by omega
      have hcell : w.cell? ⟨A.B, A.o + o, none⟩ = some cc[A.o + o] := by simp [World.cell?, h2, hsz]
      have hfz : w.frozen? ⟨A.B, A.o + o, none⟩ = false := by
        simp only [World.frozen?, h2]
        rcases h4 with rfl | ⟨_, h4⟩
        · simp
        · simp; intro; omega
      refine ⟨setH w A.B (.cells (cc.setIfInBounds (A.o + o) v') e fr), ?_, ?_⟩
      · rw [run_store P w _ _ _ (one_cell hv hc2)]
        simp only [hcell, hfz]
        simp only [Bool.false_eq_true, if_false]
        congr 1
        simp only [World.setCell, setH]
        congr 1
        refine Array.ext_getElem? fun i => ?_
        rw [Array.getElem?_modify]
        have hlt2 : A.B < w.heap.size := by rw [Array.getElem?_eq_some_iff] at h2; exact h2.1
        by_cases e1 : A.B = i
        · subst e1
          rw [if_pos rfl, h2, Array.getElem?_setIfInBounds_self_of_lt hlt2]
          rfl
        · rw [if_neg e1, Array.getElem?_setIfInBounds_ne e1]
      · refine Step.set h hb rfl hA ?_
        refine ⟨cc.setIfInBounds (A.o + o) v', fr, setH_same (by
          have := h2; rw [Array.getElem?_eq_some_iff] at this; exact this.1), by simp [h3], h4, ⟨h5.1, fun q => by rw [hc3] at q; cases q⟩, by simp; omega, ?_⟩
        intro k x hx
        rw [List.getElem?_append] at hx
        split at hx
        · rename_i hk
          obtain ⟨x', h8, h9⟩ := h7 k x hx
          exact ⟨x', by rw [Array.getElem?_setIfInBounds_ne (by omega)]; exact h8, h9⟩
        · rename_i hk
          have hk2 : k = o := by
            rcases Nat.lt_or_ge (k - c.length) 1 with q | q
            · omega
            · rw [List.getElem?_eq_none (by simpa using q)] at hx; cases hx
          subst hk2
          rw [hc1] at hx
          simp at hx
          subst hx
          exact ⟨v', by simp [hsz], hv⟩
  · cases hs

theorem stX_ok {P : Program} {γ : Gam} {b : Nat} {A : At} (hA : γ b = some A) (o : Nat) : ∀ (vs vs' : List Value) (i : Nat) (H H' : AHeap) (w : World), HRT T γ H w → VL γ vs vs' → A.o + o + i + vs.length ≤ A.N →
    stX H b (o + i) vs = some H' → ∃ w', (storeCells ⟨A.B, A.o + o, none⟩ vs' i).run P w = .ok () w' ∧ StepT T γ H w γ H' w' := by
  intro vs
  induction vs with
  | nil =>
    intro vs' i H H' w h hv hn hs
    have : vs' = [] := List.eq_nil_of_length_eq_zero (by simpa using hv.1.symm)
    subst this
    simp [stX] at hs; subst hs
    exact ⟨w, by simp [storeCells], Step.refl h⟩
  | cons v r ih =>
    intro vs' i H H' w h hv hn hs
    match vs', hv with
    | [], hv => simp [VL] at hv
    | v' :: r', hv =>
      simp only [stX] at hs
      simp only [List.length_cons] at hn
      cases e1 : st1X H b (o + i) v with
      | none => simp [e1] at hs
      | some H1 =>
        simp only [e1] at hs
        obtain ⟨w1, hw1, hs1⟩ := st1X_ok (P := P) h hA (hv.2 0 v v' rfl rfl) e1 (by omega)
        obtain ⟨w2, hw2, hs2⟩ := ih r' (i + 1) H1 H' w1 hs1.hr ⟨by simpa using hv.1, fun j x x' a a' => hv.2 (j + 1) x x' (by simpa using a) (by simpa using a')⟩ (by omega) (by rw [show o + (i + 1) = o + i + 1 from by omega]; exact hs)
        refine ⟨w2, ?_, hs1.trans hs2⟩
        simp only [storeCells, Sem.run_bind, add_off]
        rw [show A.o + o + i = A.o + (o + i) from by omega, hw1]
        exact hw2

/-- Stores behind what is known, into a slice of elements of the block's own type. -/
def stE (H : AHeap) (b o : Nat) (e : TypeId) (l : List Value) : Option AHeap :=
  match H.get b with
  | some (.cells _ e' _) => cond (Nat.beq e' e) (stX H b o l) none
  | _ => none

def copyA (T : Tab) (H : AHeap) (t : TypeId) (x y : Value) : Option (Value × AHeap) :=
  match T.und t, x, y with
  | some (.slice e), .slice (some ⟨b, o, none⟩) n _, .slice (some ⟨c, p, none⟩) k _ => match T.info e with
    | some i => match ldN H c p (Nat.min k n * i.size) with
      | some l => match stN H b o l with
        | some H' => some (goInt (Nat.min k n), H')
        | none => match stE H b o e l with
          | some H' => some (goInt (Nat.min k n), H')
          | none => none
      | none => none
    | none => none
  | some (.slice e), .slice none 0 0, .slice _ _ _ => match T.info e with
    | some _ => some (goInt 0, H)
    | none => none
  | some (.slice e), .slice (some ⟨_, _, none⟩) _ _, .slice none 0 0 => match T.info e with
    | some _ => some (goInt 0, H)
    | none => none
  | _, _, _ => none

theorem copyA_ok (hT : T.Ok) {γ : Gam} {H H' : AHeap} {w : World} (h : HRT T γ H w) {t tx ty : TypeId} {x y x' y' r : Value} (hc : copyA T H t x y = some (r, H')) (hx : VR γ x x') (hy : VR γ y y') :
    ∃ r' w', (Builtin.copy_ #[t, tx] ty #[x', y']).run T.P w = .ok r' w' ∧ VR γ r r' ∧ StepT T γ H w γ H' w' := by
  unfold copyA at hc
  split at hc
  · rename_i e b o n c0 c p k c1 hu
    split at hc
    · rename_i i hi
      split at hc
      · rename_i l hl
        split at hc
        · rename_i H1 hs
          cases hc
          have done : ∀ (a' : Addr) (n' c' : Nat) (s' : Value) (cells : List Value) (w' : World), (Builtin.lenOf s').run T.P w = .ok k w → n' = n → (Builtin.firstCells i.size (Nat.min k n) s').run T.P w = .ok cells.toArray w →
              (storeCells a' cells).run T.P w = .ok () w' → (Builtin.copy_ #[t, tx] ty #[.slice (some a') n' c', s']).run T.P w = .ok (goInt (Nat.min k n)) w' := by
            intro a' n' c' s' cells w' q1 q2 q3 q4
            subst q2
            simp only [Builtin.copy_]
            simp [hT.run_und hu, q1, hT.run_size hi, q3, q4]
          cases hy with
          | slice hC f1 f2 f3 =>
            obtain ⟨l', g1, g2, g3⟩ := cells_of h hC hl
            have q3 : ∀ c' : Nat, (Builtin.firstCells i.size (Nat.min k n) (.slice (some _) k c')).run T.P w = .ok l'.toArray w := fun c' =>
              run_firstCells_some (P := T.P) w i.size (Nat.min k n) _ k c' l' g2 (fun j v hj => by rw [add_off]; exact g3 j v hj)
            cases hx with
            | slice hA _ _ _ =>
              obtain ⟨w', r1, r2⟩ := stN_ok (P := T.P) hA o l l' 0 H H' w h g1 (by simpa using hs)
              exact ⟨_, w', done _ n _ _ l' w' rfl rfl (q3 _) r1, .int _ _, r2⟩
            | noSlice _ _ =>
              have hm : Nat.min k 0 = 0 := by simp
              rw [hm, Nat.zero_mul] at g2
              have hl0' : l' = [] := List.eq_nil_of_length_eq_zero g2
              have hl0 : l = [] := List.eq_nil_of_length_eq_zero (by rw [g1.1, g2])
              subst hl0; subst hl0'
              simp only [stN, Option.some.injEq] at hs
              subst hs
              exact ⟨_, w, done _ 0 _ _ [] w rfl rfl (q3 _) (by simp [storeCells]), .int _ _, Step.refl h⟩
          | noSlice _ _ =>
            have hm : Nat.min 0 n = 0 := by simp
            rw [hm, Nat.zero_mul] at hl
            have hl0 : l = [] := by
              obtain ⟨_, _, _, _, _, q⟩ := ldN_known hl
              simpa using q
            subst hl0
            simp only [stN, Option.some.injEq] at hs
            subst hs
            have q3 : ∀ (a : Addr) (c' : Nat), (Builtin.firstCells i.size (Nat.min 0 n) (.slice (some a) 0 c')).run T.P w = .ok ([] : List Value).toArray w := fun a c' => by
              rw [hm]; simp [Builtin.firstCells, loadCells, loadCellsFrom]
            cases hx with
            | slice hA _ _ _ => exact ⟨_, w, done _ n _ _ [] w rfl rfl (q3 _ _) (by simp [storeCells]), .int _ _, Step.refl h⟩
            | noSlice _ _ => exact ⟨_, w, done _ 0 _ _ [] w rfl rfl (q3 _ _) (by simp [storeCells]), .int _ _, Step.refl h⟩
        · rename_i hsn
          split at hc
          · rename_i H1 hs
            cases hc
            have done : ∀ (a' : Addr) (n' c' : Nat) (s' : Value) (cells : List Value) (w' : World), (Builtin.lenOf s').run T.P w = .ok k w → n' = n → (Builtin.firstCells i.size (Nat.min k n) s').run T.P w = .ok cells.toArray w →
                (storeCells a' cells).run T.P w = .ok () w' → (Builtin.copy_ #[t, tx] ty #[.slice (some a') n' c', s']).run T.P w = .ok (goInt (Nat.min k n)) w' := by
              intro a' n' c' s' cells w' q1 q2 q3 q4
              subst q2
              simp only [Builtin.copy_]
              simp [hT.run_und hu, q1, hT.run_size hi, q3, q4]
            unfold stE at hs
            split at hs
            · rename_i c2 e' st2 hb2
              cases hee : Nat.beq e' e with
              | false => rw [hee] at hs; cases hs
              | true =>
                rw [hee] at hs
                simp only [cond_true] at hs
                have hee := Nat.eq_of_beq_eq_true hee
                subst hee
                cases hx with
                | slice hA x1 x2 x3 =>
                  rename_i cr A
                  have hes := elem_size h hb2 hA hi
                  cases hy with
                  | slice hC f1 f2 f3 =>
                    obtain ⟨l', g1, g2, g3⟩ := cells_of h hC hl
                    have q3 : ∀ c' : Nat, (Builtin.firstCells i.size (Nat.min k n) (.slice (some _) k c')).run T.P w = .ok l'.toArray w := fun c' =>
                      run_firstCells_some (P := T.P) w i.size (Nat.min k n) _ k c' l' g2 (fun j v hj => by rw [add_off]; exact g3 j v hj)
                    have hfit : A.o + o + 0 + l.length ≤ A.N := by
                      rw [g1.1, g2]
                      have : Nat.min k n * i.size ≤ cr * i.size := Nat.mul_le_mul_right _ (by have : Nat.min k n ≤ n := Nat.min_le_right _ _; omega)
                      rw [hes] at x2
                      omega
                    obtain ⟨w', r1, r2⟩ := stX_ok (P := T.P) hA o l l' 0 H H' w h g1 hfit (by simpa using hs)
                    exact ⟨_, w', done _ n _ _ l' w' rfl rfl (q3 _) r1, .int _ _, r2⟩
                  | noSlice _ _ =>
                    have hm : Nat.min 0 n = 0 := by simp
                    rw [hm, Nat.zero_mul] at hl
                    have hl0 : l = [] := by
                      obtain ⟨_, _, _, _, _, q⟩ := ldN_known hl
                      simpa using q
                    subst hl0
                    simp [stN] at hsn
                | noSlice _ _ =>
                  have hm : Nat.min k 0 = 0 := by simp
                  have hl0 : l = [] := by
                    rw [hm, Nat.zero_mul] at hl
                    obtain ⟨_, _, _, _, _, q⟩ := ldN_known hl
                    simpa using q
                  subst hl0
                  simp [stN] at hsn
            · cases hs
          · cases hc
      · cases hc
    · cases hc
  · rename_i e a k c hu
    split at hc
    · rename_i i hi
      cases hc
      cases hx
      refine ⟨goInt 0, w, ?_, .int _ _, Step.refl h⟩
      have hz : ∀ m : Nat, Nat.min m 0 = 0 := fun m => by simp
      cases hy <;> simp [Builtin.copy_, hT.run_und hu, Builtin.lenOf, hT.run_size hi, Builtin.firstCells, loadCells, loadCellsFrom, hz]
    · cases hc
  · rename_i e b o n c0 hu
    split at hc
    · rename_i i hi
      cases hc
      cases hy
      refine ⟨goInt 0, w, ?_, .int _ _, Step.refl h⟩
      have hz : ∀ m : Nat, Nat.min 0 m = 0 := fun m => by simp
      cases hx <;> simp [Builtin.copy_, hT.run_und hu, Builtin.lenOf, hT.run_size hi, Builtin.firstCells, hz, storeCells]
    · cases hc
  · cases hc

/-- What is next. -/
inductive AN where
  | val (v : Value)
  | skip
  | enter (f : FuncId) (args : List Value)

inductive NR (γ : Gam) : AN → Next → Prop where
  | val {v v' : Value} : VR γ v v' → NR γ (.val v) (.value v')
  | skip : NR γ .skip .skip
  | enter {f : FuncId} {l : List Value} {l' : Array Value} : VL γ l l'.toList → NR γ (.enter f l) (.enter f l')

def readA (T : Tab) (H : AHeap) (ev : Operand → Value) (o : Oper) : Option Value :=
  match o.op with
  | .load t a => loadV T H t (ev a)
  | .slice t x lo hi mx => sliceA T H t (ev x) (lo.map ev) (hi.map ev) (mx.map ev)
  | .lookup t m k ok => lookA T H t (ev m) (ev k) ok
  | .binOp op t x y _ => binPtr T H op t (ev x) (ev y)
  | .convert src dst x => match T.und dst with
    | some .string => textA T H src dst (ev x)
    | _ => ptrA T H src dst (ev x)
  | .call { callee := .builtin .unsafeSliceData, args, .. } => match args.toList with
    | [x] => sliceDataA (ev x)
    | _ => none
  | .call { callee := .builtin .len, args, argTypes } => match args.toList, argTypes[0]? with
    | [x], some t => lenM T H t (ev x)
    | _, _ => none
  | _ => none

theorem VO.map {γ : Gam} {ev ev' : Operand → Value} {x : Option Operand} (h : ∀ y, x = some y → VR γ (ev y) (ev' y)) : VO γ (x.map ev) (x.map ev') := by
  cases x with
  | none => trivial
  | some y => exact h y rfl

theorem readA_ok (hT : T.Ok) {γ : Gam} {H : AHeap} {w : World} (h : HRT T γ H w) {ev ev' : Operand → Value} {o : Oper} {v : Value} (hr : readA T H ev o = some v) (he : ∀ x ∈ o.op.operands, VR γ (ev x) (ev' x)) :
    ∃ v', (execOp ev' o).run T.P w = .ok (.value v') w ∧ VR γ v v' := by
  obtain ⟨dst, op, type, pos, after, guard⟩ := o
  unfold readA at hr
  simp only at hr he
  split at hr
  · rename_i t a
    obtain ⟨v', h1, h2⟩ := loadV_ok hT h hr (he a (by simp [Op.operands]))
    exact ⟨v', by simp [execOp, h1], h2⟩
  · rename_i t x lo hi mx
    obtain ⟨v', h1, h2⟩ := sliceA_ok hT h hr (he x (by simp [Op.operands])) (VO.map (x := lo) fun y hy => he y (by subst hy; simp [Op.operands])) (VO.map (x := hi) fun y hy => he y (by subst hy; simp [Op.operands])) (VO.map (x := mx) fun y hy => he y (by subst hy; simp [Op.operands]))
    exact ⟨v', by simp [execOp, h1], h2⟩
  · rename_i t m k ok
    obtain ⟨v', h1, h2⟩ := lookA_ok hT h hr (he m (by simp [Op.operands])) (he k (by simp [Op.operands]))
    exact ⟨v', by simp [execOp, h1], h2⟩
  · rename_i op t x y yt
    obtain ⟨v', h1, h2⟩ := binPtr_ok hT h (p := x) (q := y) hr (he x (by simp [Op.operands])) (he y (by simp [Op.operands]))
    refine ⟨v', ?_, h2⟩
    simp only [execOp, Sem.run_bind] at h1 ⊢
    rw [h1]; rfl
  · rename_i src dst' x
    split at hr
    · obtain ⟨v', h1, h2⟩ := textA_ok hT h hr (he x (by simp [Op.operands]))
      exact ⟨v', by simp [execOp, h1], h2⟩
    · obtain ⟨v', h1, h2⟩ := ptrA_ok hT h hr (he x (by simp [Op.operands]))
      exact ⟨v', by simp [execOp, h1], h2⟩
  · rename_i args ts
    split at hr
    · rename_i x hargs
      have ha := args_one hargs
      subst ha
      obtain ⟨v', h1, h2⟩ := sliceDataA_ok (T := T) (w := w) (ts := ts) (ty := type) hr (he x (by simp [Op.operands, Call.operands]))
      refine ⟨v', ?_, h2⟩
      rw [run_builtin ev' _ .unsafeSliceData #[x] ts rfl]
      simp [builtin, h1]
    · cases hr
  · rename_i args ts
    split at hr
    · rename_i x t hargs hts
      have ha := args_one hargs
      subst ha
      obtain ⟨v', h1, h2⟩ := lenM_ok hT h (ty := type) hts hr (he x (by simp [Op.operands, Call.operands]))
      refine ⟨v', ?_, h2⟩
      rw [run_builtin ev' _ .len #[x] ts rfl]
      simp [builtin, h1]
    · cases hr
  · cases hr

def enterA (T : Tab) (H : AHeap) (g : FuncId) (args : List Value) : Option (AN × AHeap) :=
  match T.ext g with
  | some s => cond (flats args) (match flatRes (pureA T.P (s args.toArray)) with
    | some v => some (.val v, H)
    | none => none) none
  | none => match T.fn g with
    | some _ => some (.enter g args, H)
    | none => cond (T.same g) (match args with
      | [x] => some (.val x, H)
      | _ => none) none

def effA (T : Tab) (H : AHeap) (ev : Operand → Value) (o : Oper) : Option (AN × AHeap) :=
  let v (r : Option (Value × AHeap)) : Option (AN × AHeap) := match r with
    | some (v, H') => some (.val v, H')
    | none => none
  let u (r : Option AHeap) : Option (AN × AHeap) := match r with
    | some H' => some (.skip, H')
    | none => none
  match o.op with
  | .alloc e => v (allocA T H e)
  | .box e x => v (boxA T H e (ev x))
  | .buildSlice t len ps => v (buildSliceA T H t len (ps.toList.map fun p => (p.1, ev p.2)))
  | .store t a x => u (storeA T H t (ev a) (ev x))
  | .makeMap _ none => v (some (makeMapA H))
  | .makeSlice t l c => v (makeSliceA T H t (ev l) (ev c))
  | .mapUpdate t m k x => u (updA T H t (ev m) (ev k) (ev x))
  | .insert t m k x => u (updA T H t (ev m) (ev k) (ev x))
  | .convert src dst x => cond (Nat.beq src dst) (v (markA T H src (ev x))) (v (bytesA T H src dst (ev x)))
  | .call { callee := .builtin .append, args, argTypes } => match args.toList, argTypes.toList with
    | [x, y], [t, tx] => match T.und tx with
      | some (.int _) => v (appendZA T H t tx (ev x) (ev y))
      | _ => v (appendA T H t tx (ev x) (ev y))
    | _, _ => none
  | .call { callee := .builtin .copy, args, argTypes } => match args.toList, argTypes.toList with
    | [x, y], [t, _] => v (copyA T H t (ev x) (ev y))
    | _, _ => none
  | .call { callee := .builtin .unsafeString, args, argTypes } => match args.toList, argTypes.toList with
    | [x, y], [t, _] => v (unsafeStrA T H t (ev x) (ev y))
    | _, _ => none
  | .call { callee := .value f, args, .. } => match ev f with
    | .func (.func g) first cap => enterA T H g (first.toList ++ args.toList.map ev ++ cap.toList)
    | _ => none
  | .call { callee := .invoke recv name, args, .. } => match ev recv with
    | .iface t x => match T.meth t name with
      | some g => enterA T H g (x :: args.toList.map ev)
      | none => none
    | _ => none
  | _ => none

theorem enterA_ok (hT : T.Ok) {γ : Gam} {H H' : AHeap} {w : World} (h : HRT T γ H w) {g : FuncId} {args : List Value} {args' : Array Value} {an : AN} (ha : enterA T H g args = some (an, H')) (hl : VL γ args args'.toList)
    (hcall : ∀ f x, T.fn f = some x → ∀ args w, (callFunc f args).run T.P w = .ok (.enter f args) w) :
    ∃ nx, (callFunc g args').run T.P w = .ok nx w ∧ NR γ an nx ∧ StepT T γ H w γ H' w := by
  unfold enterA at ha
  split at ha
  · rename_i s hs
    cases hf : flats args with
    | false => rw [hf] at ha; cases ha
    | true =>
      rw [hf] at ha
      simp only [cond_true] at ha
      split at ha
      · rename_i v hv
        cases ha
        obtain ⟨h1, h2⟩ := flatRes_some hv
        have e := flats_eq hf hl
        have e' : args' = args.toArray := by rw [← e]
        refine ⟨.value v, ?_, .val (flat_refl h2), Step.refl h⟩
        rw [hT.ext g s hs, e', pureA_run h1]; rfl
      · cases ha
  · split at ha
    · rename_i x hx
      cases ha
      exact ⟨_, hcall g x hx args' w, .enter hl, Step.refl h⟩
    · cases hsm : T.same g with
      | false => rw [hsm] at ha; cases ha
      | true =>
        rw [hsm] at ha
        simp only [cond_true] at ha
        split at ha
        · rename_i x
          cases ha
          have hsz := hl.1
          obtain ⟨l'⟩ := args'
          match l', hl, hsz with
          | [y], hl, _ => exact ⟨_, hT.same g hsm y w, .val (hl.2 0 x y rfl rfl), Step.refl h⟩
          | [], _, hsz => simp at hsz
          | _ :: _ :: _, _, hsz => simp at hsz
        · cases ha

theorem map_pairs {γ : Gam} {ev ev' : Operand → Value} {ps : Array (Nat × Operand)} (he : ∀ q ∈ ps, VR γ (ev q.2) (ev' q.2)) (i : Nat) (p p' : Nat × Value)
    (hp : (ps.toList.map fun p => (p.1, ev p.2))[i]? = some p) (hp' : (ps.map fun (i, x) => (i, ev' x))[i]? = some p') : p.1 = p'.1 ∧ VR γ p.2 p'.2 := by
  rw [List.getElem?_map, Array.getElem?_toList] at hp
  rw [Array.getElem?_map] at hp'
  cases hq : ps[i]? with
  | none => rw [hq] at hp; cases hp
  | some q =>
    rw [hq] at hp hp'
    cases hp; cases hp'
    obtain ⟨hlt, hqe⟩ := Array.getElem?_eq_some_iff.1 hq
    exact ⟨rfl, he _ (by rw [← hqe]; simp)⟩

theorem args_two {args : Array Operand} {x y : Operand} (h : args.toList = [x, y]) : args = #[x, y] := by
  cases args; simp at h; subst h; rfl
theorem types_two {args : Array TypeId} {x y : TypeId} (h : args.toList = [x, y]) : args = #[x, y] := by
  cases args; simp at h; subst h; rfl

theorem boxA_new {H H' : AHeap} {e : TypeId} {v r : Value} (h : boxA T H e v = some (r, H')) : H'.next = H.next + 1 := by
  unfold boxA at h
  split at h
  · cases h; rfl
  · cases h

theorem allocA_new {H H' : AHeap} {e : TypeId} {r : Value} (h : allocA T H e = some (r, H')) : H'.next = H.next + 1 := by
  unfold allocA at h
  split at h
  · split at h
    · rename_i z hz
      cases hf : flat 2 z with
      | false => rw [hf] at h; cases h
      | true => rw [hf] at h; exact boxA_new h
    · cases h
  · cases h

theorem bytesA_new {H H' : AHeap} {src dst : TypeId} {x r : Value} (h : bytesA T H src dst x = some (r, H')) : H'.next = H.next + 1 := by
  unfold bytesA at h
  split at h
  · rename_i d e s _ _
    split at h
    · rename_i i _ _
      cases hq : (Nat.beq i.size 1 && Nat.ble s.size 1000000) with
      | false => rw [hq] at h; cases h
      | true => rw [hq] at h; cases h; rfl
    · cases h
  · cases h

theorem makeSliceA_new {H H' : AHeap} {t : TypeId} {l c r : Value} (h : makeSliceA T H t l c = some (r, H')) : H'.next = H.next + 1 := by
  unfold makeSliceA rowA at h
  split at h
  · rename_i e k1 l k2 c hu
    split at h
    · rename_i i z hi hz
      rw [hi] at h
      cases hq : (decide (0 ≤ l ∧ l ≤ c ∧ c ≤ 100000) && Nat.ble i.bytes 1000 && Nat.beq z.size i.size) with
      | false => rw [hq] at h; cases h
      | true => rw [hq] at h; cases h; rfl
    · cases h
  · cases h

/-- What the tables say of calls. -/
def Tab.Calls (T : Tab) : Prop := ∀ f x, T.fn f = some x → ∀ args w, (callFunc f args).run T.P w = .ok (.enter f args) w

theorem effA_ok (hT : T.Ok) (hC : T.Calls) {γ : Gam} {H H' : AHeap} {w : World} (h : HRT T γ H w) {ev ev' : Operand → Value} {o : Oper} {an : AN} (hr : effA T H ev o = some (an, H')) (hf : Free γ H.next H'.next) (he : ∀ x ∈ o.op.operands, VR γ (ev x) (ev' x)) :
    ∃ γ' nx w', (execOp ev' o).run T.P w = .ok nx w' ∧ NR γ' an nx ∧ StepT T γ H w γ' H' w' := by
  obtain ⟨dst, op, type, pos, after, guard⟩ := o
  have newb : ∀ {x : AObj}, H' = H.new x → γ H.next = none := fun e => hf H.next (Nat.le_refl _) (by rw [e, AHeap.next_new]; omega)
  unfold effA at hr
  simp only at hr he
  split at hr
  · rename_i e
    cases hb : allocA T H e with
    | none => rw [hb] at hr; cases hr
    | some r =>
      rw [hb] at hr; cases hr
      have hn : γ H.next = none := hf H.next (Nat.le_refl _) (by have := allocA_new hb; omega)
      obtain ⟨γ', r', w', h1, h2, h3⟩ := allocA_ok hT h hn hb
      exact ⟨γ', .value r', w', by simp [execOp, h1], .val h2, h3⟩
  · rename_i e x
    cases hb : boxA T H e (ev x) with
    | none => rw [hb] at hr; cases hr
    | some r =>
      rw [hb] at hr; cases hr
      have hn : γ H.next = none := by
        unfold boxA at hb
        split at hb
        · cases hb; exact newb rfl
        · cases hb
      obtain ⟨γ', r', w', h1, h2, h3⟩ := boxA_ok hT h hn hb (he x (by simp [Op.operands]))
      exact ⟨γ', .value r', w', by simp [execOp, h1], .val h2, h3⟩
  · rename_i t len ps
    cases hb : buildSliceA T H t len (ps.toList.map fun p => (p.1, ev p.2)) with
    | none => rw [hb] at hr; cases hr
    | some r =>
      rw [hb] at hr; cases hr
      have hn : γ H.next = none := by
        have hb' := hb
        unfold buildSliceA rowA at hb'
        split at hb'
        · split at hb'
          · rename_i i z hi hz
            cases hq : Nat.ble (len * i.size) 1000 with
            | false => rw [hq] at hb'; cases hb'
            | true =>
              rw [hq] at hb'
              simp only [cond_true] at hb'
              split at hb'
              · rw [hi] at hb'; cases hb'; exact newb rfl
              · cases hb'
          · cases hb'
        · cases hb'
      obtain ⟨γ', r', w', h1, h2, h3⟩ := buildSliceA_ok hT h hn (ps' := ps.map fun (i, x) => (i, ev' x)) hb (by simp) (map_pairs fun q hq => he _ (by
        simp only [Op.operands, List.mem_toArray, List.mem_map, Array.mem_toList_iff]
        exact ⟨q, hq, rfl⟩))
      exact ⟨γ', .value r', w', by simp [execOp, h1], .val h2, h3⟩
  · rename_i t a x
    cases hb : storeA T H t (ev a) (ev x) with
    | none => rw [hb] at hr; cases hr
    | some H1 =>
      rw [hb] at hr; cases hr
      obtain ⟨w', h1, h2⟩ := storeA_ok hT h hb (he a (by simp [Op.operands])) (he x (by simp [Op.operands]))
      exact ⟨γ, .skip, w', by simp [execOp, h1], .skip, h2⟩
  · rename_i t
    cases hr
    obtain ⟨γ', r', w', h1, h2, h3⟩ := makeMapA_ok h (newb rfl) t
    exact ⟨γ', .value r', w', by simp [execOp, h1], .val h2, h3⟩
  · rename_i t l c
    cases hb : makeSliceA T H t (ev l) (ev c) with
    | none => rw [hb] at hr; cases hr
    | some r =>
      rw [hb] at hr; cases hr
      have hn : γ H.next = none := hf H.next (Nat.le_refl _) (by have := makeSliceA_new hb; omega)
      obtain ⟨γ', r', w', h1, h2, h3⟩ := makeSliceA_ok hT h hn hb (he l (by simp [Op.operands])) (he c (by simp [Op.operands]))
      exact ⟨γ', .value r', w', by simp [execOp, h1], .val h2, h3⟩
  · rename_i t m k x
    cases hb : updA T H t (ev m) (ev k) (ev x) with
    | none => rw [hb] at hr; cases hr
    | some H1 =>
      rw [hb] at hr; cases hr
      obtain ⟨w', h1, h2⟩ := updA_ok hT h hb (he m (by simp [Op.operands])) (he k (by simp [Op.operands])) (he x (by simp [Op.operands]))
      exact ⟨γ, .skip, w', by simp [execOp, h1], .skip, h2⟩
  · rename_i t m k x
    cases hb : updA T H t (ev m) (ev k) (ev x) with
    | none => rw [hb] at hr; cases hr
    | some H1 =>
      rw [hb] at hr; cases hr
      obtain ⟨w', h1, h2⟩ := updA_ok hT h hb (he m (by simp [Op.operands])) (he k (by simp [Op.operands])) (he x (by simp [Op.operands]))
      exact ⟨γ, .skip, w', by simp [execOp, h1], .skip, h2⟩
  · rename_i src dst' x
    cases hsd : Nat.beq src dst' with
    | true =>
      rw [hsd] at hr
      simp only [cond_true] at hr
      have := Nat.eq_of_beq_eq_true hsd
      subst this
      cases hb : markA T H src (ev x) with
      | none => rw [hb] at hr; cases hr
      | some r =>
        rw [hb] at hr; cases hr
        obtain ⟨r', w', h1, h2, h3⟩ := markA_ok hT h hb (he x (by simp [Op.operands]))
        exact ⟨γ, .value r', w', by simp [execOp, h1], .val h2, h3⟩
    | false =>
    rw [hsd] at hr
    simp only [cond_false] at hr
    cases hb : bytesA T H src dst' (ev x) with
    | none => rw [hb] at hr; cases hr
    | some r =>
      rw [hb] at hr; cases hr
      have hn : γ H.next = none := hf H.next (Nat.le_refl _) (by have := bytesA_new hb; omega)
      obtain ⟨γ', r', w', h1, h2, h3⟩ := bytesA_ok hT h hn hb (he x (by simp [Op.operands]))
      exact ⟨γ', .value r', w', by simp [execOp, h1], .val h2, h3⟩
  · rename_i args ts
    split at hr
    · rename_i x y t tx hargs hts
      have ha := args_two hargs
      have htt := types_two hts
      subst ha; subst htt
      split at hr
      · cases hb : appendZA T H t tx (ev x) (ev y) with
        | none => rw [hb] at hr; cases hr
        | some r =>
          rw [hb] at hr; cases hr
          have hn : γ H.next = none := hf H.next (Nat.le_refl _) (by have := appendZA_next hb; omega)
          obtain ⟨γ', r', w', h1, h2, h3⟩ := appendZA_ok hT (ty := type) h hn hb (he x (by simp [Op.operands, Call.operands])) (he y (by simp [Op.operands, Call.operands]))
          refine ⟨γ', .value r', w', ?_, .val h2, h3⟩
          rw [run_builtin ev' _ .append #[x, y] #[t, tx] rfl]
          simp [builtin, h1]
      cases hb : appendA T H t tx (ev x) (ev y) with
      | none => rw [hb] at hr; cases hr
      | some r =>
        rw [hb] at hr; cases hr
        obtain ⟨γ', r', w', h1, h2, h3⟩ := appendA_ok hT (ty := type) h hf hb (he x (by simp [Op.operands, Call.operands])) (he y (by simp [Op.operands, Call.operands]))
        refine ⟨γ', .value r', w', ?_, .val h2, h3⟩
        rw [run_builtin ev' _ .append #[x, y] #[t, tx] rfl]
        simp [builtin, h1]
    · cases hr
  · rename_i args ts
    split at hr
    · rename_i x y t tx hargs hts
      have ha := args_two hargs
      have htt := types_two hts
      subst ha; subst htt
      cases hb : copyA T H t (ev x) (ev y) with
      | none => rw [hb] at hr; cases hr
      | some r =>
        rw [hb] at hr; cases hr
        obtain ⟨r', w', h1, h2, h3⟩ := copyA_ok hT (tx := tx) (ty := type) h hb (he x (by simp [Op.operands, Call.operands])) (he y (by simp [Op.operands, Call.operands]))
        refine ⟨γ, .value r', w', ?_, .val h2, h3⟩
        rw [run_builtin ev' _ .copy #[x, y] #[t, tx] rfl]
        simp [builtin, h1]
    · cases hr
  · rename_i args ts
    split at hr
    · rename_i x y t tx hargs hts
      have ha := args_two hargs
      have htt := types_two hts
      subst ha; subst htt
      cases hb : unsafeStrA T H t (ev x) (ev y) with
      | none => rw [hb] at hr; cases hr
      | some r =>
        rw [hb] at hr; cases hr
        obtain ⟨r', w', h1, h2, h3⟩ := unsafeStrA_ok hT (it := tx) (ty := type) h hb (he x (by simp [Op.operands, Call.operands])) (he y (by simp [Op.operands, Call.operands]))
        refine ⟨γ, .value r', w', ?_, .val h2, h3⟩
        rw [run_builtin ev' _ .unsafeString #[x, y] #[t, tx] rfl]
        simp [builtin, h1]
    · cases hr
  · rename_i f args ts
    have hef := he f (by simp [Op.operands, Call.operands])
    split at hr
    · rename_i g first cap hev
      rw [hev] at hef
      generalize hy : ev' f = y at hef
      cases hef with
      | func a1 a2 a3 a4 =>
        rename_i first' cap'
        have l1 : VL γ first.toList first'.toList := VA.toList ⟨a1, a2⟩
        have l2 : VL γ cap.toList cap'.toList := VA.toList ⟨a3, a4⟩
        have l3 : VL γ (args.toList.map ev) (args.map ev').toList := by
          have := VL.of_map (γ := γ) (ev := ev) (ev' := ev') (l := args.toList) (fun x hx => he x (by simp [Op.operands, Call.operands]; right; simpa using hx))
          simpa using this
        obtain ⟨nx, h1, h2, h3⟩ := enterA_ok hT (args' := first' ++ args.map ev' ++ cap') h hr (by simpa using (l1.append l3).append l2) hC
        refine ⟨γ, nx, w, ?_, h2, h3⟩
        simp only [execOp, resolve, hy, Deferred.ofValue, Sem.run_bind, Sem.run_pure, Result.andThen_ok, invoke]
        exact h1
    · cases hr
  · rename_i recv name args ts
    have hef := he recv (by simp [Op.operands, Call.operands])
    split at hr
    · rename_i t x hev
      rw [hev] at hef
      generalize hy : ev' recv = y at hef
      cases hef with
      | iface hx =>
        rename_i x'
        cases hm : T.meth t name with
        | none => rw [hm] at hr; cases hr
        | some g =>
          rw [hm] at hr
          have l3 : VL γ (args.toList.map ev) (args.map ev').toList := by
            have := VL.of_map (γ := γ) (ev := ev) (ev' := ev') (l := args.toList) (fun x hx => he x (by simp [Op.operands, Call.operands]; right; simpa using hx))
            simpa using this
          obtain ⟨nx, h1, h2, h3⟩ := enterA_ok hT (args' := #[x'] ++ args.map ev') h hr (by rw [Array.toList_append]; exact VL.cons hx l3) hC
          refine ⟨γ, nx, w, ?_, h2, h3⟩
          have e1 : (#[Value.iface t x'] ++ args.map ev')[0]? = some (Value.iface t x') := by rw [Array.getElem?_append_left (by simp)]; rfl
          have e2 : (#[Value.iface t x'] ++ args.map ev').extract 1 (#[Value.iface t x'] ++ args.map ev').size = args.map ev' := by
            apply Array.ext'
            simp
            rw [List.take_of_length_le (by simp)]
          simp only [execOp, resolve, hy, Sem.run_bind, Sem.run_pure, Result.andThen_ok, invoke, e1, e2, callMethod, run_program, hT.meth t name g hm]
          exact h1
    · cases hr
  · cases hr
end Go.AM
end

