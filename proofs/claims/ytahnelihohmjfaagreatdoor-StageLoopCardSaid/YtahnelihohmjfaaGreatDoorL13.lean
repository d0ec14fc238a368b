/- A part of the walk (V70). -/
import Derived.Test.YtahnelihohmjfaaGreatDoorL10
import Derived.Maps.OwnOps
import Derived.MapKept
namespace Go.Proofs.YtahnelihohmjfaaGreatDoor.V
open Go.RowKit
set_option linter.unusedVariables false
set_option linter.unusedSimpArgs false
/-! ### the levels of the writer -/
def lvl (a b c : Int) : Value := .agg #[.int .i64 a, .int .i64 b, .int .i64 c]
/-- a map of levels -/
def LvE (e : MapEntry) : Prop := ∃ s a b c, e.key = .string s ∧ e.val = lvl a b c ∧ 0 ≤ a ∧ a ≤ 9 ∧ 0 ≤ b ∧ b ≤ 9 ∧ 0 ≤ c ∧ c ≤ 9
def LvM (w : World) (m : Nat) : Prop := ∃ es clock, w.heap[m]? = some (.map es clock) ∧ ∀ e ∈ es.toList, LvE e
theorem LvM.below {w w' : World} {m : Nat} (h : LvM w m) (hb : Below w.heap.size w w') : LvM w' m := let ⟨es, c, h1, h2⟩ := h; ⟨es, c, blk_below h1 hb, h2⟩
theorem findNow_str (s : ByteArray) : ∀ (es : List MapEntry) (i : Nat), (∀ e ∈ es, LvE e) → (Instr.findNow .string (.string s) es i = some none) ∨ ∃ j a b c, Instr.findNow .string (.string s) es i = some (some (j, lvl a b c)) ∧ 0 ≤ a ∧ a ≤ 9 ∧ 0 ≤ b ∧ b ≤ 9 ∧ 0 ≤ c ∧ c ≤ 9
  | [], i, _ => .inl rfl
  | e :: es, i, h => by
    obtain ⟨k, a, b, c, h1, h2, h3⟩ := h e (by simp)
    unfold Instr.findNow
    rw [h1]
    simp only [Instr.sameNow]
    cases hs : s == k with
    | true => exact .inr ⟨i, a, b, c, by simp [h2], h3⟩
    | false => exact findNow_str s es (i + 1) (fun e he => h e (by simp [he]))
theorem u144 : Tryz.prog.underlying 144 = some (.map 9 190) := by kernel_rfl
theorem u9 : Tryz.prog.underlying 9 = some .string := by kernel_rfl
theorem ck9 (em : Bool) (s : ByteArray) (w : World) : (Instr.checkKey em 10000 9 (.string s)).run Tryz.prog w = .ok () w := MapKept.run_checkKey u9 (show MapKept.IsKey .string (.string s) from trivial) em 9999
theorem look_lvl (w : World) (m : Nat) (h : LvM w m) (s : ByteArray) : ∃ a b c, (Instr.lookup 144 (.map (some m)) (.string s) false).run Tryz.prog w = .ok (lvl a b c) w ∧ 0 ≤ a ∧ a ≤ 9 ∧ 0 ≤ b ∧ b ≤ 9 ∧ 0 ≤ c ∧ c ≤ 9 := by
  obtain ⟨es, clock, hb, he⟩ := h
  have hz : (zeroValue 190).run Tryz.prog w = .ok (lvl 0 0 0) w := by kernel_rfl
  rcases findNow_str s es.toList 0 he with hf | ⟨j, a, b, c, hf, hr⟩
  · refine ⟨0, 0, 0, ?_, by decide, by decide, by decide, by decide, by decide, by decide⟩
    have hfk := MapKept.run_findKey (P := Tryz.prog) (w := w) u9 hf
    simp [Instr.lookup, Result.andThen, run_underlying u144, MapKept.run_getObj_map hb, ck9, hfk, hz]
  · refine ⟨a, b, c, ?_, hr⟩
    have hfk := MapKept.run_findKey (P := Tryz.prog) (w := w) u9 hf
    simp [Instr.lookup, Result.andThen, run_underlying u144, MapKept.run_getObj_map hb, ck9, hfk]
theorem put_lvl (w : World) (m : Nat) (h : LvM w m) (s : ByteArray) (a b c : Int) (hr : 0 ≤ a ∧ a ≤ 9 ∧ 0 ≤ b ∧ b ≤ 9 ∧ 0 ≤ c ∧ c ≤ 9) : ∃ w', (Instr.mapUpdate 144 (.map (some m)) (.string s) (lvl a b c)).run Tryz.prog w = .ok () w' ∧ LvM w' m ∧ Chg w w' (· = m) := by
  obtain ⟨es, clock, hb, he⟩ := h
  have hk : ∀ x ∈ es.toList, MapKept.IsKey .string x.key := fun x hx => by obtain ⟨k, a, b, c, h1, _⟩ := he x hx; rw [h1]; trivial
  have hchg : ∀ o, Chg w { w with heap := w.heap.setIfInBounds m o } (· = m) := fun o => ⟨rfl, rfl, rfl, by simp, fun i hi hn => (MapKept.heap_set hb).2 i hn⟩
  rcases MapKept.findNow_spec (d := .string) (k := .string s) trivial es.toList 0 hk with ⟨hf, _⟩ | ⟨j, e, hf, hj, hke⟩
  · have hfk := MapKept.run_findKey (P := Tryz.prog) (w := w) u9 hf
    refine ⟨{ w with heap := w.heap.setIfInBounds m (.map (es.push { key := .string s, val := lvl a b c, born := clock }) (clock + 1)) }, ?_, ⟨_, _, (MapKept.heap_set hb).1, ?_⟩, hchg _⟩
    · simp [Instr.mapUpdate, Result.andThen, run_underlying u144, MapKept.run_getObj_map hb, ck9, hfk, MapKept.run_setObj_map _ hb]
    · intro x hx
      simp at hx
      rcases hx with hx | rfl
      · exact he x (by simpa using hx)
      · exact ⟨s, a, b, c, rfl, rfl, hr⟩
  · have hfk := MapKept.run_findKey (P := Tryz.prog) (w := w) u9 hf
    have hj' : es[j]? = some e := by simpa using hj
    have hks : (Instr.keyThatStays (.string s) (.string s)).run Tryz.prog w = .ok (.string s) w := MapKept.run_keyThatStays (d := .string) trivial
    refine ⟨{ w with heap := w.heap.setIfInBounds m (.map (es.modify j fun e => { e with key := .string s, val := lvl a b c }) clock) }, ?_, ⟨_, _, (MapKept.heap_set hb).1, ?_⟩, hchg _⟩
    · simp [Instr.mapUpdate, Result.andThen, run_underlying u144, MapKept.run_getObj_map hb, ck9, hfk, hj', hke, hks, MapKept.run_setObj_map _ hb]
    · intro x hx
      rw [Array.toList_modify] at hx
      obtain ⟨i, hi, rfl⟩ := List.mem_iff_getElem.1 hx
      rw [List.getElem_modify]
      split
      · exact ⟨s, a, b, c, rfl, rfl, hr⟩
      · exact he _ (by simp)
theorem wpList_look_lvl {ops : Array Oper} {rest : List Oper} {o : Oper} {a : Act} {w : World} {Q : Exit → Act → World → Prop} (hg : o.guard = none) (m x : Operand) (hop : o.op = .lookup 144 m x false) (b : Nat) (hm : a.eval m = .map (some b)) (hM : LvM w b) (s : ByteArray) (hx : a.eval x = .string s)
    (hK : ∀ p q r : Int, 0 ≤ p ∧ p ≤ 9 ∧ 0 ≤ q ∧ q ≤ 9 ∧ 0 ≤ r ∧ r ≤ 9 → wpList Tryz.prog ops Q rest (a.put o.dst (.agg #[.int .i64 p, .int .i64 q, .int .i64 r])) w) : wpList Tryz.prog ops Q (o :: rest) a w := by
  refine wpList_plain hg fun K' hK' => ?_
  obtain ⟨p, q, r, hrun, hr⟩ := look_lvl w b hM s
  unfold Oper.wp
  simp [execOp, hop, hm, hx, hrun, Result.andThen]
  exact hK' _ _ (hK p q r hr)
theorem wpList_put_lvl {ops : Array Oper} {rest : List Oper} {o : Oper} {a : Act} {w : World} {Q : Exit → Act → World → Prop} (hg : o.guard = none) (m x v : Operand) (hop : o.op = .insert 144 m x v) (b : Nat) (hm : a.eval m = .map (some b)) (hM : LvM w b) (s : ByteArray) (hx : a.eval x = .string s) (p q r : Int) (hv : a.eval v = .agg #[.int .i64 p, .int .i64 q, .int .i64 r]) (hr : 0 ≤ p ∧ p ≤ 9 ∧ 0 ≤ q ∧ q ≤ 9 ∧ 0 ≤ r ∧ r ≤ 9)
    (hK : ∀ w', LvM w' b → Chg w w' (· = b) → wpList Tryz.prog ops Q rest (a.put o.dst undef) w') : wpList Tryz.prog ops Q (o :: rest) a w := by
  refine wpList_plain hg fun K' hK' => ?_
  obtain ⟨w', hrun, h1, h2⟩ := put_lvl w b hM s p q r hr
  unfold lvl at hrun
  unfold Oper.wp
  simp [execOp, hop, hm, hx, hv, hrun, Result.andThen]
  exact hK' _ _ (hK w' h1 h2)
set_option maxHeartbeats 4000000 in
set_option maxRecDepth 100000 in
theorem levels_calls (w : World) : Calls Tryz.prog 66 #[] w (fun e w' => e = .returned (.map (some w.heap.size)) ∧ LvM w' w.heap.size ∧ Below w.heap.size w w') := by
  have HM : Ad (LvM (w.alloc (.map #[] 0)) w.heap.size) := ⟨⟨#[], 0, blk_new _ _, by simp⟩⟩
  have HC : Ad (Chg w (w.alloc (.map #[] 0)) (· = w.heap.size)) := ⟨Chg.of_below (below_alloc (Below.refl _ _) _)⟩
  have hmk : ∀ w : World, (Instr.makeMap 144 none).run Tryz.prog w = .ok (.map (some w.heap.size)) (w.alloc (.map #[] 0)) := fun w => rfl
  go_enter Tryz.func66, Tryz.ntmps66
  go_wp2_with (refine wpList_put_lvl rfl _ _ _ rfl w.heap.size (by rfl) HM.out _ (by rfl) _ _ _ (by rfl) (by decide) ?_; intro w' hM hc; replace HM := Ad.mk hM; replace HC := Ad.mk (HC.out.trans hc); clear hM hc)
  go_ret
  exact ⟨rfl, HM.out, HC.out.below (fun q hq => Nat.le_of_eq hq.symm)⟩
theorem lvl_index (p q r : Int) (w : World) : (Instr.index 190 (.agg #[.int .i64 p, .int .i64 q, .int .i64 r]) (.int .i64 0)).run Tryz.prog w = .ok (.int .i64 p) w ∧ (Instr.index 190 (.agg #[.int .i64 p, .int .i64 q, .int .i64 r]) (.int .i64 1)).run Tryz.prog w = .ok (.int .i64 q) w ∧ (Instr.index 190 (.agg #[.int .i64 p, .int .i64 q, .int .i64 r]) (.int .i64 2)).run Tryz.prog w = .ok (.int .i64 r) w := by
  refine ⟨?_, ?_, ?_⟩ <;> kernel_rfl
/-- a type assertion on a node -/
theorem ta_192_192 (b : Nat) (w : World) : (Instr.typeAssert (.iface 192 (.pointer (some ⟨b, 0, none⟩))) 139 192 true).run Tryz.prog w = .ok (.tuple #[.pointer (some ⟨b, 0, none⟩), .bool true]) w := by kernel_rfl
theorem ta_192_196 (b : Nat) (w : World) : (Instr.typeAssert (.iface 192 (.pointer (some ⟨b, 0, none⟩))) 139 196 true).run Tryz.prog w = .ok (.tuple #[.pointer none, .bool false]) w := by kernel_rfl
theorem ta_192_202 (b : Nat) (w : World) : (Instr.typeAssert (.iface 192 (.pointer (some ⟨b, 0, none⟩))) 139 202 true).run Tryz.prog w = .ok (.tuple #[.pointer none, .bool false]) w := by kernel_rfl
theorem ta_192_205 (b : Nat) (w : World) : (Instr.typeAssert (.iface 192 (.pointer (some ⟨b, 0, none⟩))) 139 205 true).run Tryz.prog w = .ok (.tuple #[.pointer none, .bool false]) w := by kernel_rfl
theorem ta_192_208 (b : Nat) (w : World) : (Instr.typeAssert (.iface 192 (.pointer (some ⟨b, 0, none⟩))) 139 208 true).run Tryz.prog w = .ok (.tuple #[.pointer none, .bool false]) w := by kernel_rfl
theorem ta_192_211 (b : Nat) (w : World) : (Instr.typeAssert (.iface 192 (.pointer (some ⟨b, 0, none⟩))) 139 211 true).run Tryz.prog w = .ok (.tuple #[.pointer none, .bool false]) w := by kernel_rfl
theorem ta_192_214 (b : Nat) (w : World) : (Instr.typeAssert (.iface 192 (.pointer (some ⟨b, 0, none⟩))) 139 214 true).run Tryz.prog w = .ok (.tuple #[.pointer none, .bool false]) w := by kernel_rfl
theorem ta_192_219 (b : Nat) (w : World) : (Instr.typeAssert (.iface 192 (.pointer (some ⟨b, 0, none⟩))) 139 219 true).run Tryz.prog w = .ok (.tuple #[.pointer none, .bool false]) w := by kernel_rfl
theorem ta_196_192 (b : Nat) (w : World) : (Instr.typeAssert (.iface 196 (.pointer (some ⟨b, 0, none⟩))) 139 192 true).run Tryz.prog w = .ok (.tuple #[.pointer none, .bool false]) w := by kernel_rfl
theorem ta_196_196 (b : Nat) (w : World) : (Instr.typeAssert (.iface 196 (.pointer (some ⟨b, 0, none⟩))) 139 196 true).run Tryz.prog w = .ok (.tuple #[.pointer (some ⟨b, 0, none⟩), .bool true]) w := by kernel_rfl
theorem ta_196_202 (b : Nat) (w : World) : (Instr.typeAssert (.iface 196 (.pointer (some ⟨b, 0, none⟩))) 139 202 true).run Tryz.prog w = .ok (.tuple #[.pointer none, .bool false]) w := by kernel_rfl
theorem ta_196_205 (b : Nat) (w : World) : (Instr.typeAssert (.iface 196 (.pointer (some ⟨b, 0, none⟩))) 139 205 true).run Tryz.prog w = .ok (.tuple #[.pointer none, .bool false]) w := by kernel_rfl
theorem ta_196_208 (b : Nat) (w : World) : (Instr.typeAssert (.iface 196 (.pointer (some ⟨b, 0, none⟩))) 139 208 true).run Tryz.prog w = .ok (.tuple #[.pointer none, .bool false]) w := by kernel_rfl
theorem ta_196_211 (b : Nat) (w : World) : (Instr.typeAssert (.iface 196 (.pointer (some ⟨b, 0, none⟩))) 139 211 true).run Tryz.prog w = .ok (.tuple #[.pointer none, .bool false]) w := by kernel_rfl
theorem ta_196_214 (b : Nat) (w : World) : (Instr.typeAssert (.iface 196 (.pointer (some ⟨b, 0, none⟩))) 139 214 true).run Tryz.prog w = .ok (.tuple #[.pointer none, .bool false]) w := by kernel_rfl
theorem ta_196_219 (b : Nat) (w : World) : (Instr.typeAssert (.iface 196 (.pointer (some ⟨b, 0, none⟩))) 139 219 true).run Tryz.prog w = .ok (.tuple #[.pointer none, .bool false]) w := by kernel_rfl
theorem ta_202_192 (b : Nat) (w : World) : (Instr.typeAssert (.iface 202 (.pointer (some ⟨b, 0, none⟩))) 139 192 true).run Tryz.prog w = .ok (.tuple #[.pointer none, .bool false]) w := by kernel_rfl
theorem ta_202_196 (b : Nat) (w : World) : (Instr.typeAssert (.iface 202 (.pointer (some ⟨b, 0, none⟩))) 139 196 true).run Tryz.prog w = .ok (.tuple #[.pointer none, .bool false]) w := by kernel_rfl
theorem ta_202_202 (b : Nat) (w : World) : (Instr.typeAssert (.iface 202 (.pointer (some ⟨b, 0, none⟩))) 139 202 true).run Tryz.prog w = .ok (.tuple #[.pointer (some ⟨b, 0, none⟩), .bool true]) w := by kernel_rfl
theorem ta_202_205 (b : Nat) (w : World) : (Instr.typeAssert (.iface 202 (.pointer (some ⟨b, 0, none⟩))) 139 205 true).run Tryz.prog w = .ok (.tuple #[.pointer none, .bool false]) w := by kernel_rfl
theorem ta_202_208 (b : Nat) (w : World) : (Instr.typeAssert (.iface 202 (.pointer (some ⟨b, 0, none⟩))) 139 208 true).run Tryz.prog w = .ok (.tuple #[.pointer none, .bool false]) w := by kernel_rfl
theorem ta_202_211 (b : Nat) (w : World) : (Instr.typeAssert (.iface 202 (.pointer (some ⟨b, 0, none⟩))) 139 211 true).run Tryz.prog w = .ok (.tuple #[.pointer none, .bool false]) w := by kernel_rfl
theorem ta_202_214 (b : Nat) (w : World) : (Instr.typeAssert (.iface 202 (.pointer (some ⟨b, 0, none⟩))) 139 214 true).run Tryz.prog w = .ok (.tuple #[.pointer none, .bool false]) w := by kernel_rfl
theorem ta_202_219 (b : Nat) (w : World) : (Instr.typeAssert (.iface 202 (.pointer (some ⟨b, 0, none⟩))) 139 219 true).run Tryz.prog w = .ok (.tuple #[.pointer none, .bool false]) w := by kernel_rfl
theorem ta_205_192 (b : Nat) (w : World) : (Instr.typeAssert (.iface 205 (.pointer (some ⟨b, 0, none⟩))) 139 192 true).run Tryz.prog w = .ok (.tuple #[.pointer none, .bool false]) w := by kernel_rfl
theorem ta_205_196 (b : Nat) (w : World) : (Instr.typeAssert (.iface 205 (.pointer (some ⟨b, 0, none⟩))) 139 196 true).run Tryz.prog w = .ok (.tuple #[.pointer none, .bool false]) w := by kernel_rfl
theorem ta_205_202 (b : Nat) (w : World) : (Instr.typeAssert (.iface 205 (.pointer (some ⟨b, 0, none⟩))) 139 202 true).run Tryz.prog w = .ok (.tuple #[.pointer none, .bool false]) w := by kernel_rfl
theorem ta_205_205 (b : Nat) (w : World) : (Instr.typeAssert (.iface 205 (.pointer (some ⟨b, 0, none⟩))) 139 205 true).run Tryz.prog w = .ok (.tuple #[.pointer (some ⟨b, 0, none⟩), .bool true]) w := by kernel_rfl
theorem ta_205_208 (b : Nat) (w : World) : (Instr.typeAssert (.iface 205 (.pointer (some ⟨b, 0, none⟩))) 139 208 true).run Tryz.prog w = .ok (.tuple #[.pointer none, .bool false]) w := by kernel_rfl
theorem ta_205_211 (b : Nat) (w : World) : (Instr.typeAssert (.iface 205 (.pointer (some ⟨b, 0, none⟩))) 139 211 true).run Tryz.prog w = .ok (.tuple #[.pointer none, .bool false]) w := by kernel_rfl
theorem ta_205_214 (b : Nat) (w : World) : (Instr.typeAssert (.iface 205 (.pointer (some ⟨b, 0, none⟩))) 139 214 true).run Tryz.prog w = .ok (.tuple #[.pointer none, .bool false]) w := by kernel_rfl
theorem ta_205_219 (b : Nat) (w : World) : (Instr.typeAssert (.iface 205 (.pointer (some ⟨b, 0, none⟩))) 139 219 true).run Tryz.prog w = .ok (.tuple #[.pointer none, .bool false]) w := by kernel_rfl
theorem ta_208_192 (b : Nat) (w : World) : (Instr.typeAssert (.iface 208 (.pointer (some ⟨b, 0, none⟩))) 139 192 true).run Tryz.prog w = .ok (.tuple #[.pointer none, .bool false]) w := by kernel_rfl
theorem ta_208_196 (b : Nat) (w : World) : (Instr.typeAssert (.iface 208 (.pointer (some ⟨b, 0, none⟩))) 139 196 true).run Tryz.prog w = .ok (.tuple #[.pointer none, .bool false]) w := by kernel_rfl
theorem ta_208_202 (b : Nat) (w : World) : (Instr.typeAssert (.iface 208 (.pointer (some ⟨b, 0, none⟩))) 139 202 true).run Tryz.prog w = .ok (.tuple #[.pointer none, .bool false]) w := by kernel_rfl
theorem ta_208_205 (b : Nat) (w : World) : (Instr.typeAssert (.iface 208 (.pointer (some ⟨b, 0, none⟩))) 139 205 true).run Tryz.prog w = .ok (.tuple #[.pointer none, .bool false]) w := by kernel_rfl
theorem ta_208_208 (b : Nat) (w : World) : (Instr.typeAssert (.iface 208 (.pointer (some ⟨b, 0, none⟩))) 139 208 true).run Tryz.prog w = .ok (.tuple #[.pointer (some ⟨b, 0, none⟩), .bool true]) w := by kernel_rfl
theorem ta_208_211 (b : Nat) (w : World) : (Instr.typeAssert (.iface 208 (.pointer (some ⟨b, 0, none⟩))) 139 211 true).run Tryz.prog w = .ok (.tuple #[.pointer none, .bool false]) w := by kernel_rfl
theorem ta_208_214 (b : Nat) (w : World) : (Instr.typeAssert (.iface 208 (.pointer (some ⟨b, 0, none⟩))) 139 214 true).run Tryz.prog w = .ok (.tuple #[.pointer none, .bool false]) w := by kernel_rfl
theorem ta_208_219 (b : Nat) (w : World) : (Instr.typeAssert (.iface 208 (.pointer (some ⟨b, 0, none⟩))) 139 219 true).run Tryz.prog w = .ok (.tuple #[.pointer none, .bool false]) w := by kernel_rfl
theorem ta_211_192 (b : Nat) (w : World) : (Instr.typeAssert (.iface 211 (.pointer (some ⟨b, 0, none⟩))) 139 192 true).run Tryz.prog w = .ok (.tuple #[.pointer none, .bool false]) w := by kernel_rfl
theorem ta_211_196 (b : Nat) (w : World) : (Instr.typeAssert (.iface 211 (.pointer (some ⟨b, 0, none⟩))) 139 196 true).run Tryz.prog w = .ok (.tuple #[.pointer none, .bool false]) w := by kernel_rfl
theorem ta_211_202 (b : Nat) (w : World) : (Instr.typeAssert (.iface 211 (.pointer (some ⟨b, 0, none⟩))) 139 202 true).run Tryz.prog w = .ok (.tuple #[.pointer none, .bool false]) w := by kernel_rfl
theorem ta_211_205 (b : Nat) (w : World) : (Instr.typeAssert (.iface 211 (.pointer (some ⟨b, 0, none⟩))) 139 205 true).run Tryz.prog w = .ok (.tuple #[.pointer none, .bool false]) w := by kernel_rfl
theorem ta_211_208 (b : Nat) (w : World) : (Instr.typeAssert (.iface 211 (.pointer (some ⟨b, 0, none⟩))) 139 208 true).run Tryz.prog w = .ok (.tuple #[.pointer none, .bool false]) w := by kernel_rfl
theorem ta_211_211 (b : Nat) (w : World) : (Instr.typeAssert (.iface 211 (.pointer (some ⟨b, 0, none⟩))) 139 211 true).run Tryz.prog w = .ok (.tuple #[.pointer (some ⟨b, 0, none⟩), .bool true]) w := by kernel_rfl
theorem ta_211_214 (b : Nat) (w : World) : (Instr.typeAssert (.iface 211 (.pointer (some ⟨b, 0, none⟩))) 139 214 true).run Tryz.prog w = .ok (.tuple #[.pointer none, .bool false]) w := by kernel_rfl
theorem ta_211_219 (b : Nat) (w : World) : (Instr.typeAssert (.iface 211 (.pointer (some ⟨b, 0, none⟩))) 139 219 true).run Tryz.prog w = .ok (.tuple #[.pointer none, .bool false]) w := by kernel_rfl
theorem ta_214_192 (b : Nat) (w : World) : (Instr.typeAssert (.iface 214 (.pointer (some ⟨b, 0, none⟩))) 139 192 true).run Tryz.prog w = .ok (.tuple #[.pointer none, .bool false]) w := by kernel_rfl
theorem ta_214_196 (b : Nat) (w : World) : (Instr.typeAssert (.iface 214 (.pointer (some ⟨b, 0, none⟩))) 139 196 true).run Tryz.prog w = .ok (.tuple #[.pointer none, .bool false]) w := by kernel_rfl
theorem ta_214_202 (b : Nat) (w : World) : (Instr.typeAssert (.iface 214 (.pointer (some ⟨b, 0, none⟩))) 139 202 true).run Tryz.prog w = .ok (.tuple #[.pointer none, .bool false]) w := by kernel_rfl
theorem ta_214_205 (b : Nat) (w : World) : (Instr.typeAssert (.iface 214 (.pointer (some ⟨b, 0, none⟩))) 139 205 true).run Tryz.prog w = .ok (.tuple #[.pointer none, .bool false]) w := by kernel_rfl
theorem ta_214_208 (b : Nat) (w : World) : (Instr.typeAssert (.iface 214 (.pointer (some ⟨b, 0, none⟩))) 139 208 true).run Tryz.prog w = .ok (.tuple #[.pointer none, .bool false]) w := by kernel_rfl
theorem ta_214_211 (b : Nat) (w : World) : (Instr.typeAssert (.iface 214 (.pointer (some ⟨b, 0, none⟩))) 139 211 true).run Tryz.prog w = .ok (.tuple #[.pointer none, .bool false]) w := by kernel_rfl
theorem ta_214_214 (b : Nat) (w : World) : (Instr.typeAssert (.iface 214 (.pointer (some ⟨b, 0, none⟩))) 139 214 true).run Tryz.prog w = .ok (.tuple #[.pointer (some ⟨b, 0, none⟩), .bool true]) w := by kernel_rfl
theorem ta_214_219 (b : Nat) (w : World) : (Instr.typeAssert (.iface 214 (.pointer (some ⟨b, 0, none⟩))) 139 219 true).run Tryz.prog w = .ok (.tuple #[.pointer none, .bool false]) w := by kernel_rfl
theorem ta_219_192 (b : Nat) (w : World) : (Instr.typeAssert (.iface 219 (.pointer (some ⟨b, 0, none⟩))) 139 192 true).run Tryz.prog w = .ok (.tuple #[.pointer none, .bool false]) w := by kernel_rfl
theorem ta_219_196 (b : Nat) (w : World) : (Instr.typeAssert (.iface 219 (.pointer (some ⟨b, 0, none⟩))) 139 196 true).run Tryz.prog w = .ok (.tuple #[.pointer none, .bool false]) w := by kernel_rfl
theorem ta_219_202 (b : Nat) (w : World) : (Instr.typeAssert (.iface 219 (.pointer (some ⟨b, 0, none⟩))) 139 202 true).run Tryz.prog w = .ok (.tuple #[.pointer none, .bool false]) w := by kernel_rfl
theorem ta_219_205 (b : Nat) (w : World) : (Instr.typeAssert (.iface 219 (.pointer (some ⟨b, 0, none⟩))) 139 205 true).run Tryz.prog w = .ok (.tuple #[.pointer none, .bool false]) w := by kernel_rfl
theorem ta_219_208 (b : Nat) (w : World) : (Instr.typeAssert (.iface 219 (.pointer (some ⟨b, 0, none⟩))) 139 208 true).run Tryz.prog w = .ok (.tuple #[.pointer none, .bool false]) w := by kernel_rfl
theorem ta_219_211 (b : Nat) (w : World) : (Instr.typeAssert (.iface 219 (.pointer (some ⟨b, 0, none⟩))) 139 211 true).run Tryz.prog w = .ok (.tuple #[.pointer none, .bool false]) w := by kernel_rfl
theorem ta_219_214 (b : Nat) (w : World) : (Instr.typeAssert (.iface 219 (.pointer (some ⟨b, 0, none⟩))) 139 214 true).run Tryz.prog w = .ok (.tuple #[.pointer none, .bool false]) w := by kernel_rfl
theorem ta_219_219 (b : Nat) (w : World) : (Instr.typeAssert (.iface 219 (.pointer (some ⟨b, 0, none⟩))) 139 219 true).run Tryz.prog w = .ok (.tuple #[.pointer (some ⟨b, 0, none⟩), .bool true]) w := by kernel_rfl
set_option maxHeartbeats 4000000 in
set_option maxRecDepth 100000 in
theorem level_calls {Q : Nat → Prop} {w : World} {n : Nat} {v : Value} (h : NodeAt Q w n v) (m : Nat) (hm : LvM w m) : Calls Tryz.prog 84 #[.map (some m), v] w (fun e w' => w' = w ∧ ∃ k : Int, e = .returned (.int .i64 k) ∧ 0 ≤ k ∧ k ≤ 9) := by
  have HM := Ad.mk hm
  cases h with
  | number b n hq hb hn =>
    have f211 := ta_192_211
    have f208 := ta_192_208
    have f205 := ta_192_205
    clear hb hm
    go_enter Tryz.func84, Tryz.ntmps84
    go_wp2_with fail
    go_ret
    exact ⟨rfl, _, rfl, by decide, by decide⟩
  | quote b s hq hb hs =>
    have f211 := ta_196_211
    have f208 := ta_196_208
    have f205 := ta_196_205
    clear hb hm
    go_enter Tryz.func84, Tryz.ntmps84
    go_wp2_with fail
    go_ret
    exact ⟨rfl, _, rfl, by decide, by decide⟩
  | word b s hq hb hs =>
    have f211 := ta_202_211
    have f208 := ta_202_208
    have f205 := ta_202_205
    clear hb hm
    go_enter Tryz.func84, Tryz.ntmps84
    go_wp2_with fail
    go_ret
    exact ⟨rfl, _, rfl, by decide, by decide⟩
  | unary b op a n hq hb hs ha =>
    have f211 := ta_205_211
    have f208 := ta_205_208
    have f205 := ta_205_205
    have c0 := blk_cell hb 0
    simp at c0
    clear hb hm
    go_enter Tryz.func84, Tryz.ntmps84
    go_wp2_with fail
    all_goals go_ret
    all_goals exact ⟨rfl, _, rfl, by decide, by decide⟩
  | binary b op a1 a2 n1 n2 hq hb hs h1 h2 =>
    have f211 := ta_208_211
    have f208 := ta_208_208
    have f205 := ta_208_205
    have c0 := blk_cell hb 0
    simp at c0
    clear hb hm
    have hix := fun p q r w => (lvl_index p q r w).1
    go_enter Tryz.func84, Tryz.ntmps84
    go_wp2_with (at_lookup; refine wpList_look_lvl rfl _ _ rfl m (by rfl) HM.out _ (by rfl) ?_; intro p q r hr; have HR := Ad.mk hr; clear hr)
    go_ret
    exact ⟨rfl, p, rfl, HR.out.1, HR.out.2.1⟩
  | cond b a1 a2 a3 n1 n2 n3 hq hb h1 h2 h3 =>
    have f211 := ta_211_211
    have f208 := ta_211_208
    have f205 := ta_211_205
    clear hb hm
    go_enter Tryz.func84, Tryz.ntmps84
    go_wp2_with fail
    go_ret
    exact ⟨rfl, _, rfl, by decide, by decide⟩
  | list b A c l ns hq hb hl hn hi =>
    have f211 := ta_214_211
    have f208 := ta_214_208
    have f205 := ta_214_205
    clear hb hm
    go_enter Tryz.func84, Tryz.ntmps84
    go_wp2_with fail
    go_ret
    exact ⟨rfl, _, rfl, by decide, by decide⟩
  | call b s k D A c l ns hq hb hs hk hd hl hn hi =>
    have f211 := ta_219_211
    have f208 := ta_219_208
    have f205 := ta_219_205
    clear hb hm
    go_enter Tryz.func84, Tryz.ntmps84
    go_wp2_with fail
    go_ret
    exact ⟨rfl, _, rfl, by decide, by decide⟩
end Go.Proofs.YtahnelihohmjfaaGreatDoor.V
