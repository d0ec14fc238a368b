import Derived.Test.YtammigfckdgljaaPWitnessSplitq7
import Derived.Test.YtammigfckdgljaaPWitnessSplitx4
import Derived.Test.YtammigfckdgljaaPWitnessSplitx5
import Derived.Maps.OwnSet
import Derived.Maps.OwnOps
import Derived.Maps.Views
namespace Go.Proofs.Ytammigfckdgljaa.PWitnessSplit
open Go.RowKit Go.Maps Go.ChangeMaps Go.Proofs.YtammigfckdgljaaW.PrintWords Go.Proofs.YtammigfckdgljaaW.PrintLast Go.Proofs.YtammigfckdgljaaW.PrintMore
set_option linter.unusedVariables false
set_option linter.unusedSimpArgs false

/-! ### a map[int]int of the call's own, as a function -/
theorem law3 : Keyed Try.prog 3 := int_keyed Try.underlying3
theorem zero3 (w : World) : (zeroValue 3).run Try.prog w = .ok (.int .i64 0) w := by kernel_rfl
def MapI (w : World) (b n : Nat) (c : Int → Int) : Prop := ∃ D : DataW Unit, w.ownsMap Try.prog 3 (plainElem Try.prog 3) b n D ∧ ∀ k : Int, (Lit.int .i64 k).wf = true → D.atKey (.int .i64 k) (.lit (.int .i64 0)) = .lit (.int .i64 (c k))
def isMapAt (w : World) (b : Nat) : Prop := ∃ es cl, w.heap[b]? = some (.map es cl)
theorem MapI.at_ {w : World} {b n : Nat} {c : Int → Int} (h : MapI w b n c) : isMapAt w b := by
  obtain ⟨D, ⟨es, cl, hb, _⟩, _⟩ := h
  exact ⟨es, cl, hb⟩
theorem isMapAt.lt {w : World} {b : Nat} (h : isMapAt w b) : b < w.heap.size := by
  obtain ⟨es, cl, hb⟩ := h
  exact (Array.getElem?_eq_some_iff.1 hb).1
theorem MapI.kept {w w' : World} {b n : Nat} {c : Int → Int} {row : Option Nat} (h : MapI w b n c) (hg : w.grownBy w' row) (hne : some b ≠ row) : MapI w' b n c := by
  obtain ⟨D, h1, h2⟩ := h
  exact ⟨D, h1.kept hg hne, h2⟩
theorem MapI.below {w w' : World} {b n : Nat} {c : Int → Int} (h : MapI w b n c) (hb : Below w.heap.size w w') : MapI w' b n c := h.kept (grown_of_below hb none) (by simp)
theorem MapI.mono {w : World} {b n n' : Nat} {c : Int → Int} (h : MapI w b n c) (hn : n ≤ n') : MapI w b n' c := by
  obtain ⟨D, h1, h2⟩ := h
  exact ⟨D, h1.mono hn, h2⟩
/-- The block of an owned row is no map. -/
theorem own_ne_map {α : Type} {d : Kd α} {e : Nat} {w : World} {base : Nat} {ok : Nat → Prop} {v : Value} {xs : List α} (h : d.R e w base ok v xs) {b : Nat} (hm : isMapAt w b) : some b ≠ v.ownBlock := by
  intro he
  obtain ⟨es, cl, hb⟩ := hm
  obtain ⟨inner, ho⟩ := Kd.R_own h
  obtain ⟨cells, hc⟩ := own_typed ho b he.symm
  rw [hc] at hb
  cases hb
theorem R_map {α : Type} {d : Kd α} {e : Nat} {w w1 : World} {base : Nat} {ok : Nat → Prop} {v : Value} {xs : List α} (h : d.R e w base ok v xs) {b : Nat} (hm : isMapAt w b) (hg : w.grownBy w1 (some b)) : d.R e w1 base ok v xs := by
  refine Kd.R_mono (Kd.R_move (w1 := w1) (Kd.R_bound h) ?_) (fun _ hk => hk.1)
  rintro k ⟨_, _, hlt, q, _, cells, hc⟩
  refine hg.block k hlt ?_
  rintro he
  injection he with he
  obtain ⟨es, cl, hb⟩ := hm
  rw [← he, hc] at hb
  cases hb
theorem R_row {α β : Type} {d : Kd α} {d2 : Kd β} {e e2 : Nat} {w w1 : World} {base base2 : Nat} {ok ok2 : Nat → Prop} {v v2 : Value} {xs : List α} {ys : List β} (h : d.R e w base ok v xs) (h2 : d2.R e2 w base2 ok2 v2 ys) (hne : ∀ q, q ∈ e :: d.E → q ≠ e2) (hg : w.grownBy w1 v2.ownBlock) : d.R e w1 base ok v xs := by
  refine Kd.R_mono (Kd.R_move (w1 := w1) (Kd.R_bound h) ?_) (fun _ hk => hk.1)
  rintro k ⟨_, _, hlt, q, hq, cells, hc⟩
  refine hg.block k hlt ?_
  intro he
  obtain ⟨inner, ho⟩ := Kd.R_own h2
  obtain ⟨cells', hc'⟩ := own_typed ho k he.symm
  rw [hc] at hc'
  injection hc' with hc'
  injection hc' with _ ht
  exact hne q hq ht

section
variable {ops : Array Oper} {rest : List Oper} {o : Oper} {a : Act} {Q : Exit → Act → World → Prop} {w : World} {b n : Nat} {c : Int → Int}
theorem wp_mapI_look (hg : o.guard = none) (m x : Operand) (hop : o.op = Op.lookup 73 m x false) (hm : a.eval m = .map (some b)) (h : MapI w b n c) (key : Int) (hx : a.eval x = .int .i64 key) (hw : (Lit.int .i64 key).wf = true)
    (hK : wpList Try.prog ops Q rest (a.put o.dst (.int .i64 (c key))) w) : wpList Try.prog ops Q (o :: rest) a w := by
  obtain ⟨D, h1, h2⟩ := h
  refine wpList_lookup_own_int w hg m x 73 hop 3 3 .i64 law3 Try.underlying73 Try.underlying3 (zero3 _) b n D hm h1 _ _ hx (keyOf_int_mk Try.underlying3 hw) ?_
  intro c' hat _
  rw [h2 key hw] at hat
  injection hat with hat
  injection hat with _ hat
  rw [← hat]
  exact hK
theorem wp_mapI_put (hg : o.guard = none) (m x v : Operand) (hop : o.op = Op.mapUpdate 73 m x v) (hm : a.eval m = .map (some b)) (h : MapI w b n c) (hn : n < maxLen) (key val : Int) (hx : a.eval x = .int .i64 key) (hv : a.eval v = .int .i64 val) (hw : (Lit.int .i64 key).wf = true) (hwv : (Lit.int .i64 val).wf = true)
    (hK : ∀ w', MapI w' b (n + 1) (fun q => if q = key then val else c q) → w.grownBy w' (some b) → wpList Try.prog ops Q rest (a.put o.dst undef) w') : wpList Try.prog ops Q (o :: rest) a w := by
  obtain ⟨D, h1, h2⟩ := h
  refine wpList_mapUpdate_own w hg m x v 73 hop 3 3 law3 Try.underlying73 _ b n D hm h1 hn _ _ _ hx hv (keyOf_int_mk Try.underlying3 hw) _ [] (plainElem_int Try.underlying3 hwv) ?_
  intro w1 hown hgrow
  refine hK w1 ⟨_, hown, fun k hk => ?_⟩ hgrow
  by_cases hkk : k = key
  · subst hkk
    simp only [if_pos]
    exact atKey_put_same h1.isMap (by simp [WideAt.IsKeyLit]) _ _
  · simp only [if_neg hkk]
    rw [atKey_put_other (by intro he; injection he with _ he; exact hkk he)]
    exact h2 k hk
theorem wp_mapI_clear (hg : o.guard = none) (m : Operand) (hop : o.op = Op.call { callee := Callee.builtin Builtin.clear, args := #[m], argTypes := #[73] }) (hm : a.eval m = .map (some b)) (h : isMapAt w b)
    (hK : ∀ w', MapI w' b 0 (fun _ => 0) → w.grownBy w' (some b) → wpList Try.prog ops Q rest (a.put o.dst (.tuple #[])) w') : wpList Try.prog ops Q (o :: rest) a w := by
  obtain ⟨es, cl, hb⟩ := h
  refine wpList_plain hg fun K' hK' => ?_
  unfold Oper.wp
  have hrun : (Builtin.clear_ #[73] o.type #[.map (some b)]).run Try.prog w = .ok (.tuple #[]) (setBlock w b (.map #[] cl)) := by
    simp [Builtin.clear_, run_underlying Try.underlying73, MapKept.run_getObj_map hb, MapKept.run_setObj_map _ hb, Result.andThen, setBlock]
  simp [execOp, hop, resolve, invoke, builtin, hm, hrun, Result.andThen]
  refine hK' _ _ (hK _ ⟨.map [], ⟨#[], cl, heap_setBlock_same hb _, ⟨by simp, MapKept.stamped_empty cl, by simp⟩, Nat.le_refl _, rfl⟩, fun k hk => rfl⟩ ⟨rfl, rfl, rfl, by simp [setBlock], fun i _ hi => heap_setBlock_other hb _ (fun e => hi (by rw [e]))⟩)
end
end Go.Proofs.Ytammigfckdgljaa.PWitnessSplit
