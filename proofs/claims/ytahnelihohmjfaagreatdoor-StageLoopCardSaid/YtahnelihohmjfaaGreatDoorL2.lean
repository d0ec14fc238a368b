/- A part of the walk (V12). -/
import Derived.Test.YtahnelihohmjfaaGreatDoorL1
import Derived.Deep.AppendLies
namespace Go.Proofs.YtahnelihohmjfaaGreatDoor.V
open Go.RowKit
set_option linter.unusedVariables false
set_option linter.unusedSimpArgs false
/-! ### rows of values of the call's own -/
def cellsV (v : Val) (p : Option Addr × Nat) : List Value := [.int .i64 v.k, .int .i64 v.n, .string v.s, .slice p.1 v.items.length p.2]
def flatV : List Val → List (Option Addr × Nat) → List Value
  | v :: l, p :: ps => cellsV v p ++ flatV l ps
  | _, _ => []
theorem flatV_snoc {l : List Val} {ps : List (Option Addr × Nat)} (h : ps.length = l.length) (x : Val) (p : Option Addr × Nat) : flatV (l ++ [x]) (ps ++ [p]) = flatV l ps ++ cellsV x p := by
  induction l generalizing ps with
  | nil =>
    cases ps with
    | nil => simp [flatV]
    | cons _ _ => simp at h
  | cons v l ih =>
    cases ps with
    | nil => simp at h
    | cons q ps => simp only [List.cons_append, flatV, ih (by simpa using h), List.append_assoc]
theorem flatV_at {l : List Val} {ps : List (Option Addr × Nat)} (h : ps.length = l.length) (i j : Nat) (hi : i < l.length) (hj : j < 4) : (flatV l ps)[i * 4 + j]? = (cellsV (l.getD i Val.none) (ps.getD i (none, 0)))[j]? := by
  induction l generalizing ps i with
  | nil => simp at hi
  | cons v l ih =>
    cases ps with
    | nil => simp at h
    | cons q ps =>
      cases i with
      | zero =>
        simp only [flatV, List.getD_cons_zero, Nat.zero_mul, Nat.zero_add]
        rw [List.getElem?_append_left (by simp [cellsV]; omega)]
      | succ i =>
        simp only [flatV, List.getD_cons_succ]
        rw [List.getElem?_append_right (by simp [cellsV]; omega), ← ih (by simpa using h) i (by simpa using hi)]
        congr 1
        simp [cellsV]; omega
/-- v is a row of the call's own (its block from base on) that reads as l; the lists of its elements lie in blocks of Q, none in the row's -/
structure RowV (Q : Nat → Prop) (base : Nat) (w : World) (v : Value) (l : List Val) : Prop where
  m : l.length ≤ 140737488355328
  out : ∃ ps, ps.length = l.length ∧ w.ownsRow base 42 4 v l.length (flatV l ps) ∧ ∀ i, i < l.length → VA (fun b => Q b ∧ some b ≠ v.ownBlock) w (ps.getD i (none, 0)).1 (ps.getD i (none, 0)).2 (l.getD i Val.none)
theorem RowV.nil (Q : Nat → Prop) (base : Nat) (w : World) : RowV Q base w (.slice none 0 0) [] := ⟨by simp, [], rfl, ⟨by simp [flatV], .inl ⟨rfl, rfl⟩⟩, fun i h => absurd h (by simp)⟩
theorem own_lt {w : World} {base : Nat} {e : TypeId} {size : Nat} {v : Value} {n : Nat} {xs : List Value} (h : w.ownsRow base e size v n xs) (g : Nat) (hg : v.ownBlock = some g) : base ≤ g ∧ g < w.heap.size := by
  rcases h.2 with ⟨rfl, _⟩ | ⟨g', cap, cur, rfl, hb, hh, _⟩
  · simp [Value.ownBlock] at hg
  · simp [Value.ownBlock] at hg
    subst hg
    exact ⟨hb, blk_lt hh⟩
theorem own_chg {w w' : World} {base : Nat} {e : TypeId} {size : Nat} {v : Value} {n : Nat} {xs : List Value} {S : Nat → Prop} (h : w.ownsRow base e size v n xs) (hc : Chg w w' S) (hS : ∀ g, v.ownBlock = some g → ¬ S g) : w'.ownsRow base e size v n xs := by
  refine ⟨h.1, ?_⟩
  rcases h.2 with h1 | ⟨g, cap, cur, rfl, hb, hh, r⟩
  · exact .inl h1
  · exact .inr ⟨g, cap, cur, rfl, hb, (hc.block g (blk_lt hh) (hS g rfl)).trans hh, r⟩
theorem RowV.chg {Q : Nat → Prop} {base : Nat} {w w' : World} {v : Value} {l : List Val} {S : Nat → Prop} (h : RowV Q base w v l) (hc : Chg w w' S) (hS : ∀ b, b < w.heap.size → (Q b ∨ v.ownBlock = some b) → ¬ S b) : RowV Q base w' v l := by
  obtain ⟨ps, h1, h2, h3⟩ := h.out
  exact ⟨h.m, ps, h1, own_chg h2 hc (fun g hg => hS g (own_lt h2 g hg).2 (.inr hg)), fun i hi => (h3 i hi).chg hc (fun b hb hq => hS b hb (.inl hq.1)) (fun b hb hq => hq)⟩
theorem RowV.below {Q : Nat → Prop} {base : Nat} {w w' : World} {v : Value} {l : List Val} (h : RowV Q base w v l) (hb : Below w.heap.size w w') : RowV Q base w' v l := h.chg (Chg.of_below (S := fun _ => False) hb) (fun _ _ _ h => h)
theorem RowV.form {Q : Nat → Prop} {base : Nat} {w : World} {v : Value} {l : List Val} (h : RowV Q base w v l) : ∃ A c, v = .slice A l.length c ∧ VL (fun b => Q b ∨ base ≤ b) w A c l := by
  obtain ⟨ps, h1, h2, h3⟩ := h.out
  rcases h2.2 with ⟨rfl, h0⟩ | ⟨g, cap, cur, rfl, hb, hh, hn, hm, hs, ht⟩
  · have : l = [] := List.eq_nil_of_length_eq_zero h0
    subst this
    exact ⟨none, 0, rfl, VL.nil _ _ _ _⟩
  · refine ⟨some ⟨g, 0, none⟩, cap, rfl, hn, h.m, fun i => cellsV (l.getD i Val.none) (ps.getD i (none, 0)), fun _ => ⟨⟨g, 0, none⟩, rfl, .inr hb, fun i j u hi hj => ?_⟩, fun i hi => ((h3 i hi).weak fun b _ hq => .inl hq.1).vr⟩
    have hj4 : j < 4 := by
      have := (List.getElem?_eq_some_iff.1 hj).1
      simpa [cellsV] using this
    rw [add_plain, blk_cell hh, ← Array.getElem?_toList]
    have h4 := flatV_at h1 i j hi hj4
    rw [hj, ← ht, List.getElem?_take_of_lt (by omega)] at h4
    exact h4
theorem RowV.snoc {Q Qx : Nat → Prop} {base : Nat} {w w1 : World} {v : Value} {l : List Val} {x : Val} {A : Option Addr} {c g cap : Nat} {ps : List (Option Addr × Nat)} (h1 : ps.length = l.length) (h3 : ∀ i, i < l.length → VA (fun b => Q b ∧ some b ≠ v.ownBlock) w (ps.getD i (none, 0)).1 (ps.getD i (none, 0)).2 (l.getD i Val.none))
    (hx : VA Qx w A c x) (hQx : ∀ b, b < w.heap.size → Qx b → Q b ∧ some b ≠ v.ownBlock) (hown : w1.ownsRow base 42 4 (.slice (some ⟨g, 0, none⟩) (l.length + 1) cap) (l.length + 1) (flatV l ps ++ cellsV x (A, c))) (hgrow : w.grownBy w1 v.ownBlock) (hat : v.ownBlock = some g ∨ g = w.heap.size) (hm : l.length + 1 ≤ 140737488355328) :
    RowV Q base w1 (.slice (some ⟨g, 0, none⟩) (l.length + 1) cap) (l ++ [x]) := by
  have hc : Chg w w1 (fun b => some b = v.ownBlock) := ⟨hgrow.os, hgrow.tape, hgrow.output, hgrow.size, fun i hi hn => hgrow.block i hi hn⟩
  have key : ∀ b, b < w.heap.size → some b ≠ v.ownBlock → some b ≠ (Value.slice (some ⟨g, 0, none⟩) (l.length + 1) cap).ownBlock := by
    intro b hb hn he
    simp only [Value.ownBlock, Option.some.injEq] at he
    subst he
    rcases hat with hat | hat
    · exact hn hat.symm
    · omega
  refine ⟨by simpa using hm, ps ++ [(A, c)], by simp [h1], by rw [flatV_snoc h1]; simpa using hown, fun i hi => ?_⟩
  simp only [List.length_append, List.length_cons, List.length_nil] at hi
  by_cases hlt : i < l.length
  · have e1 : (l ++ [x]).getD i Val.none = l.getD i Val.none := by simp [List.getD_eq_getElem?_getD, List.getElem?_append_left hlt]
    have e2 : (ps ++ [(A, c)]).getD i (none, 0) = ps.getD i (none, 0) := by simp [List.getD_eq_getElem?_getD, List.getElem?_append_left (h1 ▸ hlt)]
    rw [e1, e2]
    exact (h3 i hlt).chg hc (fun b hb hq he => hq.2 he) (fun b hb hq => ⟨hq.1, key b hb hq.2⟩)
  · obtain rfl : i = l.length := by omega
    have e1 : (l ++ [x]).getD l.length Val.none = x := by simp [List.getD_eq_getElem?_getD]
    have e2 : (ps ++ [(A, c)]).getD l.length (none, 0) = (A, c) := by rw [← h1]; simp [List.getD_eq_getElem?_getD]
    rw [e1, e2]
    exact hx.chg hc (fun b hb hq he => (hQx b hb hq).2 he) (fun b hb hq => ⟨(hQx b hb hq).1, key b hb (hQx b hb hq).2⟩)
theorem info42 : (Tryz.prog.info? 42).map (fun i => (i.zero, i.size, i.bytes)) = some (some (.agg #[.int .i64 0, .int .i64 0, .string ⟨#[]⟩, .slice none 0 0]), 4, 56) := by kernel_rfl
end Go.Proofs.YtahnelihohmjfaaGreatDoor.V
