import Derived.Test.YtammigfckdgljaaPWitnessSplita0
namespace Go.Proofs.Ytammigfckdgljaa.PWitnessSplit
open Go.RowKit Go.Maps Go.Proofs.YtammigfckdgljaaW.PrintWords Go.Proofs.YtammigfckdgljaaW.PrintLast Go.Proofs.YtammigfckdgljaaW.PrintMore
set_option linter.unusedVariables false
set_option linter.unusedSimpArgs false

theorem seven {w : World} {g : Nat} {t : TypeId} {a b c d e f h : Value} (k : w.heap[g]? = some (.cells #[a, b, c, d, e, f, h] t (0, 0))) : w.cell? ⟨g, 0, none⟩ = some a ∧ w.cell? ⟨g, 1, none⟩ = some b ∧ w.cell? ⟨g, 2, none⟩ = some c ∧ w.cell? ⟨g, 3, none⟩ = some d ∧ w.cell? ⟨g, 4, none⟩ = some e ∧ w.cell? ⟨g, 5, none⟩ = some f ∧ w.cell? ⟨g, 6, none⟩ = some h :=
  ⟨blk_cell k 0, blk_cell k 1, blk_cell k 2, blk_cell k 3, blk_cell k 4, blk_cell k 5, blk_cell k 6⟩
theorem sevenF {w : World} {g : Nat} {t : TypeId} {cs : Array Value} (k : w.heap[g]? = some (.cells cs t (0, 0))) : w.frozen? ⟨g, 0, none⟩ = false ∧ w.frozen? ⟨g, 1, none⟩ = false ∧ w.frozen? ⟨g, 2, none⟩ = false ∧ w.frozen? ⟨g, 3, none⟩ = false ∧ w.frozen? ⟨g, 4, none⟩ = false ∧ w.frozen? ⟨g, 5, none⟩ = false ∧ w.frozen? ⟨g, 6, none⟩ = false :=
  ⟨blk_frozen k 0, blk_frozen k 1, blk_frozen k 2, blk_frozen k 3, blk_frozen k 4, blk_frozen k 5, blk_frozen k 6⟩
theorem far7 (W : World) (g : Nat) (u0 u1 u2 u3 u4 u5 u6 : Value) (k : Nat) (hk : k ≠ g) : (((((((W.setCell ⟨g, 0, none⟩ u0).setCell ⟨g, 1, none⟩ u1).setCell ⟨g, 2, none⟩ u2).setCell ⟨g, 3, none⟩ u3).setCell ⟨g, 4, none⟩ u4).setCell ⟨g, 5, none⟩ u5).setCell ⟨g, 6, none⟩ u6).heap[k]? = W.heap[k]? :=
  (Below.heap_setCell _ _ _ k hk).trans ((Below.heap_setCell _ _ _ k hk).trans ((Below.heap_setCell _ _ _ k hk).trans ((Below.heap_setCell _ _ _ k hk).trans ((Below.heap_setCell _ _ _ k hk).trans ((Below.heap_setCell _ _ _ k hk).trans (Below.heap_setCell _ _ _ k hk))))))
theorem R7 {α : Type} {d : Kd α} {e base : Nat} {W : World} {v : Value} {xs : List α} (h : d.R e W base (fun _ => True) v xs) {g : Nat} (hg : g < base) (u0 u1 u2 u3 u4 u5 u6 : Value) : d.R e (((((((W.setCell ⟨g, 0, none⟩ u0).setCell ⟨g, 1, none⟩ u1).setCell ⟨g, 2, none⟩ u2).setCell ⟨g, 3, none⟩ u3).setCell ⟨g, 4, none⟩ u4).setCell ⟨g, 5, none⟩ u5).setCell ⟨g, 6, none⟩ u6) base (fun _ => True) v xs :=
  Kd.R_mono (Kd.R_step (Kd.R_bound h) (fun k hk _ => far7 W g _ _ _ _ _ _ _ k (by have := hk.2.1; omega))) (fun _ _ => trivial)
structure Cs (w : World) (A1 : Option Addr) (c1 : Nat) (A2 : Option Addr) (c2 : Nat) (A3 : Option Addr) (c3 : Nat) (A4 : Option Addr) (c4 : Nat) (x : Av) : Prop where
  a : Kd.C k48 w A1 x.a.length x.a
  b : Kd.C k48 w A2 x.b.length x.b
  c : Kd.C k48 w A3 x.c.length x.c
  p : Kd.C (Kd.int .i64) w A4 x.p.length x.p
  la : x.a.length ≤ c1
  lb : x.b.length ≤ c2
  lc : x.c.length ≤ c3
  lp : x.p.length ≤ c4
set_option maxHeartbeats 4000000 in
set_option maxRecDepth 100000 in
theorem kept_calls (A1 : Option Addr) (c1 : Nat) (A2 : Option Addr) (c2 : Nat) (A3 : Option Addr) (c3 : Nat) (A4 : Option Addr) (c4 : Nat) (x : Av) (w : World) (h : Cs w A1 c1 A2 c2 A3 c3 A4 c4 x) (h1 : x.a.length ≤ 8000000000000) (h2 : x.b.length ≤ 8000000000000) (h3 : x.c.length ≤ 8000000000000) (h4 : x.p.length ≤ 8000000000000) :
    Calls Try.prog 26 #[aV (.slice A1 x.a.length c1) (.slice A2 x.b.length c2) (.slice A3 x.c.length c3) (.slice A4 x.p.length c4) x] w (AskPost w x) := by
  obtain ⟨la, lb, lc, lp, xe, xf, xh⟩ := x
  obtain ⟨ha, hb, hc, hp, ka, kb, kc, kp⟩ := h
  unfold aV
  simp only at ha hb hc hp ka kb kc kp h1 h2 h3 h4 ⊢
  have HA := Aside0.mk ha
  have HB := Aside0.mk hb
  have HC := Aside0.mk hc
  have HP := Aside0.mk hp
  clear ha hb hc hp
  go_enter Try.func26, Try.ntmps26
  go_wp2_with fail
  obtain ⟨W2, hW2⟩ : ∃ W2 : World, W2 = ((w.alloc (Obj.cells #[.slice A1 la.length c1, .slice A2 lb.length c2, .slice A3 lc.length c3, .slice A4 lp.length c4, .int .i64 xe, .int .i64 xf, .int .i64 xh] 52)).alloc (Obj.cells #[.slice none 0 0, .slice none 0 0, .slice none 0 0, .slice none 0 0, .int .i64 0, .int .i64 0, .int .i64 0] 52)) := ⟨_, rfl⟩
  rw [← hW2]
  have hb2 : Below w.heap.size w W2 := by rw [hW2]; exact below_alloc (below_alloc (Below.refl _ _) _) _
  have hz2 : w.heap.size + 2 = W2.heap.size := by rw [hW2]; simp
  have hk1 : W2.heap[w.heap.size]? = some (.cells #[.slice A1 la.length c1, .slice A2 lb.length c2, .slice A3 lc.length c3, .slice A4 lp.length c4, .int .i64 xe, .int .i64 xf, .int .i64 xh] 52 (0, 0)) := by rw [hW2]; exact blk_alloc (Go.heap_alloc_new w _) _
  have hk2 : W2.heap[w.heap.size + 1]? = some (.cells #[.slice none 0 0, .slice none 0 0, .slice none 0 0, .slice none 0 0, .int .i64 0, .int .i64 0, .int .i64 0] 52 (0, 0)) := by
    rw [hW2]
    have := Go.heap_alloc_new (w.alloc (Obj.cells #[.slice A1 la.length c1, .slice A2 lb.length c2, .slice A3 lc.length c3, .slice A4 lp.length c4, .int .i64 xe, .int .i64 xf, .int .i64 xh] 52)) (Obj.cells #[.slice none 0 0, .slice none 0 0, .slice none 0 0, .slice none 0 0, .int .i64 0, .int .i64 0, .int .i64 0] 52)
    simpa using this
  have HA2 := Aside0.mk (Kd.C_below HA.out hb2)
  have HB2 := Aside0.mk (Kd.C_below HB.out hb2)
  have HC2 := Aside0.mk (Kd.C_below HC.out hb2)
  have HP2 := Aside0.mk (Kd.C_below HP.out hb2)
  have K1 := Aside0.mk hk1
  have K2 := Aside0.mk hk2
  have HW2 := Aside0.mk hb2
  obtain ⟨p0, p1, p2, p3, p4, p5, p6⟩ := seven hk1
  clear hW2 hb2 hk1 hk2 HA HB HC HP
  go_region_held3 (fun w' => w'.cell? ⟨w.heap.size, 0, none⟩ = some (.slice A1 la.length c1) ∧ w'.cell? ⟨w.heap.size, 1, none⟩ = some (.slice A2 lb.length c2) ∧ w'.cell? ⟨w.heap.size, 2, none⟩ = some (.slice A3 lc.length c3) ∧ w'.cell? ⟨w.heap.size, 3, none⟩ = some (.slice A4 lp.length c4) ∧ w'.cell? ⟨w.heap.size, 4, none⟩ = some (.int .i64 xe) ∧ w'.cell? ⟨w.heap.size, 5, none⟩ = some (.int .i64 xf) ∧ w'.cell? ⟨w.heap.size, 6, none⟩ = some (.int .i64 xh))
    (first | with_reducible exact seven (blk_below K1.out hb6) | with_reducible exact seven (blk_below K1.out hb5) | with_reducible exact seven (blk_below K1.out hb4) | with_reducible exact seven (blk_below K1.out hb3) | with_reducible exact seven K1.out | go_keep)
    (first
      | ((refine Kd.R_append_rows_step k48 (Rr := k48.K W2) W2.heap.size (by rfl) (.const (.slice none 0 0)) (.tmp 4) 24 48 (.agg #[.int .i64 0, .int .i64 0]) 16 (by rfl) Try.underlying24 info48 rfl (by decide) (by decide) (.slice none 0 0) [] la A1 la.length c1 (fun _ => True) (fun _ => False) (by rfl) (by rfl) (Kd.R_nil _ _ _ _ _) HA2.out (fun x cs h => (k48_open h) ▸ k48_mkM _ _ _ x) (fun _ h => h.elim) (fun _ _ => trivial) (below_drew (Below.refl _ _)) (Nat.le_refl _) (by simp; omega) ?_; intro v3 w3 hR3 hb3 _ _; rw [List.nil_append] at hR3; obtain ⟨B3, d3, hv3⟩ := Kd.R_slice hR3; subst hv3))
      | ((refine Kd.R_append_rows_step k48 (Rr := k48.K w3) W2.heap.size (by rfl) (.const (.slice none 0 0)) (.tmp 7) 24 48 (.agg #[.int .i64 0, .int .i64 0]) 16 (by rfl) Try.underlying24 info48 rfl (by decide) (by decide) (.slice none 0 0) [] lb A2 lb.length c2 (fun _ => True) (fun _ => False) (by rfl) (by rfl) (Kd.R_nil _ _ _ _ _) (Kd.C_below HB2.out hb3) (fun x cs h => (k48_open h) ▸ k48_mkM _ _ _ x) (fun _ h => h.elim) (fun _ _ => trivial) hb3 hb3.size (by simp; omega) ?_; intro v4 w4 hR4 hb4 hg4 ht4; rw [List.nil_append] at hR4; obtain ⟨B4, d4, hv4⟩ := Kd.R_slice hR4; subst hv4))
      | ((refine Kd.R_append_rows_step k48 (Rr := k48.K w4) W2.heap.size (by rfl) (.const (.slice none 0 0)) (.tmp 10) 24 48 (.agg #[.int .i64 0, .int .i64 0]) 16 (by rfl) Try.underlying24 info48 rfl (by decide) (by decide) (.slice none 0 0) [] lc A3 lc.length c3 (fun _ => True) (fun _ => False) (by rfl) (by rfl) (Kd.R_nil _ _ _ _ _) (Kd.C_below HC2.out hb4) (fun x cs h => (k48_open h) ▸ k48_mkM _ _ _ x) (fun _ h => h.elim) (fun _ _ => trivial) hb4 hb4.size (by simp; omega) ?_; intro v5 w5 hR5 hb5 hg5 ht5; rw [List.nil_append] at hR5; obtain ⟨B5, d5, hv5⟩ := Kd.R_slice hR5; subst hv5))
      | ((refine Kd.R_append_rows_step (Kd.int .i64) (Rr := (Kd.int .i64).K w5) W2.heap.size (by rfl) (.const (.slice none 0 0)) (.tmp 13) 32 3 (.int .i64 0) 8 (by rfl) Try.underlying32 info3 rfl (by decide) (by decide) (.slice none 0 0) [] lp A4 lp.length c4 (fun _ => True) (fun _ => False) (by rfl) (by rfl) (Kd.R_nil _ _ _ _ _) (Kd.C_below HP2.out hb5) (fun x cs h => h) (fun _ h => h.elim) (fun _ _ => trivial) hb5 hb5.size (by simp; omega) ?_; intro v6 w6 hR6 hb6 hg6 ht6; rw [List.nil_append] at hR6; obtain ⟨B6, d6, hv6⟩ := Kd.R_slice hR6; subst hv6; obtain ⟨q0, q1, q2, q3, q4, q5, q6⟩ := seven (blk_below K2.out hb6); obtain ⟨f0, f1, f2, f3, f4, f5, f6⟩ := sevenF (blk_below K2.out hb6))))
  go_wp2_with fail
  refine bodyPost_ret (v := .agg #[.slice B3 la.length d3, .slice B4 lb.length d4, .slice B5 lc.length d5, .slice B6 lp.length d6, .int .i64 xe, .int .i64 xf, .int .i64 xh]) (by simp [results, Try.results26, go_sem, *]) rfl ?_
  have hn : ∀ (k : Nat), True → some k ≠ (Value.slice none 0 0).ownBlock := fun k _ => by simp [Value.ownBlock]
  have r3 := Kd.R_grown (Kd.R_grown (Kd.R_grown hR3 hg4 hn) hg5 hn) hg6 hn
  have r4 := Kd.R_grown (Kd.R_grown hR4 hg5 hn) hg6 hn
  have r5 := Kd.R_grown hR5 hg6 hn
  have hs3 := hb3.size
  have hs4 := hg5.size
  have low : ∀ {α : Type} {d : Kd α} {e : Nat} {v : Value} {xs : List α}, d.R e w6 W2.heap.size (fun _ => True) v xs → d.R e _ w.heap.size (fun _ => True) v xs := fun h => Kd.R_lower (R7 h (g := w.heap.size + 1) (by omega) (.slice B3 la.length d3) (.slice B4 lb.length d4) (.slice B5 lc.length d5) (.slice B6 lp.length d6) (.int .i64 xe) (.int .i64 xf) (.int .i64 xh)) HW2.out.size
  have new : ∀ {v : Value} {W : World}, (v.ownBlock = (Value.slice none 0 0).ownBlock ∨ ∃ b, v.ownBlock = some b ∧ W.heap.size ≤ b) → ∀ k, v.ownBlock = some k → W.heap.size ≤ k := by
    intro v W h k hk
    rcases h with h | ⟨b, h, hb⟩
    · rw [h] at hk; simp [Value.ownBlock] at hk
    · rw [h] at hk; injection hk with hk; omega
  refine ⟨_, _, _, _, rfl, ⟨low r3, low r4, low r5, low hR6, ?_, ?_, ?_⟩, ?_⟩
  · exact fun k hk he => by have h1 := Kd.R_lt hR3 k hk; have h2 := new ht4 k he; omega
  · exact fun k hk he => by have h1 := Kd.R_lt hR3 k hk; have h2 := new ht5 k he; have h3 := hg4.size; omega
  · exact fun k hk he => by have h1 := Kd.R_lt hR4 k hk; have h2 := new ht5 k he; omega
  · have hB6 : Below w.heap.size w w6 := below_then HW2.out HW2.out.size hb6
    exact below_set (below_set (below_set (below_set (below_set (below_set (below_set hB6 (Nat.le_succ _)) (Nat.le_succ _)) (Nat.le_succ _)) (Nat.le_succ _)) (Nat.le_succ _)) (Nat.le_succ _)) (Nat.le_succ _)
end Go.Proofs.Ytammigfckdgljaa.PWitnessSplit
