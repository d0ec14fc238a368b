import Derived.Test.YtammigfckdgljaaPWitnessSplitn1t
namespace Go.Proofs.Ytammigfckdgljaa.PWitnessSplit
open Go.RowKit Go.Maps Go.Proofs.YtammigfckdgljaaW.PrintWords Go.Proofs.YtammigfckdgljaaW.PrintLast Go.Proofs.YtammigfckdgljaaW.PrintMore
set_option linter.unusedVariables false
set_option linter.unusedSimpArgs false

/-! ### answers -/
theorem alloc_then {w w1 : World} {o : Obj} (h : Below (w.alloc o).heap.size (w.alloc o) w1) : Below w.heap.size w w1 := below_then (below_alloc (Below.refl _ _) o) (below_alloc (Below.refl _ _) o).size h
theorem blk_below {w w1 : World} {g : Nat} {o : Obj} (h : w.heap[g]? = some o) (hb : Below w.heap.size w w1) : w1.heap[g]? = some o := (hb.block g (Array.getElem?_eq_some_iff.1 h).1).trans h
structure Av where
  a : List S48
  b : List S48
  c : List S48
  p : List Int
  e : Int
  f : Int
  h : Int
def askP (l : List S46) (id tasks : Int) : Av := ⟨(splitP l id tasks).1, (splitP l id tasks).2.1, (lineP l tasks).1, (pathP l id tasks).1, (splitP l id tasks).2.2, (lineP l tasks).2, (pathP l id tasks).2⟩
def aV (va vb vc vp : Value) (x : Av) : Value := .agg #[va, vb, vc, vp, .int .i64 x.e, .int .i64 x.f, .int .i64 x.h]
def Sep (v u : Value) : Prop := ∀ k, v.ownBlock = some k → u.ownBlock ≠ some k
structure Four (w : World) (lo : Nat) (va vb vc vp : Value) (x : Av) : Prop where
  a : Kd.R k48 48 w lo (fun _ => True) va x.a
  b : Kd.R k48 48 w lo (fun _ => True) vb x.b
  c : Kd.R k48 48 w lo (fun _ => True) vc x.c
  p : Kd.R (Kd.int .i64) 3 w lo (fun _ => True) vp x.p
  ab : Sep va vb
  ac : Sep va vc
  bc : Sep vb vc
def AskPost (w : World) (x : Av) (e : Ending) (w' : World) : Prop := ∃ va vb vc vp : Value, e = .returned (aV va vb vc vp x) ∧ Four w' w.heap.size va vb vc vp x ∧ Below w.heap.size w w'
set_option maxHeartbeats 4000000 in
set_option maxRecDepth 100000 in
theorem asked_calls (A0 : Option Addr) (c0 : Nat) (l : List S46) (id tasks : Int) (w : World) (hr : Kd.C k46 w A0 l.length l) (hc : l.length ≤ c0) (hl : l.length ≤ 4398046510976) :
    Calls Try.prog 25 #[.slice A0 l.length c0, .int .i64 id, .int .i64 tasks] w (AskPost w (askP l id tasks)) := by
  have HR := Aside0.mk hr
  have HC := Aside0.mk hc
  have HL := Aside0.mk hl
  obtain ⟨⟨s1, s2, er⟩, hs⟩ : ∃ r, splitP l id tasks = r := ⟨_, rfl⟩
  obtain ⟨⟨s3, ef⟩, hn⟩ : ∃ r, lineP l tasks = r := ⟨_, rfl⟩
  obtain ⟨⟨s4, eh⟩, hp⟩ : ∃ r, pathP l id tasks = r := ⟨_, rfl⟩
  have hx : askP l id tasks = ⟨s1, s2, s3, s4, er, ef, eh⟩ := by unfold askP; rw [hs, hn, hp]
  rw [hx]
  have HS := Aside0.mk hs
  have HN := Aside0.mk hn
  have HP := Aside0.mk hp
  clear hr hc hl hs hn hp hx
  go_enter Try.func25, Try.ntmps25
  go_wp2_with (first
    | (go_at_call 13; refine (split_calls A0 c0 l id tasks _ (Kd.C_below HR.out (below_alloc (Below.refl _ _) _)) HC.out HL.out).mono ?_; rw [HS.out]; rintro e1 w1 ⟨v1, v2, rfl, hR1, hR2, hb1⟩)
    | (go_at_call 19; refine (line_calls A0 c0 l tasks _ (Kd.C_below HR.out (alloc_then hb1)) HC.out HL.out).mono ?_; rw [HN.out]; rintro e2 w2 ⟨v3, rfl, hR3, hb2⟩)
    | (go_at_call 16; refine (path_calls A0 c0 l id tasks _ (Kd.C_below HR.out (below_then (alloc_then hb1) (alloc_then hb1).size hb2)) HC.out HL.out).mono ?_; rw [HP.out]; rintro e3 w3 ⟨v4, rfl, hR4, hb3⟩; have hb21 : Below w.heap.size w w2 := below_then (alloc_then hb1) (alloc_then hb1).size hb2; have hB3 : Below w.heap.size w w3 := below_then hb21 hb21.size hb3; have hbk : w3.heap[w.heap.size]? = some (.cells #[.slice none 0 0, .slice none 0 0, .slice none 0 0, .slice none 0 0, .int .i64 0, .int .i64 0, .int .i64 0] 52 (0, 0)) := blk_below (blk_below (blk_below (Go.heap_alloc_new w _) hb1) hb2) hb3; have x0 := blk_cell hbk 0; have x1 := blk_cell hbk 1; have x2 := blk_cell hbk 2; have x3 := blk_cell hbk 3; have x4 := blk_cell hbk 4; have x5 := blk_cell hbk 5; have x6 := blk_cell hbk 6; have z0 := blk_frozen hbk 0; have z1 := blk_frozen hbk 1; have z2 := blk_frozen hbk 2; have z3 := blk_frozen hbk 3; have z4 := blk_frozen hbk 4; have z5 := blk_frozen hbk 5; have z6 := blk_frozen hbk 6; obtain ⟨A1, c1, hv1⟩ := Kd.R_slice hR1; obtain ⟨A2, c2, hv2⟩ := Kd.R_slice hR2; obtain ⟨A3, c3, hv3⟩ := Kd.R_slice hR3; obtain ⟨A4, c4, hv4⟩ := Kd.R_slice hR4; simp only at hv1 hv2 hv3 hv4; subst hv1; subst hv2; subst hv3; subst hv4))
  refine bodyPost_ret (v := .agg #[.slice A1 s1.length c1, .slice A2 s2.length c2, .slice A3 s3.length c3, .slice A4 s4.length c4, .int .i64 er, .int .i64 ef, .int .i64 eh]) (by simp [results, Try.results25, go_sem, *]) rfl ?_
  have hfar : ∀ (W : World) (u0 u1 u2 u3 u4 u5 u6 : Value) (k : Nat), k ≠ w.heap.size → (((((((W.setCell ⟨w.heap.size, 0, none⟩ u0).setCell ⟨w.heap.size, 1, none⟩ u1).setCell ⟨w.heap.size, 2, none⟩ u2).setCell ⟨w.heap.size, 3, none⟩ u3).setCell ⟨w.heap.size, 4, none⟩ u4).setCell ⟨w.heap.size, 5, none⟩ u5).setCell ⟨w.heap.size, 6, none⟩ u6).heap[k]? = W.heap[k]? := fun W _ _ _ _ _ _ _ k hk =>
    (Below.heap_setCell _ _ _ k hk).trans ((Below.heap_setCell _ _ _ k hk).trans ((Below.heap_setCell _ _ _ k hk).trans ((Below.heap_setCell _ _ _ k hk).trans ((Below.heap_setCell _ _ _ k hk).trans ((Below.heap_setCell _ _ _ k hk).trans (Below.heap_setCell _ _ _ k hk))))))
  have s1' := hb1.size
  have s2' := hb2.size
  rw [show ∀ o : Obj, (w.alloc o).heap.size = w.heap.size + 1 from fun o => by simp] at s1'
  refine ⟨_, _, _, _, rfl, ⟨?_, ?_, ?_, ?_, ?_, ?_, ?_⟩, ?_⟩
  · exact Kd.R_mono (Kd.R_step (Kd.R_lower (Kd.R_bound (Kd.R_below (Kd.R_below hR1 hb2) hb3)) (below_alloc (Below.refl _ _) _).size) (fun k hk _ => hfar w3 _ _ _ _ _ _ _ k (by have := hk.2.1; simp at this; omega))) (fun _ _ => trivial)
  · exact Kd.R_mono (Kd.R_step (Kd.R_lower (Kd.R_bound (Kd.R_below (Kd.R_below hR2 hb2) hb3)) (below_alloc (Below.refl _ _) _).size) (fun k hk _ => hfar w3 _ _ _ _ _ _ _ k (by have := hk.2.1; simp at this; omega))) (fun _ _ => trivial)
  · exact Kd.R_mono (Kd.R_step (Kd.R_lower (Kd.R_bound (Kd.R_below hR3 hb3)) (alloc_then hb1).size) (fun k hk _ => hfar w3 _ _ _ _ _ _ _ k (by have := hk.2.1; omega))) (fun _ _ => trivial)
  · exact Kd.R_mono (Kd.R_step (Kd.R_lower (Kd.R_bound hR4) hb21.size) (fun k hk _ => hfar w3 _ _ _ _ _ _ _ k (by have := hk.2.1; omega))) (fun _ _ => trivial)
  · exact fun k hk he => hR1.1 k hk he.symm
  · exact fun k hk he => by
      have h1 := Kd.R_lt hR1 k hk
      have h2 := Kd.R_base hR3 k he
      omega
  · exact fun k hk he => by
      have h1 := Kd.R_lt hR2 k hk
      have h2 := Kd.R_base hR3 k he
      omega
  · exact below_set (below_set (below_set (below_set (below_set (below_set (below_set hB3 (Nat.le_refl _)) (Nat.le_refl _)) (Nat.le_refl _)) (Nat.le_refl _)) (Nat.le_refl _)) (Nat.le_refl _)) (Nat.le_refl _)
end Go.Proofs.Ytammigfckdgljaa.PWitnessSplit
