import Derived.Test.YtammigfckdgljaaPWitnessSplita2
namespace Go.Proofs.Ytammigfckdgljaa.PWitnessSplit
open Go.RowKit Go.Maps Go.Proofs.YtammigfckdgljaaW.PrintWords Go.Proofs.YtammigfckdgljaaW.PrintLast Go.Proofs.YtammigfckdgljaaW.PrintMore
set_option linter.unusedVariables false
set_option linter.unusedSimpArgs false

theorem Own4.set {w : World} {lo : Nat} {va vb vc vp : Value} {x : Av} (h : Own4 w lo va vb vc vp x) {g : Nat} {cs : Array Value} (hb : w.heap[g]? = some (.cells cs 52 (0, 0))) (j : Nat) (u : Value) : Own4 (w.setCell ⟨g, j, none⟩ u) lo va vb vc vp x :=
  ⟨Kd.R_set h.a hb (by simp [k48, Kd.iso, Kd.pair, Kd.int, Kd.scalar]) j u, Kd.R_set h.b hb (by simp [k48, Kd.iso, Kd.pair, Kd.int, Kd.scalar]) j u, Kd.R_set h.c hb (by simp [k48, Kd.iso, Kd.pair, Kd.int, Kd.scalar]) j u, Kd.R_set h.p hb (by simp [Kd.int, Kd.scalar]) j u, h.ab, h.ac, h.bc⟩
theorem Own4.far {w W' : World} {lo : Nat} {va vb vc vp : Value} {x : Av} (h : Own4 w lo va vb vc vp x) {g : Nat} {cs : Array Value} (hb : w.heap[g]? = some (.cells cs 52 (0, 0))) (hf : ∀ k, k ≠ g → W'.heap[k]? = w.heap[k]?) : Own4 W' lo va vb vc vp x :=
  ⟨Kd.R_step h.a (fun k hk _ => hf k (fun he => Kd.R_ne h.a hb (by decide) (he ▸ hk).symm)), Kd.R_step h.b (fun k hk _ => hf k (fun he => Kd.R_ne h.b hb (by decide) (he ▸ hk).symm)), Kd.R_step h.c (fun k hk _ => hf k (fun he => Kd.R_ne h.c hb (by decide) (he ▸ hk).symm)), Kd.R_step h.p (fun k hk _ => hf k (fun he => Kd.R_ne h.p hb (by decide) (he ▸ hk).symm)), h.ab, h.ac, h.bc⟩
/-- where a row's block lies behind an append -/
def Moved (W : World) (v v1 : Value) : Prop := v1.ownBlock = v.ownBlock ∨ ∃ b, v1.ownBlock = some b ∧ W.heap.size ≤ b
theorem Moved.sepL {W : World} {v v1 u : Value} (h : Moved W v v1) (hs : Sep v u) (hlt : ∀ k, u.ownBlock = some k → k < W.heap.size) : Sep v1 u := fun k hk he => by
  rcases h with h | ⟨b, h, hb⟩
  · exact hs k (h ▸ hk) he
  · rw [h] at hk; injection hk with hk; have := hlt k he; omega
theorem Moved.sepR {W : World} {v v1 u : Value} (h : Moved W v v1) (hs : Sep u v) (hlt : ∀ k, u.ownBlock = some k → k < W.heap.size) : Sep u v1 := fun k hk he => by
  rcases h with h | ⟨b, h, hb⟩
  · exact hs k hk (h ▸ he)
  · rw [h] at he; injection he with he; have := hlt k hk; omega
theorem Moved.new {W : World} {v v1 : Value} (h : Moved W v v1) (q : Nat) (hq : OwnOf v1 q) : OwnOf v q ∨ W.heap.size ≤ q := by
  rcases h with h | ⟨b, h, hb⟩
  · exact .inl (h.symm.trans hq)
  · unfold OwnOf at hq; rw [h] at hq; injection hq with hq; exact .inr (by omega)
theorem chgRow {W w1 : World} {v : Value} (h : W.grownBy w1 v.ownBlock) : Chg W w1 (OwnOf v) := Chg.of_grown h (fun q hq => hq)
theorem Own4.growA {W w1 : World} {lo : Nat} {va vb vc vp v1 : Value} {y : Av} {ys : List S48} (h : Own4 W lo va vb vc vp y) (hr : Kd.R k48 48 w1 lo (fun _ => True) v1 ys) (hg : W.grownBy w1 va.ownBlock) (hm : Moved W va v1) : Own4 w1 lo v1 vb vc vp ⟨ys, y.b, y.c, y.p, y.e, y.f, y.h⟩ :=
  ⟨R_own48 hr, (chgRow hg).R h.b (fun q hq he => h.ab q he hq), (chgRow hg).R h.c (fun q hq he => h.ac q he hq), (chgRow hg).R h.p (fun q hq he => h.pNe h.a q he hq), hm.sepL h.ab (Kd.R_lt h.b), hm.sepL h.ac (Kd.R_lt h.c), h.bc⟩
theorem Own4.growB {W w1 : World} {lo : Nat} {va vb vc vp v1 : Value} {y : Av} {ys : List S48} (h : Own4 W lo va vb vc vp y) (hr : Kd.R k48 48 w1 lo (fun _ => True) v1 ys) (hg : W.grownBy w1 vb.ownBlock) (hm : Moved W vb v1) : Own4 w1 lo va v1 vc vp ⟨y.a, ys, y.c, y.p, y.e, y.f, y.h⟩ :=
  ⟨(chgRow hg).R h.a (fun q hq he => h.ab q hq he), R_own48 hr, (chgRow hg).R h.c (fun q hq he => h.bc q he hq), (chgRow hg).R h.p (fun q hq he => h.pNe h.b q he hq), hm.sepR h.ab (Kd.R_lt h.a), h.ac, hm.sepL h.bc (Kd.R_lt h.c)⟩
theorem Own4.growC {W w1 : World} {lo : Nat} {va vb vc vp v1 : Value} {y : Av} {ys : List S48} (h : Own4 W lo va vb vc vp y) (hr : Kd.R k48 48 w1 lo (fun _ => True) v1 ys) (hg : W.grownBy w1 vc.ownBlock) (hm : Moved W vc v1) : Own4 w1 lo va vb v1 vp ⟨y.a, y.b, ys, y.p, y.e, y.f, y.h⟩ :=
  ⟨(chgRow hg).R h.a (fun q hq he => h.ac q hq he), (chgRow hg).R h.b (fun q hq he => h.bc q hq he), R_own48 hr, (chgRow hg).R h.p (fun q hq he => h.pNe h.c q he hq), h.ab, hm.sepR h.ac (Kd.R_lt h.a), hm.sepR h.bc (Kd.R_lt h.b)⟩
theorem Own4.growP {W w1 : World} {lo : Nat} {va vb vc vp v1 : Value} {y : Av} {ys : List Int} (h : Own4 W lo va vb vc vp y) (hr : Kd.R (Kd.int .i64) 3 w1 lo (fun _ => True) v1 ys) (hg : W.grownBy w1 vp.ownBlock) (hm : Moved W vp v1) : Own4 w1 lo va vb vc v1 ⟨y.a, y.b, y.c, ys, y.e, y.f, y.h⟩ :=
  ⟨(chgRow hg).R h.a (fun q hq he => h.pNe h.a q hq he), (chgRow hg).R h.b (fun q hq he => h.pNe h.b q hq he), (chgRow hg).R h.c (fun q hq he => h.pNe h.c q hq he), R_ownI hr, h.ab, h.ac, h.bc⟩
/-- the state of grows' loop -/
structure GS (W2 : World) (lo bx rs : Nat) (va vb vc vp : Value) (x : Av) (ua ub uc up : Value) (y : Av) (wr : World) : Prop where
  own : Own4 wr lo ua ub uc up y
  box : wr.heap[bx]? = some (.cells #[ua, ub, uc, up, .int .i64 x.e, .int .i64 x.f, .int .i64 x.h] 52 (0, 0))
  res : wr.heap[rs]? = some (.cells #[.slice none 0 0, .slice none 0 0, .slice none 0 0, .slice none 0 0, .int .i64 0, .int .i64 0, .int .i64 0] 52 (0, 0))
  chg : Chg W2 wr (In4 va vb vc vp)
  new : ∀ q, In4 ua ub uc up q → In4 va vb vc vp q ∨ W2.heap.size ≤ q
theorem Chg.set {w w1 : World} {S : Nat → Prop} (h : Chg w w1 S) {g : Nat} (hg : w.heap.size ≤ g) (j : Nat) (u : Value) : Chg w (w1.setCell ⟨g, j, none⟩ u) S :=
  ⟨h.os, h.tape, h.output, by simpa [World.setCell] using h.size, fun i hi hn => (Below.heap_setCell w1 ⟨g, j, none⟩ u i (by show i ≠ g; omega)).trans (h.block i hi hn)⟩
section
variable {W W2 w1 : World} {lo bx rs : Nat} {va vb vc vp ua ub uc up v1 : Value} {x y : Av}
theorem GS.boxAt (h : GS W2 lo bx rs va vb vc vp x ua ub uc up y W) {row : Option Nat} (hg : W.grownBy w1 row) (hne : some bx ≠ row) : w1.heap[bx]? = some (.cells #[ua, ub, uc, up, .int .i64 x.e, .int .i64 x.f, .int .i64 x.h] 52 (0, 0)) := Go.Proofs.YtammigfckdgljaaW.PrintWords.blk_grown h.box hg hne
theorem GS.stepA (h : GS W2 lo bx rs va vb vc vp x ua ub uc up y W) (hx : W2.heap.size ≤ bx) (hrs : rs ≠ bx) {ys : List S48} (hr : Kd.R k48 48 w1 lo (fun _ => True) v1 ys) (hg : W.grownBy w1 ua.ownBlock) (hm : Moved W ua v1) : GS W2 lo bx rs va vb vc vp x v1 ub uc up ⟨ys, y.b, y.c, y.p, y.e, y.f, y.h⟩ (w1.setCell ⟨bx, 0, none⟩ v1) :=
  have hb := h.boxAt hg (Kd.R_ne h.own.a h.box (by decide))
  ⟨(h.own.growA hr hg hm).set hb 0 v1, blk_put hb 0 v1 rfl, (Below.heap_setCell w1 ⟨bx, 0, none⟩ v1 rs hrs).trans (Go.Proofs.YtammigfckdgljaaW.PrintWords.blk_grown h.res hg (Kd.R_ne h.own.a h.res (by decide))),
    (h.chg.then_ (chgRow hg) (fun q hq he => (h.new q (.inl he)).resolve_right (by omega))).set hx 0 v1,
    fun q hq => by
      rcases hq with hq | hq | hq | hq
      · rcases hm.new q hq with h1 | h1
        · exact h.new q (.inl h1)
        · exact .inr (Nat.le_trans h.chg.size h1)
      · exact h.new q (.inr (.inl hq))
      · exact h.new q (.inr (.inr (.inl hq)))
      · exact h.new q (.inr (.inr (.inr hq)))⟩
theorem GS.stepB (h : GS W2 lo bx rs va vb vc vp x ua ub uc up y W) (hx : W2.heap.size ≤ bx) (hrs : rs ≠ bx) {ys : List S48} (hr : Kd.R k48 48 w1 lo (fun _ => True) v1 ys) (hg : W.grownBy w1 ub.ownBlock) (hm : Moved W ub v1) : GS W2 lo bx rs va vb vc vp x ua v1 uc up ⟨y.a, ys, y.c, y.p, y.e, y.f, y.h⟩ (w1.setCell ⟨bx, 1, none⟩ v1) :=
  have hb := h.boxAt hg (Kd.R_ne h.own.b h.box (by decide))
  ⟨(h.own.growB hr hg hm).set hb 1 v1, blk_put hb 1 v1 rfl, (Below.heap_setCell w1 ⟨bx, 1, none⟩ v1 rs hrs).trans (Go.Proofs.YtammigfckdgljaaW.PrintWords.blk_grown h.res hg (Kd.R_ne h.own.b h.res (by decide))),
    (h.chg.then_ (chgRow hg) (fun q hq he => (h.new q (.inr (.inl he))).resolve_right (by omega))).set hx 1 v1,
    fun q hq => by
      rcases hq with hq | hq | hq | hq
      · exact h.new q (.inl hq)
      · rcases hm.new q hq with h1 | h1
        · exact h.new q (.inr (.inl h1))
        · exact .inr (Nat.le_trans h.chg.size h1)
      · exact h.new q (.inr (.inr (.inl hq)))
      · exact h.new q (.inr (.inr (.inr hq)))⟩
theorem GS.stepC (h : GS W2 lo bx rs va vb vc vp x ua ub uc up y W) (hx : W2.heap.size ≤ bx) (hrs : rs ≠ bx) {ys : List S48} (hr : Kd.R k48 48 w1 lo (fun _ => True) v1 ys) (hg : W.grownBy w1 uc.ownBlock) (hm : Moved W uc v1) : GS W2 lo bx rs va vb vc vp x ua ub v1 up ⟨y.a, y.b, ys, y.p, y.e, y.f, y.h⟩ (w1.setCell ⟨bx, 2, none⟩ v1) :=
  have hb := h.boxAt hg (Kd.R_ne h.own.c h.box (by decide))
  ⟨(h.own.growC hr hg hm).set hb 2 v1, blk_put hb 2 v1 rfl, (Below.heap_setCell w1 ⟨bx, 2, none⟩ v1 rs hrs).trans (Go.Proofs.YtammigfckdgljaaW.PrintWords.blk_grown h.res hg (Kd.R_ne h.own.c h.res (by decide))),
    (h.chg.then_ (chgRow hg) (fun q hq he => (h.new q (.inr (.inr (.inl he)))).resolve_right (by omega))).set hx 2 v1,
    fun q hq => by
      rcases hq with hq | hq | hq | hq
      · exact h.new q (.inl hq)
      · exact h.new q (.inr (.inl hq))
      · rcases hm.new q hq with h1 | h1
        · exact h.new q (.inr (.inr (.inl h1)))
        · exact .inr (Nat.le_trans h.chg.size h1)
      · exact h.new q (.inr (.inr (.inr hq)))⟩
theorem GS.stepP (h : GS W2 lo bx rs va vb vc vp x ua ub uc up y W) (hx : W2.heap.size ≤ bx) (hrs : rs ≠ bx) {ys : List Int} (hr : Kd.R (Kd.int .i64) 3 w1 lo (fun _ => True) v1 ys) (hg : W.grownBy w1 up.ownBlock) (hm : Moved W up v1) : GS W2 lo bx rs va vb vc vp x ua ub uc v1 ⟨y.a, y.b, y.c, ys, y.e, y.f, y.h⟩ (w1.setCell ⟨bx, 3, none⟩ v1) :=
  have hb := h.boxAt hg (Kd.R_ne h.own.p h.box (by decide))
  ⟨(h.own.growP hr hg hm).set hb 3 v1, blk_put hb 3 v1 rfl, (Below.heap_setCell w1 ⟨bx, 3, none⟩ v1 rs hrs).trans (Go.Proofs.YtammigfckdgljaaW.PrintWords.blk_grown h.res hg (Kd.R_ne h.own.p h.res (by decide))),
    (h.chg.then_ (chgRow hg) (fun q hq he => (h.new q (.inr (.inr (.inr he)))).resolve_right (by omega))).set hx 3 v1,
    fun q hq => by
      rcases hq with hq | hq | hq | hq
      · exact h.new q (.inl hq)
      · exact h.new q (.inr (.inl hq))
      · exact h.new q (.inr (.inr (.inl hq)))
      · rcases hm.new q hq with h1 | h1
        · exact h.new q (.inr (.inr (.inr h1)))
        · exact .inr (Nat.le_trans h.chg.size h1)⟩
end
def GLoop (w : World) (lo bx rs : Nat) (va vb vc vp : Value) (x : Av) (v6 : Value) (wr : World) : Prop :=
  ∃ (i : Nat) (ua ub uc up : Value) (y : Av), i ≤ 40 ∧ v6 = .int .i64 i ∧ y.a.length = x.a.length + i ∧ y.b.length = x.b.length + i ∧ y.c.length = x.c.length + i ∧ y.p.length = x.p.length + i ∧ GS w lo bx rs va vb vc vp x ua ub uc up y wr
def GrowPost (w : World) (lo : Nat) (va vb vc vp : Value) (x : Av) (e : Ending) (w' : World) : Prop := ∃ (ua ub uc up : Value) (y : Av), e = .returned (aV ua ub uc up y) ∧ Own4 w' lo ua ub uc up y ∧ Chg w w' (In4 va vb vc vp) ∧ (∀ q, In4 ua ub uc up q → In4 va vb vc vp q ∨ w.heap.size ≤ q) ∧
  y.a.length = x.a.length + 40 ∧ y.b.length = x.b.length + 40 ∧ y.c.length = x.c.length + 40 ∧ y.p.length = x.p.length + 40
set_option maxHeartbeats 4000000 in
set_option maxRecDepth 100000 in
theorem grows_calls (va vb vc vp : Value) (x : Av) (n : Int) (lo : Nat) (w : World) (h : Own4 w lo va vb vc vp x) (hlo : lo ≤ w.heap.size) (hn0 : 0 ≤ n) (hn : n ≤ 10000) (h1 : x.a.length ≤ 8000000000000) (h2 : x.b.length ≤ 8000000000000) (h3 : x.c.length ≤ 8000000000000) (h4 : x.p.length ≤ 8000000000000) :
    Calls Try.prog 29 #[aV va vb vc vp x, .int .i64 n] w (GrowPost w lo va vb vc vp x) := by
  obtain ⟨A1, c1, hv1⟩ := Kd.R_slice h.a
  obtain ⟨A2, c2, hv2⟩ := Kd.R_slice h.b
  obtain ⟨A3, c3, hv3⟩ := Kd.R_slice h.c
  obtain ⟨A4, c4, hv4⟩ := Kd.R_slice h.p
  have H := Aside0.mk h
  unfold aV
  subst hv1
  subst hv2
  subst hv3
  subst hv4
  clear h
  go_enter Try.func29, Try.ntmps29
  go_wp2_with fail
  obtain ⟨W3, hW3⟩ : ∃ W3 : World, W3 = (((w.alloc (Obj.cells #[.slice A1 x.a.length c1, .slice A2 x.b.length c2, .slice A3 x.c.length c3, .slice A4 x.p.length c4, .int .i64 x.e, .int .i64 x.f, .int .i64 x.h] 52)).alloc (Obj.cells #[.slice none 0 0, .slice none 0 0, .slice none 0 0, .slice none 0 0, .int .i64 0, .int .i64 0, .int .i64 0] 52)).alloc (Obj.cells #[.slice A1 x.a.length c1, .slice A2 x.b.length c2, .slice A3 x.c.length c3, .slice A4 x.p.length c4, .int .i64 x.e, .int .i64 x.f, .int .i64 x.h] 52)) := ⟨_, rfl⟩
  rw [← hW3]
  have hb3 : Below w.heap.size w W3 := by rw [hW3]; exact below_alloc (below_alloc (below_alloc (Below.refl _ _) _) _) _
  have G0 : Aside0 (GS w lo (w.heap.size + 1 + 1) (w.heap.size + 1) (.slice A1 x.a.length c1) (.slice A2 x.b.length c2) (.slice A3 x.c.length c3) (.slice A4 x.p.length c4) x (.slice A1 x.a.length c1) (.slice A2 x.b.length c2) (.slice A3 x.c.length c3) (.slice A4 x.p.length c4) x W3) := ⟨⟨H.out.kept (S := fun _ => False) (Chg.of_below hb3) (fun _ _ hq => hq), by
      rw [hW3]
      have := Go.heap_alloc_new ((w.alloc (Obj.cells #[.slice A1 x.a.length c1, .slice A2 x.b.length c2, .slice A3 x.c.length c3, .slice A4 x.p.length c4, .int .i64 x.e, .int .i64 x.f, .int .i64 x.h] 52)).alloc (Obj.cells #[.slice none 0 0, .slice none 0 0, .slice none 0 0, .slice none 0 0, .int .i64 0, .int .i64 0, .int .i64 0] 52)) (Obj.cells #[.slice A1 x.a.length c1, .slice A2 x.b.length c2, .slice A3 x.c.length c3, .slice A4 x.p.length c4, .int .i64 x.e, .int .i64 x.f, .int .i64 x.h] 52)
      simpa using this, by
      rw [hW3]
      have := Go.heap_alloc_new (w.alloc (Obj.cells #[.slice A1 x.a.length c1, .slice A2 x.b.length c2, .slice A3 x.c.length c3, .slice A4 x.p.length c4, .int .i64 x.e, .int .i64 x.f, .int .i64 x.h] 52)) (Obj.cells #[.slice none 0 0, .slice none 0 0, .slice none 0 0, .slice none 0 0, .int .i64 0, .int .i64 0, .int .i64 0] 52)
      exact blk_alloc (by simpa using this) _, Chg.of_below hb3, fun q hq => .inl hq⟩⟩
  obtain ⟨va, hva⟩ : ∃ v, Value.slice A1 x.a.length c1 = v := ⟨_, rfl⟩
  obtain ⟨vb, hvb⟩ : ∃ v, Value.slice A2 x.b.length c2 = v := ⟨_, rfl⟩
  obtain ⟨vc, hvc⟩ : ∃ v, Value.slice A3 x.c.length c3 = v := ⟨_, rfl⟩
  obtain ⟨vp, hvp⟩ : ∃ v, Value.slice A4 x.p.length c4 = v := ⟨_, rfl⟩
  rw [hva, hvb, hvc, hvp] at G0
  have EA := Aside0.mk hva
  have EB := Aside0.mk hvb
  have EC := Aside0.mk hvc
  have EP := Aside0.mk hvp
  clear hW3 hb3 hva hvb hvc hvp H
  go_loopw [6] (fun v6 wr => GLoop w lo (w.heap.size + 1 + 1) (w.heap.size + 1) va vb vc vp x v6 wr) (fun v6 _ => 40 - (intOf v6).toNat)
  case atStart => exact ⟨0, va, vb, vc, vp, x, by omega, rfl, rfl, rfl, rfl, rfl, G0.out⟩
  case round =>
    obtain ⟨i, ua, ub, uc, up, y, hi, rfl, l1, l2, l3, l4, hg⟩ := hrel
    obtain ⟨B1, d1, e1⟩ := Kd.R_slice hg.own.a
    obtain ⟨B2, d2, e2⟩ := Kd.R_slice hg.own.b
    obtain ⟨B3, d3, e3⟩ := Kd.R_slice hg.own.c
    obtain ⟨B4, d4, e4⟩ := Kd.R_slice hg.own.p
    subst e1
    subst e2
    subst e3
    subst e4
    have HG := Aside0.mk hg
    obtain ⟨p0, p1, p2, p3, p4, p5, p6⟩ := seven hg.box
    obtain ⟨f0, f1, f2, f3, f4, f5, f6⟩ := sevenF hg.box
    have hbx : w.heap.size ≤ w.heap.size + 1 + 1 := by omega
    have hrs : w.heap.size + 1 ≠ w.heap.size + 1 + 1 := by omega
    have HBX := Aside0.mk hbx
    have HRS := Aside0.mk hrs
    have HLO := Aside0.mk hlo
    have L1 := Aside0.mk l1
    have L2 := Aside0.mk l2
    have L3 := Aside0.mk l3
    have L4 := Aside0.mk l4
    have m1 : y.a.length ≤ 8000000000040 := by omega
    have m2 : y.b.length ≤ 8000000000040 := by omega
    have m3 : y.c.length ≤ 8000000000040 := by omega
    have m4 : y.p.length ≤ 8000000000040 := by omega
    clear hg hbx hrs l1 l2 l3 l4
    by_cases hlt : i < 40
    · go_wp2_with (first
        | (at_builtin; go_loud (refine Kd.R_append k48 lo (by rfl) (.tmp 13) (.tmp 17) 24 48 (.agg #[.int .i64 0, .int .i64 0]) 16 (by rfl) Try.underlying24 info48 rfl (by decide) (by decide) (.slice B1 y.a.length d1) y.a (⟨n, i⟩ : S48) [.int .i64 n, .int .i64 i] (fun _ => True) (fun _ => False) (by rfl) (by rfl) (k48_mkM _ _ _ _) (fun _ hk => hk.elim) (fun _ _ => trivial) (Kd.R_mono HG.out.own.a (fun _ _ => trivial)) (Below.refl _ _) (Nat.le_trans HLO.out HG.out.chg.size) ?al1 ?_); (case al1 => omega); intro v1 w4 hR4 _ hg4 hm4; obtain ⟨ya, hya⟩ : ∃ ya, y.a ++ [(⟨n, i⟩ : S48)] = ya := ⟨_, rfl⟩; rw [hya] at hR4; obtain ⟨E1, g1, hv1⟩ := Kd.R_slice hR4; subst hv1; have G4 := Aside0.mk (HG.out.stepA HBX.out HRS.out hR4 hg4 hm4); have b4 := HG.out.boxAt hg4 (Kd.R_ne HG.out.own.a HG.out.box (by decide)); obtain ⟨q0, q1, q2, q3, q4, q5, q6⟩ := seven b4; obtain ⟨k0, k1, k2, k3, k4, k5, k6⟩ := sevenF b4; have HYA := Aside0.mk hya; clear hya hR4 hg4 hm4 b4)
        | (at_builtin; go_loud (refine Kd.R_append k48 lo (by rfl) (.tmp 21) (.tmp 26) 24 48 (.agg #[.int .i64 0, .int .i64 0]) 16 (by rfl) Try.underlying24 info48 rfl (by decide) (by decide) (.slice B2 y.b.length d2) y.b (⟨n + 1, i⟩ : S48) [.int .i64 (n + 1), .int .i64 i] (fun _ => True) (fun _ => False) (by rfl) ?ah2 (k48_mkM _ _ _ _) (fun _ hk => hk.elim) (fun _ _ => trivial) (Kd.R_mono G4.out.own.b (fun _ _ => trivial)) (Below.refl _ _) (Nat.le_trans HLO.out G4.out.chg.size) ?al2 ?_); (case ah2 => exact congrArg (fun n => Value.slice (some ⟨n, 0, none⟩) 1 1) (by simp)); (case al2 => omega); intro v2 w5 hR5 _ hg5 hm5; obtain ⟨yb, hyb⟩ : ∃ yb, y.b ++ [(⟨n + 1, i⟩ : S48)] = yb := ⟨_, rfl⟩; rw [hyb] at hR5; obtain ⟨E2, g2, hv2⟩ := Kd.R_slice hR5; subst hv2; have G5 := Aside0.mk (G4.out.stepB HBX.out HRS.out hR5 hg5 hm5); have b5 := G4.out.boxAt hg5 (Kd.R_ne G4.out.own.b G4.out.box (by decide)); obtain ⟨r0, r1, r2, r3, r4, r5, r6⟩ := seven b5; obtain ⟨s0, s1, s2, s3, s4, s5, s6⟩ := sevenF b5; have HYB := Aside0.mk hyb; clear hyb hR5 hg5 hm5 b5)
        | (at_builtin; go_loud (refine Kd.R_append k48 lo (by rfl) (.tmp 30) (.tmp 35) 24 48 (.agg #[.int .i64 0, .int .i64 0]) 16 (by rfl) Try.underlying24 info48 rfl (by decide) (by decide) (.slice B3 y.c.length d3) y.c (⟨n + 2, i⟩ : S48) [.int .i64 (n + 2), .int .i64 i] (fun _ => True) (fun _ => False) (by rfl) ?ah3 (k48_mkM _ _ _ _) (fun _ hk => hk.elim) (fun _ _ => trivial) (Kd.R_mono G5.out.own.c (fun _ _ => trivial)) (Below.refl _ _) (Nat.le_trans HLO.out G5.out.chg.size) ?al3 ?_); (case ah3 => exact congrArg (fun n => Value.slice (some ⟨n, 0, none⟩) 1 1) (by simp)); (case al3 => omega); intro v3 w6 hR6 _ hg6 hm6; obtain ⟨yc, hyc⟩ : ∃ yc, y.c ++ [(⟨n + 2, i⟩ : S48)] = yc := ⟨_, rfl⟩; rw [hyc] at hR6; obtain ⟨E3, g3, hv3⟩ := Kd.R_slice hR6; subst hv3; have G6 := Aside0.mk (G5.out.stepC HBX.out HRS.out hR6 hg6 hm6); have b6 := G5.out.boxAt hg6 (Kd.R_ne G5.out.own.c G5.out.box (by decide)); obtain ⟨t0, t1, t2, t3, t4, t5, t6⟩ := seven b6; obtain ⟨x0, x1, x2, x3, x4, x5, x6⟩ := sevenF b6; have HYC := Aside0.mk hyc; clear hyc hR6 hg6 hm6 b6)
        | (at_builtin; go_loud (refine Kd.R_append (Kd.int .i64) lo (by rfl) (.tmp 39) (.tmp 44) 32 3 (.int .i64 0) 8 (by rfl) Try.underlying32 info3 rfl (by decide) (by decide) (.slice B4 y.p.length d4) y.p (n + 3 + i) [.int .i64 (n + 3 + i)] (fun _ => True) (fun _ => False) (by rfl) ?ah4 rfl (fun _ hk => hk.elim) (fun _ _ => trivial) (Kd.R_mono G6.out.own.p (fun _ _ => trivial)) (Below.refl _ _) (Nat.le_trans HLO.out G6.out.chg.size) ?al4 ?_); (case ah4 => exact congrArg (fun n => Value.slice (some ⟨n, 0, none⟩) 1 1) (by simp)); (case al4 => omega); intro v4 w7 hR7 _ hg7 hm7; obtain ⟨yp, hyp⟩ : ∃ yp, y.p ++ [n + 3 + (i : Int)] = yp := ⟨_, rfl⟩; rw [hyp] at hR7; obtain ⟨E4, g4, hv4⟩ := Kd.R_slice hR7; subst hv4; have G7 := Aside0.mk (G6.out.stepP HBX.out HRS.out hR7 hg7 hm7); have b7 := G6.out.boxAt hg7 (Kd.R_ne G6.out.own.p G6.out.box (by decide)); obtain ⟨y0, y1, y2, y3, y4, y5, y6⟩ := seven b7; obtain ⟨z0, z1, z2, z3, z4, z5, z6⟩ := sevenF b7; have HYP := Aside0.mk hyp; clear hyp hR7 hg7 hm7 b7))
      go_roundw
      case rel =>
        refine ⟨i + 1, _, _, _, _, _, by omega, by go_num, ?_, ?_, ?_, ?_, G7.out⟩
        · have := L1.out; simp only [← HYA.out, List.length_append, List.length_singleton]; omega
        · have := L2.out; simp only [← HYB.out, List.length_append, List.length_singleton]; omega
        · have := L3.out; simp only [← HYC.out, List.length_append, List.length_singleton]; omega
        · have := L4.out; simp only [← HYP.out, List.length_append, List.length_singleton]; omega
      case measure => simp [intOf]; omega
    · obtain rfl : i = 40 := by omega
      obtain ⟨q0, q1, q2, q3, q4, q5, q6⟩ := seven HG.out.res
      obtain ⟨k0, k1, k2, k3, k4, k5, k6⟩ := sevenF HG.out.res
      go_wp2_with fail
      refine bodyPost_ret (v := .agg #[.slice B1 y.a.length d1, .slice B2 y.b.length d2, .slice B3 y.c.length d3, .slice B4 y.p.length d4, .int .i64 x.e, .int .i64 x.f, .int .i64 x.h]) (by simp [results, Try.results29, go_sem, *]) rfl ?_
      rw [EA.out, EB.out, EC.out, EP.out]
      have ho := HG.out.own.far HG.out.res (far7 wr (w.heap.size + 1) (.slice B1 y.a.length d1) (.slice B2 y.b.length d2) (.slice B3 y.c.length d3) (.slice B4 y.p.length d4) (.int .i64 x.e) (.int .i64 x.f) (.int .i64 x.h))
      refine ⟨_, _, _, _, ⟨y.a, y.b, y.c, y.p, x.e, x.f, x.h⟩, rfl, ⟨ho.a, ho.b, ho.c, ho.p, ho.ab, ho.ac, ho.bc⟩, ?_, HG.out.new, L1.out, L2.out, L3.out, L4.out⟩
      exact ((((((HG.out.chg.set (Nat.le_succ _) 0 _).set (Nat.le_succ _) 1 _).set (Nat.le_succ _) 2 _).set (Nat.le_succ _) 3 _).set (Nat.le_succ _) 4 _).set (Nat.le_succ _) 5 _).set (Nat.le_succ _) 6 _
end Go.Proofs.Ytammigfckdgljaa.PWitnessSplit
