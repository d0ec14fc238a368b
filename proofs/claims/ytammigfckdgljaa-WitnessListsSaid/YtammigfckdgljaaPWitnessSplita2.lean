import Derived.Test.YtammigfckdgljaaPWitnessSplita1
namespace Go.Proofs.Ytammigfckdgljaa.PWitnessSplit
open Go.RowKit Go.Maps Go.Proofs.YtammigfckdgljaaW.PrintWords Go.Proofs.YtammigfckdgljaaW.PrintLast Go.Proofs.YtammigfckdgljaaW.PrintMore
set_option linter.unusedVariables false
set_option linter.unusedSimpArgs false

/-- only blocks of S are turned -/
structure Chg (w w' : World) (S : Nat → Prop) : Prop where
  os : w'.os = w.os
  tape : w'.tape = w.tape
  output : w'.output = w.output
  size : w.heap.size ≤ w'.heap.size
  block : ∀ i, i < w.heap.size → ¬ S i → w'.heap[i]? = w.heap[i]?
theorem Chg.refl (w : World) (S : Nat → Prop) : Chg w w S := ⟨rfl, rfl, rfl, Nat.le_refl _, fun _ _ _ => rfl⟩
theorem Chg.then_ {w w1 w2 : World} {S S2 : Nat → Prop} (h : Chg w w1 S) (k : Chg w1 w2 S2) (hs : ∀ q, q < w.heap.size → S2 q → S q) : Chg w w2 S :=
  ⟨k.os.trans h.os, k.tape.trans h.tape, k.output.trans h.output, Nat.le_trans h.size k.size, fun i hi hn => (k.block i (Nat.lt_of_lt_of_le hi h.size) (fun hq => hn (hs i hi hq))).trans (h.block i hi hn)⟩
theorem Chg.of_below {w w1 : World} {S : Nat → Prop} (h : Below w.heap.size w w1) : Chg w w1 S := ⟨h.os, h.tape, h.output, h.size, fun i hi _ => h.block i hi⟩
theorem Chg.of_grown {w w1 : World} {S : Nat → Prop} {row : Option Nat} (h : w.grownBy w1 row) (hs : ∀ q, row = some q → S q) : Chg w w1 S := ⟨h.os, h.tape, h.output, h.size, fun i hi hn => h.block i hi (fun he => hn (hs i he.symm))⟩
theorem Chg.R {α : Type} {d : Kd α} {e base : Nat} {ok S : Nat → Prop} {w w1 : World} {v : Value} {xs : List α} (h : Chg w w1 S) (hr : d.R e w base ok v xs) (hn : ∀ k, ok k → ¬ S k) : d.R e w1 base ok v xs := Kd.R_step hr (fun k hk hlt => h.block k hlt (hn k hk))
theorem Chg.blk {S : Nat → Prop} {w w1 : World} {g : Nat} {o : Obj} (h : Chg w w1 S) (hb : w.heap[g]? = some o) (hn : ¬ S g) : w1.heap[g]? = some o := (h.block g (Array.getElem?_eq_some_iff.1 hb).1 hn).trans hb
def OwnOf (v : Value) (q : Nat) : Prop := v.ownBlock = some q
theorem R_own48 {w : World} {lo : Nat} {ok : Nat → Prop} {v : Value} {xs : List S48} (h : Kd.R k48 48 w lo ok v xs) : Kd.R k48 48 w lo (OwnOf v) v xs := Kd.R_mono (Kd.R_tight rfl h) (fun k hk => hk.symm)
theorem R_ownI {w : World} {lo : Nat} {ok : Nat → Prop} {v : Value} {xs : List Int} (h : Kd.R (Kd.int .i64) 3 w lo ok v xs) : Kd.R (Kd.int .i64) 3 w lo (OwnOf v) v xs := Kd.R_mono (Kd.R_tight rfl h) (fun k hk => hk.symm)
/-- four rows of one answer, each in a block of its own -/
structure Own4 (w : World) (lo : Nat) (va vb vc vp : Value) (x : Av) : Prop where
  a : Kd.R k48 48 w lo (OwnOf va) va x.a
  b : Kd.R k48 48 w lo (OwnOf vb) vb x.b
  c : Kd.R k48 48 w lo (OwnOf vc) vc x.c
  p : Kd.R (Kd.int .i64) 3 w lo (OwnOf vp) vp x.p
  ab : Sep va vb
  ac : Sep va vc
  bc : Sep vb vc
theorem Four.own {w : World} {lo : Nat} {va vb vc vp : Value} {x : Av} (h : Four w lo va vb vc vp x) : Own4 w lo va vb vc vp x := ⟨R_own48 h.a, R_own48 h.b, R_own48 h.c, R_ownI h.p, h.ab, h.ac, h.bc⟩
def In4 (va vb vc vp : Value) (q : Nat) : Prop := OwnOf va q ∨ OwnOf vb q ∨ OwnOf vc q ∨ OwnOf vp q
theorem Own4.lo {w : World} {lo : Nat} {va vb vc vp : Value} {x : Av} (h : Own4 w lo va vb vc vp x) (q : Nat) (hq : In4 va vb vc vp q) : lo ≤ q ∧ q < w.heap.size := by
  rcases hq with hq | hq | hq | hq
  · exact ⟨Kd.R_base h.a q hq, Kd.R_lt h.a q hq⟩
  · exact ⟨Kd.R_base h.b q hq, Kd.R_lt h.b q hq⟩
  · exact ⟨Kd.R_base h.c q hq, Kd.R_lt h.c q hq⟩
  · exact ⟨Kd.R_base h.p q hq, Kd.R_lt h.p q hq⟩
theorem Own4.kept {w w1 : World} {lo : Nat} {va vb vc vp : Value} {x : Av} {S : Nat → Prop} (h : Own4 w lo va vb vc vp x) (hc : Chg w w1 S) (hn : ∀ q, In4 va vb vc vp q → ¬ S q) : Own4 w1 lo va vb vc vp x :=
  ⟨hc.R h.a (fun k hk => hn k (.inl hk)), hc.R h.b (fun k hk => hn k (.inr (.inl hk))), hc.R h.c (fun k hk => hn k (.inr (.inr (.inl hk)))), hc.R h.p (fun k hk => hn k (.inr (.inr (.inr hk)))), h.ab, h.ac, h.bc⟩
/-- the row of a number row is no event row -/
theorem Own4.pNe {w : World} {lo : Nat} {va vb vc vp : Value} {x : Av} (h : Own4 w lo va vb vc vp x) {v : Value} {xs : List S48} {lo' : Nat} {ok : Nat → Prop} (hv : Kd.R k48 48 w lo' ok v xs) : ∀ k, v.ownBlock = some k → vp.ownBlock ≠ some k := fun k hk he => by
  obtain ⟨c1, h1⟩ := Kd.R_typed hv k hk
  obtain ⟨c2, h2⟩ := Kd.R_typed h.p k he
  rw [h1] at h2
  injection h2 with h2
  injection h2 with _ h2
  cases h2
def Alike (x y : Av) : Prop := x.a.length = y.a.length ∧ x.b.length = y.b.length ∧ x.c.length = y.c.length ∧ x.p.length = y.p.length ∧ x.e = y.e ∧ x.f = y.f ∧ x.h = y.h
theorem Alike.trans {x y z : Av} (h : Alike x y) (k : Alike y z) : Alike x z := ⟨h.1.trans k.1, h.2.1.trans k.2.1, h.2.2.1.trans k.2.2.1, h.2.2.2.1.trans k.2.2.2.1, h.2.2.2.2.1.trans k.2.2.2.2.1, h.2.2.2.2.2.1.trans k.2.2.2.2.2.1, h.2.2.2.2.2.2.trans k.2.2.2.2.2.2⟩
theorem Alike.refl (x : Av) : Alike x x := ⟨rfl, rfl, rfl, rfl, rfl, rfl, rfl⟩
theorem info48s : (Try.prog.info? 48).map (·.size) = some 2 := by kernel_rfl
theorem info3s : (Try.prog.info? 3).map (·.size) = some 1 := by kernel_rfl
/-- the row that the header's k-th cell holds, and what the whole is when this row alone is turned -/
theorem pick3 {w : World} {lo : Nat} {va vb vc vp : Value} {x : Av} (h : Own4 w lo va vb vc vp x) (k : Nat) (hk : k < 3) : ∃ v xs, #[va, vb, vc][k]? = some v ∧ Kd.R k48 48 w lo (OwnOf v) v xs ∧ (∀ q, OwnOf v q → In4 va vb vc vp q) ∧ (xs.length = x.a.length ∨ xs.length = x.b.length ∨ xs.length = x.c.length) ∧
    ∀ w' ys, ys.length = xs.length → Kd.R k48 48 w' lo (OwnOf v) v ys → Chg w w' (OwnOf v) → ∃ y, Own4 w' lo va vb vc vp y ∧ Alike y x := by
  have hpa := h.pNe h.a
  have hpb := h.pNe h.b
  have hpc := h.pNe h.c
  rcases (show k = 0 ∨ k = 1 ∨ k = 2 by omega) with rfl | rfl | rfl
  · refine ⟨va, x.a, rfl, h.a, fun q hq => .inl hq, .inl rfl, fun w' ys hl hr hc => ⟨⟨ys, x.b, x.c, x.p, x.e, x.f, x.h⟩, ⟨hr, hc.R h.b (fun q hq he => h.ab q he hq), hc.R h.c (fun q hq he => h.ac q he hq), hc.R h.p (fun q hq he => hpa q he hq), h.ab, h.ac, h.bc⟩, ⟨hl, rfl, rfl, rfl, rfl, rfl, rfl⟩⟩⟩
  · refine ⟨vb, x.b, rfl, h.b, fun q hq => .inr (.inl hq), .inr (.inl rfl), fun w' ys hl hr hc => ⟨⟨x.a, ys, x.c, x.p, x.e, x.f, x.h⟩, ⟨hc.R h.a (fun q hq he => h.ab q hq he), hr, hc.R h.c (fun q hq he => h.bc q he hq), hc.R h.p (fun q hq he => hpb q he hq), h.ab, h.ac, h.bc⟩, ⟨rfl, hl, rfl, rfl, rfl, rfl, rfl⟩⟩⟩
  · refine ⟨vc, x.c, rfl, h.c, fun q hq => .inr (.inr (.inl hq)), .inr (.inr rfl), fun w' ys hl hr hc => ⟨⟨x.a, x.b, ys, x.p, x.e, x.f, x.h⟩, ⟨hc.R h.a (fun q hq he => h.ac q hq he), hc.R h.b (fun q hq he => h.bc q hq he), hr, hc.R h.p (fun q hq he => hpc q he hq), h.ab, h.ac, h.bc⟩, ⟨rfl, rfl, hl, rfl, rfl, rfl, rfl⟩⟩⟩
/-- element i of an own row of events is written -/
theorem put48 {W : World} {lo g n cap : Nat} {xs : List S48} (h : Kd.R k48 48 W lo (OwnOf (.slice (some ⟨g, 0, none⟩) n cap)) (.slice (some ⟨g, 0, none⟩) n cap) xs) (i : Nat) (hi : i < n) (u v : Int) :
    (∃ a b, W.cell? ⟨g, i * 2, none⟩ = some a ∧ W.cell? ⟨g, i * 2 + 1, none⟩ = some b) ∧ W.frozen? ⟨g, i * 2, none⟩ = false ∧ W.frozen? ⟨g, i * 2 + 1, none⟩ = false ∧
      Kd.R k48 48 ((W.setCell ⟨g, i * 2, none⟩ (.int .i64 u)).setCell ⟨g, i * 2 + 1, none⟩ (.int .i64 v)) lo (OwnOf (.slice (some ⟨g, 0, none⟩) n cap)) (.slice (some ⟨g, 0, none⟩) n cap) (xs.set i ⟨u, v⟩) ∧ W.grownBy ((W.setCell ⟨g, i * 2, none⟩ (.int .i64 u)).setCell ⟨g, i * 2 + 1, none⟩ (.int .i64 v)) (some g) := by
  obtain ⟨cs, hcl, hM, hcc, hfz⟩ := Kd.R_elem h z48 (i : Int) (by omega) (by omega)
  obtain ⟨a, b, rfl⟩ : ∃ a b, cs = [a, b] := by
    have hcl2 : cs.length = 2 := hcl
    match cs, hcl2 with
    | [a, b], _ => exact ⟨a, b, rfl⟩
  have := Kd.R_seg h (i : Int) (by omega) (by omega) (seg := [Value.int .i64 u, Value.int .i64 v]) (j := 0) (x' := (⟨u, v⟩ : S48)) (okp := fun _ => False) hcl hcc (by exact Nat.le_refl 2) (k48_mkM _ _ _ (⟨u, v⟩ : S48)) (fun _ hq => hq.elim)
  exact ⟨⟨a, b, hcc 0 a rfl, hcc 1 b rfl⟩, hfz 0, hfz 1, this.1, this.2⟩
theorem putI {W : World} {lo g n cap : Nat} {xs : List Int} (h : Kd.R (Kd.int .i64) 3 W lo (OwnOf (.slice (some ⟨g, 0, none⟩) n cap)) (.slice (some ⟨g, 0, none⟩) n cap) xs) (i : Nat) (hi : i < n) (u : Int) :
    (∃ a, W.cell? ⟨g, i, none⟩ = some a) ∧ W.frozen? ⟨g, i, none⟩ = false ∧ Kd.R (Kd.int .i64) 3 (W.setCell ⟨g, i, none⟩ (.int .i64 u)) lo (OwnOf (.slice (some ⟨g, 0, none⟩) n cap)) (.slice (some ⟨g, 0, none⟩) n cap) (xs.set i u) ∧ W.grownBy (W.setCell ⟨g, i, none⟩ (.int .i64 u)) (some g) := by
  obtain ⟨cs, hcl, hM, hcc, hfz⟩ := Kd.R_elem h (0 : Int) (i : Int) (by omega) (by omega)
  obtain ⟨a, rfl⟩ : ∃ a, cs = [a] := by
    have hcl2 : cs.length = 1 := hcl
    match cs, hcl2 with
    | [a], _ => exact ⟨a, rfl⟩
  have e : (i : Int).toNat * (Kd.int .i64).sz + 0 = i := by show i * 1 + 0 = i; omega
  have := Kd.R_seg h (i : Int) (by omega) (by omega) (seg := [Value.int .i64 u]) (j := 0) (x' := u) (okp := fun _ => False) hcl hcc (by exact Nat.le_refl 1) rfl (fun _ hq => hq.elim)
  have h0 := hcc 0 a rfl
  have h1 := hfz 0
  rw [e] at this h0 h1
  exact ⟨⟨a, h0⟩, h1, this.1, this.2⟩
/-- the loops' relations -/
def WOut (w : World) (lo : Nat) (va vb vc vp : Value) (x : Av) (v5 : Value) (wr : World) : Prop :=
  ∃ (k : Nat) (y : Av), k ≤ 3 ∧ v5 = .int .i64 k ∧ Own4 wr lo va vb vc vp y ∧ Alike y x ∧ Chg w wr (In4 va vb vc vp)
def WIn (w : World) (lo : Nat) (v : Value) (m : Nat) (v6 : Value) (wr : World) : Prop :=
  ∃ (i : Nat) (ys : List S48), i ≤ m ∧ v6 = .int .i64 i ∧ ys.length = m ∧ Kd.R k48 48 wr lo (OwnOf v) v ys ∧ Chg w wr (OwnOf v)
def WP (w : World) (lo : Nat) (v : Value) (m : Nat) (v7 : Value) (wr : World) : Prop :=
  ∃ (i : Nat) (ys : List Int), i ≤ m ∧ v7 = .int .i64 i ∧ ys.length = m ∧ Kd.R (Kd.int .i64) 3 wr lo (OwnOf v) v ys ∧ Chg w wr (OwnOf v)
def WritePost (w : World) (lo : Nat) (va vb vc vp : Value) (x : Av) (e : Ending) (w' : World) : Prop := e = .returned (.tuple #[]) ∧ ∃ y, Own4 w' lo va vb vc vp y ∧ Alike y x ∧ Chg w w' (In4 va vb vc vp)
set_option maxHeartbeats 4000000 in
set_option maxRecDepth 100000 in
theorem writes_calls (va vb vc vp : Value) (x : Av) (n : Int) (lo : Nat) (w : World) (h : Own4 w lo va vb vc vp x) (hn0 : 0 ≤ n) (hn : n ≤ 10000) (h1 : x.a.length ≤ 8000000000000) (h2 : x.b.length ≤ 8000000000000) (h3 : x.c.length ≤ 8000000000000) (h4 : x.p.length ≤ 8000000000000) :
    Calls Try.prog 28 #[aV va vb vc vp x, .int .i64 n] w (WritePost w lo va vb vc vp x) := by
  obtain ⟨A1, c1, hv1⟩ := Kd.R_slice h.a
  obtain ⟨A2, c2, hv2⟩ := Kd.R_slice h.b
  obtain ⟨A3, c3, hv3⟩ := Kd.R_slice h.c
  obtain ⟨A4, c4, hv4⟩ := Kd.R_slice h.p
  have HV1 := Aside0.mk hv1
  have HV2 := Aside0.mk hv2
  have HV3 := Aside0.mk hv3
  have HV4 := Aside0.mk hv4
  have H := Aside0.mk h
  unfold aV
  subst hv1
  subst hv2
  subst hv3
  subst hv4
  clear h
  go_enter Try.func28, Try.ntmps28
  go_wp2_with fail
  obtain ⟨va, hva⟩ : ∃ v, Value.slice A1 x.a.length c1 = v := ⟨_, rfl⟩
  obtain ⟨vb, hvb⟩ : ∃ v, Value.slice A2 x.b.length c2 = v := ⟨_, rfl⟩
  obtain ⟨vc, hvc⟩ : ∃ v, Value.slice A3 x.c.length c3 = v := ⟨_, rfl⟩
  rw [hva, hvb, hvc] at H ⊢
  obtain ⟨W2, hW2⟩ : ∃ W2 : World, W2 = ((w.alloc (Obj.cells #[va, vb, vc, .slice A4 x.p.length c4, .int .i64 x.e, .int .i64 x.f, .int .i64 x.h] 52)).alloc (Obj.cells #[va, vb, vc] 24)) := ⟨_, rfl⟩
  rw [← hW2]
  have hb2 : Below w.heap.size w W2 := by rw [hW2]; exact below_alloc (below_alloc (Below.refl _ _) _) _
  have K1 : Aside0 (W2.heap[w.heap.size]? = some (.cells #[va, vb, vc, .slice A4 x.p.length c4, .int .i64 x.e, .int .i64 x.f, .int .i64 x.h] 52 (0, 0))) := ⟨by rw [hW2]; exact blk_alloc (Go.heap_alloc_new w _) _⟩
  have K2 : Aside0 (W2.heap[w.heap.size + 1]? = some (.cells #[va, vb, vc] 24 (0, 0))) := ⟨by
    rw [hW2]
    have := Go.heap_alloc_new (w.alloc (Obj.cells #[va, vb, vc, .slice A4 x.p.length c4, .int .i64 x.e, .int .i64 x.f, .int .i64 x.h] 52)) (Obj.cells #[va, vb, vc] 24)
    simpa using this⟩
  have N1 : Aside0 (¬ In4 va vb vc (.slice A4 x.p.length c4) w.heap.size) := ⟨fun hq => by have := (H.out.lo _ hq).2; omega⟩
  have N2 : Aside0 (¬ In4 va vb vc (.slice A4 x.p.length c4) (w.heap.size + 1)) := ⟨fun hq => by have := (H.out.lo _ hq).2; omega⟩
  have H2 := Aside0.mk (H.out.kept (S := fun _ => False) (Chg.of_below hb2) (fun _ _ hq => hq))
  have HB2 := Aside0.mk hb2
  have EA := Aside0.mk hva
  have EB := Aside0.mk hvb
  have EC := Aside0.mk hvc
  clear hW2 hb2 hva hvb hvc
  go_loopw [5] (fun v5 wr => WOut W2 lo va vb vc (.slice A4 x.p.length c4) x v5 wr) (fun v5 _ => 3 - (intOf v5).toNat)
  case atStart => exact ⟨0, x, by omega, rfl, H2.out, Alike.refl x, Chg.refl _ _⟩
  case round =>
    obtain ⟨k, y, hk, rfl, hy, hal, hc⟩ := hrel
    have HY := Aside0.mk hy
    have HAL := Aside0.mk hal
    have HC := Aside0.mk hc
    clear hy hal hc
    obtain ⟨wo, hwo⟩ : ∃ wo : World, wo = wr := ⟨_, rfl⟩
    subst hwo
    by_cases hk3 : k < 3
    · obtain ⟨v, xs, hv, hrx, hin, hlx, hup⟩ := pick3 HY.out k hk3
      have hxs : xs.length ≤ 8000000000000 := by have h1 := HAL.out.1; have h2 := HAL.out.2.1; have h3 := HAL.out.2.2.1; omega
      have hcell : wo.cell? ⟨w.heap.size + 1, k, none⟩ = some v := (blk_cell (HC.out.blk K2.out N2.out) k).trans hv
      have HUP := Aside0.mk hup
      have HIN := Aside0.mk hin
      have HRX := Aside0.mk hrx
      have HV := Aside0.mk hv
      obtain ⟨Av, cv, hvv⟩ := Kd.R_slice hrx
      clear hup hin hrx hv hlx
      subst hvv
      have hk0 : (0 : Int) ≤ (k : Int) := by omega
      have hk33 : (k : Int) < 3 := by omega
      go_wp2_with fail
      go_loopw [6] (fun v6 wr => WIn wo lo (.slice Av xs.length cv) xs.length v6 wr) (fun v6 _ => xs.length - (intOf v6).toNat)
      case atStart => exact ⟨0, xs, Nat.zero_le _, rfl, rfl, HRX.out, Chg.refl _ _⟩
      case round =>
        obtain ⟨i, ys, hi, rfl, hyl, hry, hcy⟩ := hrel
        have HRY := Aside0.mk hry
        have HCY := Aside0.mk hcy
        have hcell2 : wr.cell? ⟨w.heap.size + 1, k, none⟩ = some (.slice Av xs.length cv) := (blk_cell (HCY.out.blk (HC.out.blk K2.out N2.out) (fun hq => N2.out (HIN.out _ hq))) k).trans HV.out
        clear hry hcy hcell
        by_cases hlt : i < xs.length
        · obtain ⟨g, cap, hgv, _, _, _⟩ := Kd.R_form HRY.out (by omega)
          injection hgv with e1 e2 e3
          subst e1
          subst e3
          clear e2
          obtain ⟨⟨u0, u1, z0, z1⟩, f0, f1, hR3, hg3⟩ := put48 HRY.out i hlt (n + k) i
          have HR3 := Aside0.mk hR3
          have HG3 := Aside0.mk hg3
          clear hR3 hg3
          have hi0 : (0 : Int) ≤ (i : Int) := by omega
          have hilt : (i : Int) < (xs.length : Int) := by omega
          go_wp2_with fail
          go_roundw
          case rel => exact ⟨i + 1, ys.set i ⟨n + k, i⟩, by omega, by go_num, by rw [List.length_set]; exact hyl, HR3.out, HCY.out.then_ (Chg.of_grown HG3.out (fun q hq => by injection hq with hq; subst hq; rfl)) (fun q _ hq => hq)⟩
          case measure => simp [intOf]; omega
        · obtain rfl : i = xs.length := by omega
          go_wp2_with fail
          go_roundw
          case rel =>
            obtain ⟨y', hy', hal'⟩ := HUP.out wr ys hyl HRY.out HCY.out
            exact ⟨k + 1, y', by omega, by go_num, hy', hal'.trans HAL.out, HC.out.then_ HCY.out (fun q _ hq => HIN.out q hq)⟩
          case measure => simp [intOf]; omega
    · obtain rfl : k = 3 := by omega
      have hpl : y.p.length = x.p.length := HAL.out.2.2.2.1
      have hp3 : wo.cell? ⟨w.heap.size, 3, none⟩ = some (.slice A4 x.p.length c4) := blk_cell (HC.out.blk K1.out N1.out) 3
      go_wp2_with fail
      go_loopw [7] (fun v7 wr => WP wo lo (.slice A4 x.p.length c4) x.p.length v7 wr) (fun v7 _ => x.p.length - (intOf v7).toNat)
      case atStart => exact ⟨0, y.p, Nat.zero_le _, rfl, hpl, HY.out.p, Chg.refl _ _⟩
      case round =>
        obtain ⟨i, ys, hi, rfl, hyl, hry, hcy⟩ := hrel
        have HRY := Aside0.mk hry
        have HCY := Aside0.mk hcy
        have hp4 : wr.cell? ⟨w.heap.size, 3, none⟩ = some (.slice A4 x.p.length c4) := blk_cell (HCY.out.blk (HC.out.blk K1.out N1.out) (fun hq => N1.out (.inr (.inr (.inr hq))))) 3
        clear hry hcy hp3
        by_cases hlt : i < x.p.length
        · obtain ⟨g, cap, hgv, _, _, _⟩ := Kd.R_form HRY.out (by omega)
          injection hgv with e1 e2 e3
          subst e1
          subst e3
          clear e2
          obtain ⟨⟨u0, z0⟩, f0, hR3, hg3⟩ := putI HRY.out i hlt (n + 10 + i)
          have HR3 := Aside0.mk hR3
          have HG3 := Aside0.mk hg3
          clear hR3 hg3
          have hi0 : (0 : Int) ≤ (i : Int) := by omega
          have hilt : (i : Int) < (x.p.length : Int) := by omega
          go_wp2_with fail
          go_roundw
          case rel => exact ⟨i + 1, ys.set i (n + 10 + i), by omega, by go_num, by rw [List.length_set]; exact hyl, HR3.out, HCY.out.then_ (Chg.of_grown HG3.out (fun q hq => by injection hq with hq; subst hq; rfl)) (fun q _ hq => hq)⟩
          case measure => simp [intOf]; omega
        · obtain rfl : i = x.p.length := by omega
          go_wp2_with fail
          refine ⟨rfl, .tuple #[], by simp [results, Try.results28, go_sem], ?_⟩
          rw [EA.out, EB.out, EC.out]
          refine ⟨rfl, ⟨y.a, y.b, y.c, ys, y.e, y.f, y.h⟩, ⟨HCY.out.R HY.out.a (fun q hq he => HY.out.pNe HY.out.a q hq he), HCY.out.R HY.out.b (fun q hq he => HY.out.pNe HY.out.b q hq he), HCY.out.R HY.out.c (fun q hq he => HY.out.pNe HY.out.c q hq he), HRY.out, HY.out.ab, HY.out.ac, HY.out.bc⟩, ⟨HAL.out.1, HAL.out.2.1, HAL.out.2.2.1, hyl, HAL.out.2.2.2.2.1, HAL.out.2.2.2.2.2.1, HAL.out.2.2.2.2.2.2⟩, ?_⟩
          exact (Chg.of_below HB2.out).then_ (HC.out.then_ HCY.out (fun q _ hq => .inr (.inr (.inr hq)))) (fun q _ hq => hq)
end Go.Proofs.Ytammigfckdgljaa.PWitnessSplit
