import Derived.Test.YtammigfckdgljaaPWitnessSplitq7
namespace Go.Proofs.Ytammigfckdgljaa.PWitnessSplit
open Go.RowKit Go.Proofs.YtammigfckdgljaaW.PrintWords Go.Proofs.YtammigfckdgljaaW.PrintLast Go.Proofs.YtammigfckdgljaaW.PrintMore
attribute [local go_sem] max2_int min2_int max_two min_two max_three min_three max_four min_four
set_option linter.unusedVariables false
set_option linter.unusedSimpArgs false

/-! ### eddyref18_Path: function 17 -/
mutual
def eddyref18_Path.l0 : Nat → List (S46) → Int → Int → List Int → Int → Int → Int → Option (List Int × Int)
  | 0, _, _, _, _, _, _, _ => none
  | k + 1, x0, x8, x9, x10, x13, x14, x15 => if x15 < x9 then (if 0 ≤ x15 then (if x15 < (x0.length : Int) then (if ((rd_T46 x0 x15).f0) = 1 then (eddyref18_Path.l0 k x0 x8 x9 x10 (wrap64 (x13 + 1)) x14 (wrap64 (x15 + 1))) else (eddyref18_Path.l0 k x0 x8 x9 x10 x13 x14 (wrap64 (x15 + 1)))) else (none)) else (none)) else (if x13 > 2000 then (some (([] : List Int), 182)) else (eddyref18_Path.l1 k x0 x9 x10 ([] : List Int) 0 x14 x8))
def eddyref18_Path.l1 : Nat → List (S46) → Int → List Int → List Int → Int → Int → Int → Option (List Int × Int)
  | 0, _, _, _, _, _, _, _ => none
  | k + 1, x0, x9, x10, x12, x13, x14, x16 => if x16 < x9 then (if 0 ≤ x16 then (if x16 < (x0.length : Int) then (if ((rd_T46 x0 x16).f0) = 1 then (if 0 ≤ ((rd_T46 x0 x16).f1) then (if ((rd_T46 x0 x16).f1) < (x10.length : Int) then (if x16 < (rd x10 ((rd_T46 x0 x16).f1)) then (eddyref18_Path.l2 k x0 x9 x10 x12 x13 x14 x16 (wrap64 (x13 - 1))) else (eddyref18_Path.l1 k x0 x9 x10 x12 (wrap64 (x13 + 1)) x14 (wrap64 (x16 + 1)))) else (none)) else (none)) else (eddyref18_Path.l1 k x0 x9 x10 x12 x13 x14 (wrap64 (x16 + 1)))) else (none)) else (none)) else (some (x12, 0))
def eddyref18_Path.l2 : Nat → List (S46) → Int → List Int → List Int → Int → Int → Int → Int → Option (List Int × Int)
  | 0, _, _, _, _, _, _, _, _ => none
  | k + 1, x0, x9, x10, x12, x13, x14, x16, x17 => if x17 ≥ x14 then (if x12.length < 17592186044416 then (eddyref18_Path.l2 k x0 x9 x10 (x12 ++ [x17]) x13 x14 x16 (wrap64 (x17 - 1))) else (none)) else (eddyref18_Path.l1 k x0 x9 x10 x12 (wrap64 (x13 + 1)) (wrap64 (x14 + 1)) (wrap64 (x16 + 1)))
end
def eddyref18_Path.f (k : Nat) (l0 : List (S46)) (a1 : Int) (a2 : Int) : Option (List Int × Int) := (eddyref18_Can.f k l0 a2).bind fun t148 => (if t148 = true then ((eddyref18_lifeOf.f k l0 (l0.length : Int) a1).bind fun bt149 => (if bt149.1 < 0 then (some (([] : List Int), 180)) else ((eddyref18_copies.f k l0 bt149.1 bt149.2 a1 a2).bind fun bt151 => (if bt151.2 = true then (eddyref18_Path.l0 k l0 bt149.1 bt149.2 bt151.1 0 0 bt149.1) else (some (([] : List Int), 181)))))) else (some (([] : List Int), 181)))
theorem eddyref18_Path.mono_l : ∀ k, (∀ y0 y1 y2 y3 y4 y5 y6, LeO (eddyref18_Path.l0 k y0 y1 y2 y3 y4 y5 y6) (eddyref18_Path.l0 (k + 1) y0 y1 y2 y3 y4 y5 y6)) ∧ (∀ y0 y1 y2 y3 y4 y5 y6, LeO (eddyref18_Path.l1 k y0 y1 y2 y3 y4 y5 y6) (eddyref18_Path.l1 (k + 1) y0 y1 y2 y3 y4 y5 y6)) ∧ (∀ y0 y1 y2 y3 y4 y5 y6 y7, LeO (eddyref18_Path.l2 k y0 y1 y2 y3 y4 y5 y6 y7) (eddyref18_Path.l2 (k + 1) y0 y1 y2 y3 y4 y5 y6 y7))
  | 0 => ⟨fun _ _ _ _ _ _ _ r h => by simp [eddyref18_Path.l0] at h, fun _ _ _ _ _ _ _ r h => by simp [eddyref18_Path.l1] at h, fun _ _ _ _ _ _ _ _ r h => by simp [eddyref18_Path.l2] at h⟩
  | k + 1 => by
    obtain ⟨ih0, ih1, ih2⟩ := eddyref18_Path.mono_l k
    refine ⟨?_, ?_, ?_⟩
    · intro y0 y1 y2 y3 y4 y5 y6
      unfold eddyref18_Path.l0
      repeat' first
      | (with_reducible exact ih0 _ _ _ _ _ _ _)
      | (with_reducible exact ih1 _ _ _ _ _ _ _)
      | (with_reducible exact ih2 _ _ _ _ _ _ _ _)
      | (with_reducible exact eddyref18_Can.mono _ _ _)
      | (with_reducible exact eddyref18_copies.mono _ _ _ _ _ _)
      | (with_reducible exact eddyref18_lifeOf.mono _ _ _ _)
      | (with_reducible exact LeO.refl _)
      | (with_reducible exact LeO.none _)
      | (with_reducible refine LeO.ite ?_ ?_)
      | (with_reducible refine LeO.bind ?_ (fun _ => ?_))
      | exact ih0 _ _ _ _ _ _ _
      | exact ih1 _ _ _ _ _ _ _
      | exact ih2 _ _ _ _ _ _ _ _
      | exact eddyref18_Can.mono _ _ _
      | exact eddyref18_copies.mono _ _ _ _ _ _
      | exact eddyref18_lifeOf.mono _ _ _ _
      | exact LeO.none _
      | refine LeO.ite ?_ ?_
      | refine LeO.bind ?_ (fun _ => ?_)
    · intro y0 y1 y2 y3 y4 y5 y6
      unfold eddyref18_Path.l1
      repeat' first
      | (with_reducible exact ih0 _ _ _ _ _ _ _)
      | (with_reducible exact ih1 _ _ _ _ _ _ _)
      | (with_reducible exact ih2 _ _ _ _ _ _ _ _)
      | (with_reducible exact eddyref18_Can.mono _ _ _)
      | (with_reducible exact eddyref18_copies.mono _ _ _ _ _ _)
      | (with_reducible exact eddyref18_lifeOf.mono _ _ _ _)
      | (with_reducible exact LeO.refl _)
      | (with_reducible exact LeO.none _)
      | (with_reducible refine LeO.ite ?_ ?_)
      | (with_reducible refine LeO.bind ?_ (fun _ => ?_))
      | exact ih0 _ _ _ _ _ _ _
      | exact ih1 _ _ _ _ _ _ _
      | exact ih2 _ _ _ _ _ _ _ _
      | exact eddyref18_Can.mono _ _ _
      | exact eddyref18_copies.mono _ _ _ _ _ _
      | exact eddyref18_lifeOf.mono _ _ _ _
      | exact LeO.none _
      | refine LeO.ite ?_ ?_
      | refine LeO.bind ?_ (fun _ => ?_)
    · intro y0 y1 y2 y3 y4 y5 y6 y7
      unfold eddyref18_Path.l2
      repeat' first
      | (with_reducible exact ih0 _ _ _ _ _ _ _)
      | (with_reducible exact ih1 _ _ _ _ _ _ _)
      | (with_reducible exact ih2 _ _ _ _ _ _ _ _)
      | (with_reducible exact eddyref18_Can.mono _ _ _)
      | (with_reducible exact eddyref18_copies.mono _ _ _ _ _ _)
      | (with_reducible exact eddyref18_lifeOf.mono _ _ _ _)
      | (with_reducible exact LeO.refl _)
      | (with_reducible exact LeO.none _)
      | (with_reducible refine LeO.ite ?_ ?_)
      | (with_reducible refine LeO.bind ?_ (fun _ => ?_))
      | exact ih0 _ _ _ _ _ _ _
      | exact ih1 _ _ _ _ _ _ _
      | exact ih2 _ _ _ _ _ _ _ _
      | exact eddyref18_Can.mono _ _ _
      | exact eddyref18_copies.mono _ _ _ _ _ _
      | exact eddyref18_lifeOf.mono _ _ _ _
      | exact LeO.none _
      | refine LeO.ite ?_ ?_
      | refine LeO.bind ?_ (fun _ => ?_)
theorem eddyref18_Path.mono : ∀ a0 a1 a2 k, LeO (eddyref18_Path.f k a0 a1 a2) (eddyref18_Path.f (k + 1) a0 a1 a2) := by
  intro a0 a1 a2 k
  obtain ⟨ih0, ih1, ih2⟩ := eddyref18_Path.mono_l k
  unfold eddyref18_Path.f
  repeat' first
      | (with_reducible exact ih0 _ _ _ _ _ _ _)
      | (with_reducible exact ih1 _ _ _ _ _ _ _)
      | (with_reducible exact ih2 _ _ _ _ _ _ _ _)
      | (with_reducible exact eddyref18_Can.mono _ _ _)
      | (with_reducible exact eddyref18_copies.mono _ _ _ _ _ _)
      | (with_reducible exact eddyref18_lifeOf.mono _ _ _ _)
      | (with_reducible exact LeO.refl _)
      | (with_reducible exact LeO.none _)
      | (with_reducible refine LeO.ite ?_ ?_)
      | (with_reducible refine LeO.bind ?_ (fun _ => ?_))
      | exact ih0 _ _ _ _ _ _ _
      | exact ih1 _ _ _ _ _ _ _
      | exact ih2 _ _ _ _ _ _ _ _
      | exact eddyref18_Can.mono _ _ _
      | exact eddyref18_copies.mono _ _ _ _ _ _
      | exact eddyref18_lifeOf.mono _ _ _ _
      | exact LeO.none _
      | refine LeO.ite ?_ ?_
      | refine LeO.bind ?_ (fun _ => ?_)
set_option maxHeartbeats 8000000 in
set_option maxRecDepth 100000 in
theorem eddyref18_Path.calls (k : Nat) (A0 : Option Addr) (c0 : Nat) (l0 : List (S46)) (a1 : Int) (a2 : Int) (r1 : List Int) (r2 : Int) (w : World) (hr0 : Kd.C k46 w A0 l0.length l0) (hc0 : l0.length ≤ c0) (h : eddyref18_Path.f k l0 a1 a2 = some (r1, r2)) :
    Calls Try.prog 17 #[.slice A0 l0.length c0, .int .i64 a1, .int .i64 a2] w fun e w' => ∃ v0_ : Value, e = .returned (.tuple #[v0_, .int .i64 r2]) ∧ Kd.R (Kd.int .i64) 3 w' w.heap.size (fun _ => True) v0_ r1 ∧ Below w.heap.size w w' := by
  have HR0 := Aside0.mk hr0
  have HC0 := Aside0.mk hc0
  clear hr0 hc0
  have HB := Aside0.mk (Below.refl w.heap.size w)
  have H : ((eddyref18_Can.f k l0 a2).bind fun t148 => (if t148 = true then ((eddyref18_lifeOf.f k l0 (l0.length : Int) a1).bind fun bt149 => (if bt149.1 < 0 then (some (([] : List Int), 180)) else ((eddyref18_copies.f k l0 bt149.1 bt149.2 a1 a2).bind fun bt151 => (if bt151.2 = true then (eddyref18_Path.l0 k l0 bt149.1 bt149.2 bt151.1 0 0 bt149.1) else (some (([] : List Int), 181)))))) else (some (([] : List Int), 181)))) = some (r1, r2) := h
  clear h
  replace H := Option.bind_eq_some_iff.mp H
  obtain ⟨t148, A40, H⟩ := H
  replace H : (if t148 = true then ((eddyref18_lifeOf.f k l0 (l0.length : Int) a1).bind fun bt149 => (if bt149.1 < 0 then (some (([] : List Int), 180)) else ((eddyref18_copies.f k l0 bt149.1 bt149.2 a1 a2).bind fun bt151 => (if bt151.2 = true then (eddyref18_Path.l0 k l0 bt149.1 bt149.2 bt151.1 0 0 bt149.1) else (some (([] : List Int), 181)))))) else (some (([] : List Int), 181))) = some (r1, r2) := H
  have A4 := Aside0.mk A40
  clear A40
  by_cases c5 : t148 = true
  · subst c5
    have H1 : ((eddyref18_lifeOf.f k l0 (l0.length : Int) a1).bind fun bt149 => (if bt149.1 < 0 then (some (([] : List Int), 180)) else ((eddyref18_copies.f k l0 bt149.1 bt149.2 a1 a2).bind fun bt151 => (if bt151.2 = true then (eddyref18_Path.l0 k l0 bt149.1 bt149.2 bt151.1 0 0 bt149.1) else (some (([] : List Int), 181)))))) = some (r1, r2) := by rw [if_pos rfl] at H; exact H
    clear H
    have H := H1
    clear H1
    replace H := Option.bind_eq_some_iff.mp H
    obtain ⟨⟨t149, t150⟩, A60, H⟩ := H
    replace H : (if t149 < 0 then (some (([] : List Int), 180)) else ((eddyref18_copies.f k l0 t149 t150 a1 a2).bind fun bt151 => (if bt151.2 = true then (eddyref18_Path.l0 k l0 t149 t150 bt151.1 0 0 t149) else (some (([] : List Int), 181))))) = some (r1, r2) := H
    have A6 := Aside0.mk A60
    clear A60
    by_cases c7 : t149 < 0
    · rw [if_pos c7] at H
      have c7b0 : decide (t149 < 0) = true := decide_eq_true c7
      clear c7
      simp only [Option.some.injEq, Prod.mk.injEq] at H
      obtain ⟨rfl, rfl⟩ := H
      go_enter Try.func17, Try.ntmps17
      go_wp2_with (first | ((with_reducible refine gate_callee (f := 32) rfl ?_); refine goesL_ (some 20) rfl rfl Try.func32 (by kernel_rfl) rfl #[.slice A0 l0.length c0, .int .i64 a2] rfl (by (try simp only [List.map_toArray, List.map_cons, List.map_nil]); first | done | rfl | (simp only [List.length_drop, List.length_take]; rfl)) ?_; (with_reducible refine (eddyref18_Can.calls k _ _ l0 a2 true _ ?side1 ?side2 A4.out).mono ?_); (case side1 => repeat (first | exact HR0.out | (with_reducible refine Kd.C_alloc ?_ _) | (with_reducible refine Kd.C_drewN ?_ _) | (with_reducible refine Kd.C_drew ?_))); (case side2 => exact HC0.out); rintro e w8 ⟨rfl, hb⟩; refine ⟨_, rfl, ?_⟩; have n0_ := Aside0.mk (below_step (by repeat (first | (with_reducible first | exact HB.out | apply below_alloc | apply pw_below_drewN | apply below_drew1) | exact HB.out)) hb); clear HB; have HB := n0_; clear n0_; (try clear hb); (try clear hb2); (try clear hk); (try clear hi)) | ((with_reducible refine gate_callee (f := 33) rfl ?_); refine goesL_ (some 27) rfl rfl Try.func33 (by kernel_rfl) rfl #[.slice A0 l0.length c0, .int .i64 (l0.length : Int), .int .i64 a1] rfl (by (try simp only [List.map_toArray, List.map_cons, List.map_nil]); first | done | rfl | (simp only [List.length_drop, List.length_take]; rfl)) ?_; (with_reducible refine (eddyref18_lifeOf.calls k _ _ l0 (l0.length : Int) a1 t149 t150 _ ?side1 ?side2 A6.out).mono ?_); (case side1 => repeat (first | exact (Kd.C_below HR0.out HB.out) | (with_reducible refine Kd.C_alloc ?_ _) | (with_reducible refine Kd.C_drewN ?_ _) | (with_reducible refine Kd.C_drew ?_))); (case side2 => exact HC0.out); rintro e w' ⟨rfl, ⟨nd, rfl⟩⟩; refine ⟨_, rfl, ?_⟩))
      go_ret2
      exact ⟨_, by first | rfl | (simp [errW_none, errW_some] <;> rfl) | (simp [*, errW_none, errW_some] <;> rfl), by first | exact Kd.R_nil _ _ _ _ _ | exact Kd.N_nil _ _ _ _ _ | exact Kd.V_nil _ _ _ _ _ | exact Kd.Q_nil _ _ _ _ _ | exact Kd.S_nil _ _ _ _ _, by repeat (first | (with_reducible first | exact HB.out | apply below_alloc | apply pw_below_drewN | apply below_drew1) | exact HB.out)⟩
    · rw [if_neg c7] at H
      have c7b0 : decide (t149 < 0) = false := decide_eq_false c7
      clear c7
      replace H := Option.bind_eq_some_iff.mp H
      obtain ⟨⟨t151, t152⟩, A90, H⟩ := H
      replace H : (if t152 = true then (eddyref18_Path.l0 k l0 t149 t150 t151 0 0 t149) else (some (([] : List Int), 181))) = some (r1, r2) := H
      have A9 := Aside0.mk A90
      clear A90
      by_cases c10 : t152 = true
      · subst c10
        have H1 : (eddyref18_Path.l0 k l0 t149 t150 t151 0 0 t149) = some (r1, r2) := by rw [if_pos rfl] at H; exact H
        clear H
        have H := H1
        clear H1
        have H' := Aside0.mk H
        clear H
        go_enter Try.func17, Try.ntmps17
        go_wp2_with (first | ((with_reducible refine gate_callee (f := 32) rfl ?_); refine goesL_ (some 20) rfl rfl Try.func32 (by kernel_rfl) rfl #[.slice A0 l0.length c0, .int .i64 a2] rfl (by (try simp only [List.map_toArray, List.map_cons, List.map_nil]); first | done | rfl | (simp only [List.length_drop, List.length_take]; rfl)) ?_; (with_reducible refine (eddyref18_Can.calls k _ _ l0 a2 true _ ?side1 ?side2 A4.out).mono ?_); (case side1 => repeat (first | exact HR0.out | (with_reducible refine Kd.C_alloc ?_ _) | (with_reducible refine Kd.C_drewN ?_ _) | (with_reducible refine Kd.C_drew ?_))); (case side2 => exact HC0.out); rintro e w11 ⟨rfl, hb⟩; refine ⟨_, rfl, ?_⟩; have n0_ := Aside0.mk (below_step (by repeat (first | (with_reducible first | exact HB.out | apply below_alloc | apply pw_below_drewN | apply below_drew1) | exact HB.out)) hb); clear HB; have HB := n0_; clear n0_; (try clear hb); (try clear hb2); (try clear hk); (try clear hi)) | ((with_reducible refine gate_callee (f := 33) rfl ?_); refine goesL_ (some 27) rfl rfl Try.func33 (by kernel_rfl) rfl #[.slice A0 l0.length c0, .int .i64 (l0.length : Int), .int .i64 a1] rfl (by (try simp only [List.map_toArray, List.map_cons, List.map_nil]); first | done | rfl | (simp only [List.length_drop, List.length_take]; rfl)) ?_; (with_reducible refine (eddyref18_lifeOf.calls k _ _ l0 (l0.length : Int) a1 t149 t150 _ ?side1 ?side2 A6.out).mono ?_); (case side1 => repeat (first | exact (Kd.C_below HR0.out HB.out) | (with_reducible refine Kd.C_alloc ?_ _) | (with_reducible refine Kd.C_drewN ?_ _) | (with_reducible refine Kd.C_drew ?_))); (case side2 => exact HC0.out); rintro e w' ⟨rfl, ⟨nd, rfl⟩⟩; refine ⟨_, rfl, ?_⟩) | ((with_reducible refine gate_callee (f := 34) rfl ?_); refine goesL_ (some 38) rfl rfl Try.func34 (by kernel_rfl) rfl #[.slice A0 l0.length c0, .int .i64 t149, .int .i64 t150, .int .i64 a1, .int .i64 a2] rfl (by (try simp only [List.map_toArray, List.map_cons, List.map_nil]); first | done | rfl | (simp only [List.length_drop, List.length_take]; rfl)) ?_; (with_reducible refine (eddyref18_copies.calls k _ _ l0 t149 t150 a1 a2 t151 true _ ?side1 ?side2 A9.out).mono ?_); (case side1 => repeat (first | exact (Kd.C_below HR0.out (by repeat (first | (with_reducible first | exact HB.out | apply below_alloc | apply pw_below_drewN | apply below_drew1) | exact HB.out))) | (with_reducible refine Kd.C_alloc ?_ _) | (with_reducible refine Kd.C_drewN ?_ _) | (with_reducible refine Kd.C_drew ?_))); (case side2 => exact HC0.out); rintro e w12 ⟨v153, rfl, ho0, hb⟩; refine ⟨_, rfl, ?_⟩; have n0_ := Aside0.mk (Kd.R_lower ho0 (below_size (by repeat (first | (with_reducible first | exact HB.out | apply below_alloc | apply pw_below_drewN | apply below_drew1) | exact HB.out)))); have n1_ := Aside0.mk (below_step (by repeat (first | (with_reducible first | exact HB.out | apply below_alloc | apply pw_below_drewN | apply below_drew1) | exact HB.out)) hb); clear HB; have HO154 := n0_; have HB := n1_; clear n0_ n1_; (try clear hb); (try clear hb2); (try clear hk); (try clear hi); (try clear ho0)))
        go_loopg [13, 15] k (fun kq v13 v15 w' => ∃ (x13_1 : Int) (x15_1 : Int), v13 = .int .i64 x13_1 ∧ v15 = .int .i64 x15_1 ∧ Aside0 (eddyref18_Path.l0 kq l0 t149 t150 t151 x13_1 0 x15_1 = some (r1, r2)) ∧ Aside0 (kq ≤ k) ∧ Aside0 (Kd.R (Kd.int .i64) 3 w' w.heap.size (fun _ => True) v153 t151) ∧ Aside0 (Below w.heap.size w w'))
        case atStart => exact ⟨(0), (t149), (by first | rfl | (simp; done) | (simp [*]; done)), (by first | rfl | (simp; done) | (simp [*]; done)), H', ⟨Nat.le_refl _⟩, ⟨by (with_reducible repeat (first | apply Kd.R_alloc | apply Kd.R_drewN | apply Kd.R_drew)); exact HO154.out⟩, ⟨by repeat (first | (with_reducible first | exact HB.out | apply below_alloc | apply pw_below_drewN | apply below_drew1) | exact HB.out)⟩⟩
        case round =>
          clear H'
          try clear c1
          try clear p2
          try clear c3
          try clear c5
          try clear c7
          try clear c7b0
          try clear c10
          obtain ⟨x13_1, x15_1, rfl, rfl, HA, HK1, HO_10, HB⟩ := hrel
          cases gk with
          | zero => exact absurd HA.out (by simp [eddyref18_Path.l0])
          | succ k1 =>
            have H := HA.out
            clear HA
            simp only [eddyref18_Path.l0] at H
            by_cases c13 : x15_1 < t150
            · rw [if_pos c13] at H
              have c13b0 : decide (x15_1 < t150) = true := decide_eq_true c13
              clear c13
              by_cases c14 : 0 ≤ x15_1
              · rw [if_pos c14] at H
                have c14b0 : decide (0 ≤ x15_1) = true := decide_eq_true c14
                clear c14
                by_cases c15 : x15_1 < (l0.length : Int)
                · rw [if_pos c15] at H
                  have c15b0 : decide (x15_1 < (l0.length : Int)) = true := decide_eq_true c15
                  clear c15
                  by_cases c16 : ((rd_T46 l0 x15_1).f0) = 1
                  · rw [if_pos c16] at H
                    have c16b0 : (((rd_T46 l0 x15_1).f0) == 1) = true := beq_iff_eq.mpr c16
                    have c16b1 : (((rd_T46 l0 x15_1).f0) != 1) = false := bne_eq_false_iff_eq.mpr c16
                    clear c16
                    have H' := Aside0.mk H
                    clear H
                    have p155 : 0 ≤ (x15_1 : Int) := of_decide_eq_true (by first | (with_reducible assumption) | assumption)
                    have q155 : x15_1 < (l0.length : Int) := of_decide_eq_true (by first | (with_reducible assumption) | assumption)
                    obtain ⟨ad155, e155, hx155_0, hx155_1, hx155_2, hx155_3⟩ := at_T46 HR0.out x15_1 p155 q155
                    cases e155
                    replace hx155_0 := (HB.out.cell (World.block_lt_of_cell? w _ hx155_0)).trans hx155_0
                    replace hx155_1 := (HB.out.cell (World.block_lt_of_cell? w _ hx155_1)).trans hx155_1
                    replace hx155_2 := (HB.out.cell (World.block_lt_of_cell? w _ hx155_2)).trans hx155_2
                    replace hx155_3 := (HB.out.cell (World.block_lt_of_cell? w _ hx155_3)).trans hx155_3
                    replace p155 := eq_true p155
                    replace q155 := eq_true q155
                    go_wp2
                    go_roundg k1
                    case measure => have := HK1.out; omega
                    case rel => exact ⟨(wrap64 (x13_1 + 1)), (wrap64 (x15_1 + 1)), (by first | rfl | (simp; done) | (simp [*]; done)), (by first | rfl | (simp; done) | (simp [*]; done)), H', ⟨by have := HK1.out; omega⟩, ⟨by (with_reducible repeat (first | apply Kd.R_alloc | apply Kd.R_drewN | apply Kd.R_drew)); exact HO_10.out⟩, ⟨by repeat (first | (with_reducible first | exact HB.out | apply below_alloc | apply pw_below_drewN | apply below_drew1) | exact HB.out)⟩⟩
                  · rw [if_neg c16] at H
                    have c16b0 : (((rd_T46 l0 x15_1).f0) == 1) = false := beq_eq_false_iff_ne.mpr c16
                    have c16b1 : (((rd_T46 l0 x15_1).f0) != 1) = true := bne_iff_ne.mpr c16
                    have H' := Aside0.mk H
                    clear H
                    have p155 : 0 ≤ (x15_1 : Int) := of_decide_eq_true (by first | (with_reducible assumption) | assumption)
                    have q155 : x15_1 < (l0.length : Int) := of_decide_eq_true (by first | (with_reducible assumption) | assumption)
                    obtain ⟨ad155, e155, hx155_0, hx155_1, hx155_2, hx155_3⟩ := at_T46 HR0.out x15_1 p155 q155
                    cases e155
                    replace hx155_0 := (HB.out.cell (World.block_lt_of_cell? w _ hx155_0)).trans hx155_0
                    replace hx155_1 := (HB.out.cell (World.block_lt_of_cell? w _ hx155_1)).trans hx155_1
                    replace hx155_2 := (HB.out.cell (World.block_lt_of_cell? w _ hx155_2)).trans hx155_2
                    replace hx155_3 := (HB.out.cell (World.block_lt_of_cell? w _ hx155_3)).trans hx155_3
                    replace p155 := eq_true p155
                    replace q155 := eq_true q155
                    go_wp2
                    go_roundg k1
                    case measure => have := HK1.out; omega
                    case rel => exact ⟨(x13_1), (wrap64 (x15_1 + 1)), (by first | rfl | (simp; done) | (simp [*]; done)), (by first | rfl | (simp; done) | (simp [*]; done)), H', ⟨by have := HK1.out; omega⟩, ⟨by (with_reducible repeat (first | apply Kd.R_alloc | apply Kd.R_drewN | apply Kd.R_drew)); exact HO_10.out⟩, ⟨by repeat (first | (with_reducible first | exact HB.out | apply below_alloc | apply pw_below_drewN | apply below_drew1) | exact HB.out)⟩⟩
                · rw [if_neg c15] at H
                  exact absurd H (by simp)
              · rw [if_neg c14] at H
                exact absurd H (by simp)
            · rw [if_neg c13] at H
              have c13b0 : decide (x15_1 < t150) = false := decide_eq_false c13
              clear c13
              by_cases c17 : x13_1 > 2000
              · rw [if_pos c17] at H
                have c17b0 : decide (2000 < x13_1) = true := decide_eq_true c17
                clear c17
                simp only [Option.some.injEq, Prod.mk.injEq] at H
                obtain ⟨rfl, rfl⟩ := H
                go_wp2
                go_ret2
                exact ⟨_, by first | rfl | (simp [errW_none, errW_some] <;> rfl) | (simp [*, errW_none, errW_some] <;> rfl), by first | exact Kd.R_nil _ _ _ _ _ | exact Kd.N_nil _ _ _ _ _ | exact Kd.V_nil _ _ _ _ _ | exact Kd.Q_nil _ _ _ _ _ | exact Kd.S_nil _ _ _ _ _, by repeat (first | (with_reducible first | exact HB.out | apply below_alloc | apply pw_below_drewN | apply below_drew1) | exact HB.out)⟩
              · rw [if_neg c17] at H
                have c17b0 : decide (2000 < x13_1) = false := decide_eq_false c17
                clear c17
                have H' := Aside0.mk H
                clear H
                go_wp2
                go_loopg [12, 13, 14, 16] k1 (fun kq v12 v13 v14 v16 w' => ∃ (x12_2 : List Int) (x13_2 : Int) (x14_2 : Int) (x16_2 : Int), v13 = .int .i64 x13_2 ∧ v14 = .int .i64 x14_2 ∧ v16 = .int .i64 x16_2 ∧ Aside0 (eddyref18_Path.l1 kq l0 t150 t151 x12_2 x13_2 x14_2 x16_2 = some (r1, r2)) ∧ Aside0 (kq ≤ k1) ∧ Aside0 (Kd.R (Kd.int .i64) 3 w' w.heap.size (fun k_ => some k_ ≠ (v12 : Value).ownBlock) v153 t151) ∧ Aside0 (Kd.R (Kd.int .i64) 3 w' w.heap.size (fun k_ => some k_ ≠ (v153 : Value).ownBlock) v12 x12_2) ∧ Aside0 (Below w.heap.size w w'))
                case atStart => exact ⟨(([] : List Int)), (0), (0), (t149), (by first | rfl | (simp; done) | (simp [*]; done)), (by first | rfl | (simp; done) | (simp [*]; done)), (by first | rfl | (simp; done) | (simp [*]; done)), H', ⟨Nat.le_refl _⟩, ⟨by (with_reducible repeat (first | apply Kd.R_alloc | apply Kd.R_drewN | apply Kd.R_drew)); exact Kd.R_mono HO_10.out (fun _ hk => (by simp [Value.ownBlock]))⟩, ⟨by first | exact Kd.R_nil _ _ _ _ _ | exact Kd.N_nil _ _ _ _ _ | exact Kd.V_nil _ _ _ _ _ | exact Kd.Q_nil _ _ _ _ _ | exact Kd.S_nil _ _ _ _ _⟩, ⟨by repeat (first | (with_reducible first | exact HB.out | apply below_alloc | apply pw_below_drewN | apply below_drew1) | exact HB.out)⟩⟩
                case round =>
                  clear H'
                  try clear c1
                  try clear p1
                  try clear q1
                  try clear hx1
                  try clear p2
                  try clear c3
                  try clear c5
                  try clear p6
                  try clear c7
                  try clear c7b0
                  try clear c10
                  try clear c13
                  try clear c13b0
                  try clear c14
                  try clear c14b0
                  try clear c15
                  try clear c15b0
                  try clear p15
                  try clear q15
                  try clear hx15
                  try clear c16
                  try clear c16b0
                  try clear c16b1
                  try clear c17
                  try clear c17b0
                  try clear hx155_0
                  try clear hx155_1
                  try clear hx155_2
                  try clear hx155_3
                  try clear p155
                  try clear p2
                  try clear q155
                  obtain ⟨x12_2, x13_2, x14_2, x16_2, rfl, rfl, rfl, HA, HK2, HO_10, HO_12, HB⟩ := hrel
                  cases gk with
                  | zero => exact absurd HA.out (by simp [eddyref18_Path.l1])
                  | succ k2 =>
                    have H := HA.out
                    clear HA
                    simp only [eddyref18_Path.l1] at H
                    by_cases c18 : x16_2 < t150
                    · rw [if_pos c18] at H
                      have c18b0 : decide (x16_2 < t150) = true := decide_eq_true c18
                      clear c18
                      by_cases c19 : 0 ≤ x16_2
                      · rw [if_pos c19] at H
                        have c19b0 : decide (0 ≤ x16_2) = true := decide_eq_true c19
                        clear c19
                        by_cases c20 : x16_2 < (l0.length : Int)
                        · rw [if_pos c20] at H
                          have c20b0 : decide (x16_2 < (l0.length : Int)) = true := decide_eq_true c20
                          clear c20
                          by_cases c21 : ((rd_T46 l0 x16_2).f0) = 1
                          · rw [if_pos c21] at H
                            have c21b0 : (((rd_T46 l0 x16_2).f0) == 1) = true := beq_iff_eq.mpr c21
                            have c21b1 : (((rd_T46 l0 x16_2).f0) != 1) = false := bne_eq_false_iff_eq.mpr c21
                            clear c21
                            by_cases c22 : 0 ≤ ((rd_T46 l0 x16_2).f1)
                            · rw [if_pos c22] at H
                              have c22b0 : decide (0 ≤ ((rd_T46 l0 x16_2).f1)) = true := decide_eq_true c22
                              clear c22
                              by_cases c23 : ((rd_T46 l0 x16_2).f1) < (t151.length : Int)
                              · rw [if_pos c23] at H
                                have c23b0 : decide (((rd_T46 l0 x16_2).f1) < (t151.length : Int)) = true := decide_eq_true c23
                                clear c23
                                by_cases c24 : x16_2 < (rd t151 ((rd_T46 l0 x16_2).f1))
                                · rw [if_pos c24] at H
                                  have c24b0 : decide (x16_2 < (rd t151 ((rd_T46 l0 x16_2).f1))) = true := decide_eq_true c24
                                  clear c24
                                  have H' := Aside0.mk H
                                  clear H
                                  have p156 : 0 ≤ (x16_2 : Int) := of_decide_eq_true (by first | (with_reducible assumption) | assumption)
                                  have q156 : x16_2 < (l0.length : Int) := of_decide_eq_true (by first | (with_reducible assumption) | assumption)
                                  obtain ⟨ad156, e156, hx156_0, hx156_1, hx156_2, hx156_3⟩ := at_T46 HR0.out x16_2 p156 q156
                                  cases e156
                                  replace hx156_0 := (HB.out.cell (World.block_lt_of_cell? w _ hx156_0)).trans hx156_0
                                  replace hx156_1 := (HB.out.cell (World.block_lt_of_cell? w _ hx156_1)).trans hx156_1
                                  replace hx156_2 := (HB.out.cell (World.block_lt_of_cell? w _ hx156_2)).trans hx156_2
                                  replace hx156_3 := (HB.out.cell (World.block_lt_of_cell? w _ hx156_3)).trans hx156_3
                                  replace p156 := eq_true p156
                                  replace q156 := eq_true q156
                                  have p157 : 0 ≤ (x16_2 : Int) := of_decide_eq_true (by first | (with_reducible assumption) | assumption)
                                  have q157 : x16_2 < (l0.length : Int) := of_decide_eq_true (by first | (with_reducible assumption) | assumption)
                                  obtain ⟨ad157, e157, hx157_0, hx157_1, hx157_2, hx157_3⟩ := at_T46 HR0.out x16_2 p157 q157
                                  obtain rfl : ad156 = ad157 := (by injection e157)
                                  replace hx157_0 := (HB.out.cell (World.block_lt_of_cell? w _ hx157_0)).trans hx157_0
                                  replace hx157_1 := (HB.out.cell (World.block_lt_of_cell? w _ hx157_1)).trans hx157_1
                                  replace hx157_2 := (HB.out.cell (World.block_lt_of_cell? w _ hx157_2)).trans hx157_2
                                  replace hx157_3 := (HB.out.cell (World.block_lt_of_cell? w _ hx157_3)).trans hx157_3
                                  replace p157 := eq_true p157
                                  replace q157 := eq_true q157
                                  obtain ⟨Ao25, co25, eo25⟩ := Kd.R_slice HO_10.out
                                  subst eo25
                                  have p158 : 0 ≤ (((rd_T46 l0 x16_2).f1) : Int) := of_decide_eq_true (by first | (with_reducible assumption) | assumption)
                                  have q158 : ((rd_T46 l0 x16_2).f1) < (t151.length : Int) := of_decide_eq_true (by first | (with_reducible assumption) | assumption)
                                  obtain ⟨ad158, e158, hx158_0⟩ := Kd.at_int (Kd.R_reads' HO_10.out).2.2 ((rd_T46 l0 x16_2).f1) p158 q158
                                  cases e158
                                  replace p158 := eq_true p158
                                  replace q158 := eq_true q158
                                  go_wp2
                                  go_loopg [12, 17] k2 (fun kq v12 v17 w' => ∃ (x12_3 : List Int) (x17_3 : Int), v17 = .int .i64 x17_3 ∧ Aside0 (eddyref18_Path.l2 kq l0 t150 t151 x12_3 x13_2 x14_2 x16_2 x17_3 = some (r1, r2)) ∧ Aside0 (kq ≤ k2) ∧ Aside0 (Kd.R (Kd.int .i64) 3 w' w.heap.size (fun k_ => some k_ ≠ (v12 : Value).ownBlock) (.slice (some ad158) t151.length co25) t151) ∧ Aside0 (Kd.R (Kd.int .i64) 3 w' w.heap.size (fun k_ => some k_ ≠ ((.slice (some ad158) t151.length co25) : Value).ownBlock) v12 x12_3) ∧ Aside0 (Below w.heap.size w w'))
                                  case atStart => exact ⟨(x12_2), (wrap64 (x13_2 - 1)), (by first | rfl | (simp; done) | (simp [*]; done)), H', ⟨Nat.le_refl _⟩, ⟨by (with_reducible repeat (first | apply Kd.R_alloc | apply Kd.R_drewN | apply Kd.R_drew)); exact HO_10.out⟩, ⟨by (with_reducible repeat (first | apply Kd.R_alloc | apply Kd.R_drewN | apply Kd.R_drew)); exact HO_12.out⟩, ⟨by repeat (first | (with_reducible first | exact HB.out | apply below_alloc | apply pw_below_drewN | apply below_drew1) | exact HB.out)⟩⟩
                                  case round =>
                                    clear H'
                                    try clear c1
                                    try clear p1
                                    try clear q1
                                    try clear hx1
                                    try clear c2
                                    try clear p2
                                    try clear c3
                                    try clear c5
                                    try clear p6
                                    try clear c7
                                    try clear c7b0
                                    try clear c10
                                    try clear c13
                                    try clear c13b0
                                    try clear c14
                                    try clear c14b0
                                    try clear c15
                                    try clear c15b0
                                    try clear p15
                                    try clear q15
                                    try clear hx15
                                    try clear c16
                                    try clear c16b0
                                    try clear c16b1
                                    try clear c17
                                    try clear c17b0
                                    try clear c18
                                    try clear c18b0
                                    try clear c19
                                    try clear c19b0
                                    try clear c20
                                    try clear c20b0
                                    try clear c21
                                    try clear c21b0
                                    try clear c21b1
                                    try clear c22
                                    try clear c22b0
                                    try clear c23
                                    try clear c23b0
                                    try clear c24
                                    try clear c24b0
                                    try clear hx155_0
                                    try clear hx155_1
                                    try clear hx155_2
                                    try clear hx155_3
                                    try clear hx156_0
                                    try clear hx156_1
                                    try clear hx156_2
                                    try clear hx156_3
                                    try clear hx157_0
                                    try clear hx157_1
                                    try clear hx157_2
                                    try clear hx157_3
                                    try clear hx158_0
                                    try clear p1
                                    try clear p15
                                    try clear p155
                                    try clear p156
                                    try clear p157
                                    try clear p158
                                    try clear p2
                                    try clear p6
                                    try clear q1
                                    try clear q15
                                    try clear q155
                                    try clear q156
                                    try clear q157
                                    try clear q158
                                    obtain ⟨x12_3, x17_3, rfl, HA, HK3, HO_10, HO_12, HB⟩ := hrel
                                    cases gk with
                                    | zero => exact absurd HA.out (by simp [eddyref18_Path.l2])
                                    | succ k3 =>
                                      have H := HA.out
                                      clear HA
                                      simp only [eddyref18_Path.l2] at H
                                      by_cases c26 : x17_3 ≥ x14_2
                                      · rw [if_pos c26] at H
                                        have c26b0 : decide (x14_2 ≤ x17_3) = true := decide_eq_true c26
                                        clear c26
                                        by_cases c27 : x12_3.length < 17592186044416
                                        · rw [if_pos c27] at H
                                          have LMc27 := Aside0.mk c27
                                          clear c27
                                          obtain ⟨y159, hy159⟩ : ∃ y_ : List Int, y_ = (x12_3 ++ [x17_3]) := ⟨_, rfl⟩
                                          replace H : (eddyref18_Path.l2 k3 l0 t150 t151 y159 x13_2 x14_2 x16_2 (wrap64 (x17_3 - 1))) = some (r1, r2) := by first | (rw [hy159]; with_reducible exact H) | (have H2_ := (Option.bind_some _ _).symm.trans H; rw [hy159]; with_reducible exact H2_) | (have H2_ := (Option.bind_some _ _).symm.trans H; with_reducible exact H2_) | with_reducible exact H | (rw [hy159]; exact H) | exact H
                                          have Ny159 := Aside0.mk hy159
                                          clear hy159
                                          have H' := Aside0.mk H
                                          clear H
                                          go_wp2_with (first | ((with_reducible refine gate_builtin (b := .append) (xs := #[.tmp 88, .tmp 90]) rfl ?_); at_builtin; refine Kd.R_append (Kd.int .i64) (w0 := w) w.heap.size rfl (.tmp 88) (.tmp 90) 32 3 (.int .i64 0) 8 rfl Try.underlying32 info3 rfl (by decide) (by omega) u12 x12_3 x17_3 [.int .i64 x17_3] (fun k_ => some k_ ≠ (.slice (some ad158) t151.length co25 : Value).ownBlock) (fun _ => False) rfl rfl ?aP (fun _ hk => hk.elim) ?aF ?aO ?aB ?aS ?aL ?_; (case aP => exact rfl); (case aB => exact (by repeat (first | (with_reducible first | exact HB.out | apply below_alloc | apply pw_below_drewN | apply below_drew1) | exact HB.out))); (case aF => exact (fun k_ hk => Kd.fresh' (Kd.R_lt (by (with_reducible repeat (first | apply Kd.R_alloc | apply Kd.R_drewN | apply Kd.R_drew)); exact HO_10.out)) k_ hk)); (case aO => exact (by (with_reducible repeat (first | apply Kd.R_alloc | apply Kd.R_drewN | apply Kd.R_drew)); exact HO_12.out)); (case aS => exact (below_size (by repeat (first | (with_reducible first | exact HB.out | apply below_alloc | apply pw_below_drewN | apply below_drew1) | exact HB.out)))); (case aL => have := LMc27.out; omega); intro v160 w28 ho hb hg hat; rw [← Ny159.out] at ho; have n0_ := Aside0.mk (Kd.R_after (ok := (fun _ => True)) (by (with_reducible repeat (first | apply Kd.R_alloc | apply Kd.R_drewN | apply Kd.R_drew)); exact Kd.R_mono HO_10.out (fun _ hk => ⟨trivial, hk⟩)) hg hat); have n1_ := Aside0.mk (hb); have n2_ := Aside0.mk (ho); clear HO_10; clear HB; clear HO_12; have HO_10 := n0_; have HB := n1_; have HO161 := n2_; clear n0_ n1_ n2_; clear ho hb hg hat))
                                          go_roundg k3
                                          case measure => have := HK1.out; have := HK2.out; have := HK3.out; omega
                                          case rel => exact ⟨(y159), (wrap64 (x17_3 - 1)), (by first | rfl | (simp; done) | (simp [*]; done)), H', ⟨by have := HK1.out; have := HK2.out; have := HK3.out; omega⟩, ⟨by (with_reducible repeat (first | apply Kd.R_alloc | apply Kd.R_drewN | apply Kd.R_drew)); exact Kd.R_mono HO_10.out (fun _ hk => hk.2)⟩, ⟨by (with_reducible repeat (first | apply Kd.R_alloc | apply Kd.R_drewN | apply Kd.R_drew)); exact HO161.out⟩, ⟨by repeat (first | (with_reducible first | exact HB.out | apply below_alloc | apply pw_below_drewN | apply below_drew1) | exact HB.out)⟩⟩
                                        · rw [if_neg c27] at H
                                          exact absurd H (by simp)
                                      · rw [if_neg c26] at H
                                        have c26b0 : decide (x14_2 ≤ x17_3) = false := decide_eq_false c26
                                        clear c26
                                        have H' := Aside0.mk H
                                        clear H
                                        go_wp2
                                        go_roundg k3
                                        case measure => have := HK1.out; have := HK2.out; have := HK3.out; omega
                                        case rel => exact ⟨(x12_3), (wrap64 (x13_2 + 1)), (wrap64 (x14_2 + 1)), (wrap64 (x16_2 + 1)), (by first | rfl | (simp; done) | (simp [*]; done)), (by first | rfl | (simp; done) | (simp [*]; done)), (by first | rfl | (simp; done) | (simp [*]; done)), H', ⟨by have := HK1.out; have := HK2.out; have := HK3.out; omega⟩, ⟨by (with_reducible repeat (first | apply Kd.R_alloc | apply Kd.R_drewN | apply Kd.R_drew)); exact HO_10.out⟩, ⟨by (with_reducible repeat (first | apply Kd.R_alloc | apply Kd.R_drewN | apply Kd.R_drew)); exact HO_12.out⟩, ⟨by repeat (first | (with_reducible first | exact HB.out | apply below_alloc | apply pw_below_drewN | apply below_drew1) | exact HB.out)⟩⟩
                                · rw [if_neg c24] at H
                                  have c24b0 : decide (x16_2 < (rd t151 ((rd_T46 l0 x16_2).f1))) = false := decide_eq_false c24
                                  clear c24
                                  have H' := Aside0.mk H
                                  clear H
                                  have p156 : 0 ≤ (x16_2 : Int) := of_decide_eq_true (by first | (with_reducible assumption) | assumption)
                                  have q156 : x16_2 < (l0.length : Int) := of_decide_eq_true (by first | (with_reducible assumption) | assumption)
                                  obtain ⟨ad156, e156, hx156_0, hx156_1, hx156_2, hx156_3⟩ := at_T46 HR0.out x16_2 p156 q156
                                  cases e156
                                  replace hx156_0 := (HB.out.cell (World.block_lt_of_cell? w _ hx156_0)).trans hx156_0
                                  replace hx156_1 := (HB.out.cell (World.block_lt_of_cell? w _ hx156_1)).trans hx156_1
                                  replace hx156_2 := (HB.out.cell (World.block_lt_of_cell? w _ hx156_2)).trans hx156_2
                                  replace hx156_3 := (HB.out.cell (World.block_lt_of_cell? w _ hx156_3)).trans hx156_3
                                  replace p156 := eq_true p156
                                  replace q156 := eq_true q156
                                  have p157 : 0 ≤ (x16_2 : Int) := of_decide_eq_true (by first | (with_reducible assumption) | assumption)
                                  have q157 : x16_2 < (l0.length : Int) := of_decide_eq_true (by first | (with_reducible assumption) | assumption)
                                  obtain ⟨ad157, e157, hx157_0, hx157_1, hx157_2, hx157_3⟩ := at_T46 HR0.out x16_2 p157 q157
                                  obtain rfl : ad156 = ad157 := (by injection e157)
                                  replace hx157_0 := (HB.out.cell (World.block_lt_of_cell? w _ hx157_0)).trans hx157_0
                                  replace hx157_1 := (HB.out.cell (World.block_lt_of_cell? w _ hx157_1)).trans hx157_1
                                  replace hx157_2 := (HB.out.cell (World.block_lt_of_cell? w _ hx157_2)).trans hx157_2
                                  replace hx157_3 := (HB.out.cell (World.block_lt_of_cell? w _ hx157_3)).trans hx157_3
                                  replace p157 := eq_true p157
                                  replace q157 := eq_true q157
                                  obtain ⟨Ao29, co29, eo29⟩ := Kd.R_slice HO_10.out
                                  subst eo29
                                  have p158 : 0 ≤ (((rd_T46 l0 x16_2).f1) : Int) := of_decide_eq_true (by first | (with_reducible assumption) | assumption)
                                  have q158 : ((rd_T46 l0 x16_2).f1) < (t151.length : Int) := of_decide_eq_true (by first | (with_reducible assumption) | assumption)
                                  obtain ⟨ad158, e158, hx158_0⟩ := Kd.at_int (Kd.R_reads' HO_10.out).2.2 ((rd_T46 l0 x16_2).f1) p158 q158
                                  cases e158
                                  replace p158 := eq_true p158
                                  replace q158 := eq_true q158
                                  go_wp2
                                  go_roundg k2
                                  case measure => have := HK1.out; have := HK2.out; omega
                                  case rel => exact ⟨(x12_2), (wrap64 (x13_2 + 1)), (x14_2), (wrap64 (x16_2 + 1)), (by first | rfl | (simp; done) | (simp [*]; done)), (by first | rfl | (simp; done) | (simp [*]; done)), (by first | rfl | (simp; done) | (simp [*]; done)), H', ⟨by have := HK1.out; have := HK2.out; omega⟩, ⟨by (with_reducible repeat (first | apply Kd.R_alloc | apply Kd.R_drewN | apply Kd.R_drew)); exact HO_10.out⟩, ⟨by (with_reducible repeat (first | apply Kd.R_alloc | apply Kd.R_drewN | apply Kd.R_drew)); exact HO_12.out⟩, ⟨by repeat (first | (with_reducible first | exact HB.out | apply below_alloc | apply pw_below_drewN | apply below_drew1) | exact HB.out)⟩⟩
                              · rw [if_neg c23] at H
                                exact absurd H (by simp)
                            · rw [if_neg c22] at H
                              exact absurd H (by simp)
                          · rw [if_neg c21] at H
                            have c21b0 : (((rd_T46 l0 x16_2).f0) == 1) = false := beq_eq_false_iff_ne.mpr c21
                            have c21b1 : (((rd_T46 l0 x16_2).f0) != 1) = true := bne_iff_ne.mpr c21
                            have H' := Aside0.mk H
                            clear H
                            have p156 : 0 ≤ (x16_2 : Int) := of_decide_eq_true (by first | (with_reducible assumption) | assumption)
                            have q156 : x16_2 < (l0.length : Int) := of_decide_eq_true (by first | (with_reducible assumption) | assumption)
                            obtain ⟨ad156, e156, hx156_0, hx156_1, hx156_2, hx156_3⟩ := at_T46 HR0.out x16_2 p156 q156
                            cases e156
                            replace hx156_0 := (HB.out.cell (World.block_lt_of_cell? w _ hx156_0)).trans hx156_0
                            replace hx156_1 := (HB.out.cell (World.block_lt_of_cell? w _ hx156_1)).trans hx156_1
                            replace hx156_2 := (HB.out.cell (World.block_lt_of_cell? w _ hx156_2)).trans hx156_2
                            replace hx156_3 := (HB.out.cell (World.block_lt_of_cell? w _ hx156_3)).trans hx156_3
                            replace p156 := eq_true p156
                            replace q156 := eq_true q156
                            go_wp2
                            go_roundg k2
                            case measure => have := HK1.out; have := HK2.out; omega
                            case rel => exact ⟨(x12_2), (x13_2), (x14_2), (wrap64 (x16_2 + 1)), (by first | rfl | (simp; done) | (simp [*]; done)), (by first | rfl | (simp; done) | (simp [*]; done)), (by first | rfl | (simp; done) | (simp [*]; done)), H', ⟨by have := HK1.out; have := HK2.out; omega⟩, ⟨by (with_reducible repeat (first | apply Kd.R_alloc | apply Kd.R_drewN | apply Kd.R_drew)); exact HO_10.out⟩, ⟨by (with_reducible repeat (first | apply Kd.R_alloc | apply Kd.R_drewN | apply Kd.R_drew)); exact HO_12.out⟩, ⟨by repeat (first | (with_reducible first | exact HB.out | apply below_alloc | apply pw_below_drewN | apply below_drew1) | exact HB.out)⟩⟩
                        · rw [if_neg c20] at H
                          exact absurd H (by simp)
                      · rw [if_neg c19] at H
                        exact absurd H (by simp)
                    · rw [if_neg c18] at H
                      have c18b0 : decide (x16_2 < t150) = false := decide_eq_false c18
                      clear c18
                      simp only [Option.some.injEq, Prod.mk.injEq] at H
                      obtain ⟨rfl, rfl⟩ := H
                      go_wp2
                      go_ret2
                      exact ⟨_, by first | rfl | (simp [errW_none, errW_some] <;> rfl) | (simp [*, errW_none, errW_some] <;> rfl), by (with_reducible repeat (first | apply Kd.R_alloc | apply Kd.R_drewN | apply Kd.R_drew)); exact Kd.R_mono HO_12.out (fun _ hk => trivial), by repeat (first | (with_reducible first | exact HB.out | apply below_alloc | apply pw_below_drewN | apply below_drew1) | exact HB.out)⟩
      · replace c10 := Bool.eq_false_iff.mpr c10
        subst c10
        have H1 : (some (([] : List Int), 181)) = some (r1, r2) := by rw [if_neg (show ¬ (false = true) by decide)] at H; exact H
        clear H
        have H := H1
        clear H1
        simp only [Option.some.injEq, Prod.mk.injEq] at H
        obtain ⟨rfl, rfl⟩ := H
        go_enter Try.func17, Try.ntmps17
        go_wp2_with (first | ((with_reducible refine gate_callee (f := 32) rfl ?_); refine goesL_ (some 20) rfl rfl Try.func32 (by kernel_rfl) rfl #[.slice A0 l0.length c0, .int .i64 a2] rfl (by (try simp only [List.map_toArray, List.map_cons, List.map_nil]); first | done | rfl | (simp only [List.length_drop, List.length_take]; rfl)) ?_; (with_reducible refine (eddyref18_Can.calls k _ _ l0 a2 true _ ?side1 ?side2 A4.out).mono ?_); (case side1 => repeat (first | exact HR0.out | (with_reducible refine Kd.C_alloc ?_ _) | (with_reducible refine Kd.C_drewN ?_ _) | (with_reducible refine Kd.C_drew ?_))); (case side2 => exact HC0.out); rintro e w30 ⟨rfl, hb⟩; refine ⟨_, rfl, ?_⟩; have n0_ := Aside0.mk (below_step (by repeat (first | (with_reducible first | exact HB.out | apply below_alloc | apply pw_below_drewN | apply below_drew1) | exact HB.out)) hb); clear HB; have HB := n0_; clear n0_; (try clear hb); (try clear hb2); (try clear hk); (try clear hi)) | ((with_reducible refine gate_callee (f := 33) rfl ?_); refine goesL_ (some 27) rfl rfl Try.func33 (by kernel_rfl) rfl #[.slice A0 l0.length c0, .int .i64 (l0.length : Int), .int .i64 a1] rfl (by (try simp only [List.map_toArray, List.map_cons, List.map_nil]); first | done | rfl | (simp only [List.length_drop, List.length_take]; rfl)) ?_; (with_reducible refine (eddyref18_lifeOf.calls k _ _ l0 (l0.length : Int) a1 t149 t150 _ ?side1 ?side2 A6.out).mono ?_); (case side1 => repeat (first | exact (Kd.C_below HR0.out HB.out) | (with_reducible refine Kd.C_alloc ?_ _) | (with_reducible refine Kd.C_drewN ?_ _) | (with_reducible refine Kd.C_drew ?_))); (case side2 => exact HC0.out); rintro e w' ⟨rfl, ⟨nd, rfl⟩⟩; refine ⟨_, rfl, ?_⟩) | ((with_reducible refine gate_callee (f := 34) rfl ?_); refine goesL_ (some 38) rfl rfl Try.func34 (by kernel_rfl) rfl #[.slice A0 l0.length c0, .int .i64 t149, .int .i64 t150, .int .i64 a1, .int .i64 a2] rfl (by (try simp only [List.map_toArray, List.map_cons, List.map_nil]); first | done | rfl | (simp only [List.length_drop, List.length_take]; rfl)) ?_; (with_reducible refine (eddyref18_copies.calls k _ _ l0 t149 t150 a1 a2 t151 false _ ?side1 ?side2 A9.out).mono ?_); (case side1 => repeat (first | exact (Kd.C_below HR0.out (by repeat (first | (with_reducible first | exact HB.out | apply below_alloc | apply pw_below_drewN | apply below_drew1) | exact HB.out))) | (with_reducible refine Kd.C_alloc ?_ _) | (with_reducible refine Kd.C_drewN ?_ _) | (with_reducible refine Kd.C_drew ?_))); (case side2 => exact HC0.out); rintro e w31 ⟨v153, rfl, ho0, hb⟩; refine ⟨_, rfl, ?_⟩; have n0_ := Aside0.mk (Kd.R_lower ho0 (below_size (by repeat (first | (with_reducible first | exact HB.out | apply below_alloc | apply pw_below_drewN | apply below_drew1) | exact HB.out)))); have n1_ := Aside0.mk (below_step (by repeat (first | (with_reducible first | exact HB.out | apply below_alloc | apply pw_below_drewN | apply below_drew1) | exact HB.out)) hb); clear HB; have HO154 := n0_; have HB := n1_; clear n0_ n1_; (try clear hb); (try clear hb2); (try clear hk); (try clear hi); (try clear ho0)))
        go_ret2
        exact ⟨_, by first | rfl | (simp [errW_none, errW_some] <;> rfl) | (simp [*, errW_none, errW_some] <;> rfl), by first | exact Kd.R_nil _ _ _ _ _ | exact Kd.N_nil _ _ _ _ _ | exact Kd.V_nil _ _ _ _ _ | exact Kd.Q_nil _ _ _ _ _ | exact Kd.S_nil _ _ _ _ _, by repeat (first | (with_reducible first | exact HB.out | apply below_alloc | apply pw_below_drewN | apply below_drew1) | exact HB.out)⟩
  · replace c5 := Bool.eq_false_iff.mpr c5
    subst c5
    have H1 : (some (([] : List Int), 181)) = some (r1, r2) := by rw [if_neg (show ¬ (false = true) by decide)] at H; exact H
    clear H
    have H := H1
    clear H1
    simp only [Option.some.injEq, Prod.mk.injEq] at H
    obtain ⟨rfl, rfl⟩ := H
    go_enter Try.func17, Try.ntmps17
    go_wp2_with (first | ((with_reducible refine gate_callee (f := 32) rfl ?_); refine goesL_ (some 20) rfl rfl Try.func32 (by kernel_rfl) rfl #[.slice A0 l0.length c0, .int .i64 a2] rfl (by (try simp only [List.map_toArray, List.map_cons, List.map_nil]); first | done | rfl | (simp only [List.length_drop, List.length_take]; rfl)) ?_; (with_reducible refine (eddyref18_Can.calls k _ _ l0 a2 false _ ?side1 ?side2 A4.out).mono ?_); (case side1 => repeat (first | exact HR0.out | (with_reducible refine Kd.C_alloc ?_ _) | (with_reducible refine Kd.C_drewN ?_ _) | (with_reducible refine Kd.C_drew ?_))); (case side2 => exact HC0.out); rintro e w32 ⟨rfl, hb⟩; refine ⟨_, rfl, ?_⟩; have n0_ := Aside0.mk (below_step (by repeat (first | (with_reducible first | exact HB.out | apply below_alloc | apply pw_below_drewN | apply below_drew1) | exact HB.out)) hb); clear HB; have HB := n0_; clear n0_; (try clear hb); (try clear hb2); (try clear hk); (try clear hi)))
    go_ret2
    exact ⟨_, by first | rfl | (simp [errW_none, errW_some] <;> rfl) | (simp [*, errW_none, errW_some] <;> rfl), by first | exact Kd.R_nil _ _ _ _ _ | exact Kd.N_nil _ _ _ _ _ | exact Kd.V_nil _ _ _ _ _ | exact Kd.Q_nil _ _ _ _ _ | exact Kd.S_nil _ _ _ _ _, by repeat (first | (with_reducible first | exact HB.out | apply below_alloc | apply pw_below_drewN | apply below_drew1) | exact HB.out)⟩

/-! ### eddylaw18_sameInts: function 18 -/
def eddylaw18_sameInts.l0 : Nat → List Int → List Int → Int → Option (Bool)
  | 0, _, _, _ => none
  | k + 1, x0, x1, x5 => if x5 < (x0.length : Int) then (if 0 ≤ x5 then (if x5 < (x1.length : Int) then (if (rd x0 x5) = (rd x1 x5) then (eddylaw18_sameInts.l0 k x0 x1 (wrap64 (x5 + 1))) else (some false)) else (none)) else (none)) else (some true)
def eddylaw18_sameInts.f (k : Nat) (l0 : List Int) (l1 : List Int) : Option (Bool) := if (l0.length : Int) = (l1.length : Int) then (eddylaw18_sameInts.l0 k l0 l1 0) else (some false)
theorem eddylaw18_sameInts.mono_l : ∀ k, (∀ y0 y1 y2, LeO (eddylaw18_sameInts.l0 k y0 y1 y2) (eddylaw18_sameInts.l0 (k + 1) y0 y1 y2))
  | 0 => fun _ _ _ r h => by simp [eddylaw18_sameInts.l0] at h
  | k + 1 => by
    have ih0 := eddylaw18_sameInts.mono_l k
    · intro y0 y1 y2
      unfold eddylaw18_sameInts.l0
      repeat' first
      | (with_reducible exact ih0 _ _ _)
      | (with_reducible exact LeO.refl _)
      | (with_reducible exact LeO.none _)
      | (with_reducible refine LeO.ite ?_ ?_)
      | (with_reducible refine LeO.bind ?_ (fun _ => ?_))
      | exact ih0 _ _ _
      | exact LeO.none _
      | refine LeO.ite ?_ ?_
      | refine LeO.bind ?_ (fun _ => ?_)
theorem eddylaw18_sameInts.mono : ∀ a0 a1 k, LeO (eddylaw18_sameInts.f k a0 a1) (eddylaw18_sameInts.f (k + 1) a0 a1) := by
  intro a0 a1 k
  have ih0 := eddylaw18_sameInts.mono_l k
  unfold eddylaw18_sameInts.f
  repeat' first
      | (with_reducible exact ih0 _ _ _)
      | (with_reducible exact LeO.refl _)
      | (with_reducible exact LeO.none _)
      | (with_reducible refine LeO.ite ?_ ?_)
      | (with_reducible refine LeO.bind ?_ (fun _ => ?_))
      | exact ih0 _ _ _
      | exact LeO.none _
      | refine LeO.ite ?_ ?_
      | refine LeO.bind ?_ (fun _ => ?_)
set_option maxHeartbeats 8000000 in
set_option maxRecDepth 100000 in
theorem eddylaw18_sameInts.calls (k : Nat) (A0 : Option Addr) (c0 : Nat) (l0 : List Int) (A1 : Option Addr) (c1 : Nat) (l1 : List Int) (r : Bool) (w : World) (hr0 : Kd.C (Kd.int .i64) w A0 l0.length l0) (hc0 : l0.length ≤ c0) (hr1 : Kd.C (Kd.int .i64) w A1 l1.length l1) (hc1 : l1.length ≤ c1) (h : eddylaw18_sameInts.f k l0 l1 = some r) :
    Calls Try.prog 18 #[.slice A0 l0.length c0, .slice A1 l1.length c1] w fun e w' => e = .returned (.bool r) ∧ Drawn0 w w' := by
  have HR0 := Aside0.mk hr0
  have HC0 := Aside0.mk hc0
  clear hr0 hc0
  have HR1 := Aside0.mk hr1
  have HC1 := Aside0.mk hc1
  clear hr1 hc1
  have H : (if (l0.length : Int) = (l1.length : Int) then (eddylaw18_sameInts.l0 k l0 l1 0) else (some false)) = some r := h
  clear h
  by_cases c3 : (l0.length : Int) = (l1.length : Int)
  · rw [if_pos c3] at H
    have c3b0 : ((l0.length : Int) == (l1.length : Int)) = true := beq_iff_eq.mpr c3
    have c3b1 : ((l0.length : Int) != (l1.length : Int)) = false := bne_eq_false_iff_eq.mpr c3
    have c3b2 : (l0.length == l1.length) = true := by first | simpa using c3 | (simp at c3 ⊢; omega)
    clear c3
    have H' := Aside0.mk H
    clear H
    go_enter Try.func18, Try.ntmps18
    go_wp2
    repeat (go_quiet (fail); try go_wp2)
    go_loopg [5] k (fun kq v5 w' => ∃ (x5_1 : Int), v5 = .int .i64 x5_1 ∧ Aside0 (eddylaw18_sameInts.l0 kq l0 l1 x5_1 = some r) ∧ Aside0 (kq ≤ k) ∧ Drawn0 w w')
    case atStart => exact ⟨(0), (by first | rfl | (simp; done) | (simp [*]; done)), H', ⟨Nat.le_refl _⟩, by repeat (first | exact Drawn0.refl _ | apply Drawn0.step)⟩
    case round =>
      clear H'
      try clear c1
      try clear p2
      try clear c3
      try clear c3b0
      try clear c3b1
      try clear c3b2
      obtain ⟨x5_1, rfl, HA, HK1, ⟨m1, rfl⟩⟩ := hrel
      cases gk with
      | zero => exact absurd HA.out (by simp [eddylaw18_sameInts.l0])
      | succ k1 =>
        have H := HA.out
        clear HA
        simp only [eddylaw18_sameInts.l0] at H
        by_cases c4 : x5_1 < (l0.length : Int)
        · rw [if_pos c4] at H
          have c4b0 : decide (x5_1 < (l0.length : Int)) = true := decide_eq_true c4
          clear c4
          by_cases c5 : 0 ≤ x5_1
          · rw [if_pos c5] at H
            have c5b0 : decide (0 ≤ x5_1) = true := decide_eq_true c5
            clear c5
            by_cases c6 : x5_1 < (l1.length : Int)
            · rw [if_pos c6] at H
              have c6b0 : decide (x5_1 < (l1.length : Int)) = true := decide_eq_true c6
              clear c6
              by_cases c7 : (rd l0 x5_1) = (rd l1 x5_1)
              · rw [if_pos c7] at H
                have c7b0 : ((rd l0 x5_1) == (rd l1 x5_1)) = true := beq_iff_eq.mpr c7
                have c7b1 : ((rd l0 x5_1) != (rd l1 x5_1)) = false := bne_eq_false_iff_eq.mpr c7
                clear c7
                have H' := Aside0.mk H
                clear H
                have p162 : 0 ≤ (x5_1 : Int) := of_decide_eq_true (by first | (with_reducible assumption) | assumption)
                have q162 : x5_1 < (l0.length : Int) := of_decide_eq_true (by first | (with_reducible assumption) | assumption)
                obtain ⟨ad162, e162, hx162_0⟩ := Kd.at_int HR0.out x5_1 p162 q162
                cases e162
                replace p162 := eq_true p162
                replace q162 := eq_true q162
                have p163 : 0 ≤ (x5_1 : Int) := of_decide_eq_true (by first | (with_reducible assumption) | assumption)
                have q163 : x5_1 < (l1.length : Int) := of_decide_eq_true (by first | (with_reducible assumption) | assumption)
                obtain ⟨ad163, e163, hx163_0⟩ := Kd.at_int HR1.out x5_1 p163 q163
                cases e163
                replace p163 := eq_true p163
                replace q163 := eq_true q163
                go_wp2
                repeat (go_quiet (fail); try go_wp2)
                go_roundg k1
                case measure => have := HK1.out; omega
                case rel => exact ⟨(wrap64 (x5_1 + 1)), (by first | rfl | (simp; done) | (simp [*]; done)), H', ⟨by have := HK1.out; omega⟩, by repeat (first | exact Drawn0.refl _ | apply Drawn0.step)⟩
              · rw [if_neg c7] at H
                have c7b0 : ((rd l0 x5_1) == (rd l1 x5_1)) = false := beq_eq_false_iff_ne.mpr c7
                have c7b1 : ((rd l0 x5_1) != (rd l1 x5_1)) = true := bne_iff_ne.mpr c7
                obtain rfl := Option.some.inj H
                have p162 : 0 ≤ (x5_1 : Int) := of_decide_eq_true (by first | (with_reducible assumption) | assumption)
                have q162 : x5_1 < (l0.length : Int) := of_decide_eq_true (by first | (with_reducible assumption) | assumption)
                obtain ⟨ad162, e162, hx162_0⟩ := Kd.at_int HR0.out x5_1 p162 q162
                cases e162
                replace p162 := eq_true p162
                replace q162 := eq_true q162
                have p163 : 0 ≤ (x5_1 : Int) := of_decide_eq_true (by first | (with_reducible assumption) | assumption)
                have q163 : x5_1 < (l1.length : Int) := of_decide_eq_true (by first | (with_reducible assumption) | assumption)
                obtain ⟨ad163, e163, hx163_0⟩ := Kd.at_int HR1.out x5_1 p163 q163
                cases e163
                replace p163 := eq_true p163
                replace q163 := eq_true q163
                go_wp2
                repeat (go_quiet (fail); try go_wp2)
                go_ret
                exact ⟨by first | rfl | (simp; done) | (simp [*]; done), by repeat (first | exact Drawn0.refl _ | apply Drawn0.step)⟩
            · rw [if_neg c6] at H
              exact absurd H (by simp)
          · rw [if_neg c5] at H
            exact absurd H (by simp)
        · rw [if_neg c4] at H
          have c4b0 : decide (x5_1 < (l0.length : Int)) = false := decide_eq_false c4
          clear c4
          obtain rfl := Option.some.inj H
          go_wp2
          repeat (go_quiet (fail); try go_wp2)
          go_ret
          exact ⟨by first | rfl | (simp; done) | (simp [*]; done), by repeat (first | exact Drawn0.refl _ | apply Drawn0.step)⟩
  · rw [if_neg c3] at H
    have c3b0 : ((l0.length : Int) == (l1.length : Int)) = false := beq_eq_false_iff_ne.mpr c3
    have c3b1 : ((l0.length : Int) != (l1.length : Int)) = true := bne_iff_ne.mpr c3
    have c3b2 : (l0.length == l1.length) = false := by first | simpa using c3 | (simp at c3 ⊢; omega)
    obtain rfl := Option.some.inj H
    go_enter Try.func18, Try.ntmps18
    go_wp2
    repeat (go_quiet (fail); try go_wp2)
    go_ret
    exact ⟨by first | rfl | (simp; done) | (simp [*]; done), by repeat (first | exact Drawn0.refl _ | apply Drawn0.step)⟩

-- NOT PRINTED: function 9 (eddylaw18_WitnessPath)
end Go.Proofs.Ytammigfckdgljaa.PWitnessSplit
