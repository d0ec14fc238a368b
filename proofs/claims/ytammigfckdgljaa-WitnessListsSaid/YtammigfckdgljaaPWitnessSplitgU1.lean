import Derived.Test.YtammigfckdgljaaPWitnessSplitq7
import Derived.Test.YtammigfckdgljaaPWitnessSplitx5
namespace Go.Proofs.Ytammigfckdgljaa.PWitnessSplit
open Go.RowKit Go.Proofs.YtammigfckdgljaaW.PrintWords Go.Proofs.YtammigfckdgljaaW.PrintLast Go.Proofs.YtammigfckdgljaaW.PrintMore
attribute [local go_sem] max2_int min2_int max_two min_two max_three min_three max_four min_four
set_option linter.unusedVariables false
set_option linter.unusedSimpArgs false

attribute [local go_sem high] eqA48

/-! ### eddylaw18_life: function 22 -/
def eddylaw18_life.l0 : Nat → List (S46) → Int → Int → Int → Int → Bool → Int → Option (Int × Int)
  | 0, _, _, _, _, _, _, _ => none
  | k + 1, x0, x1, x6, x7, x8, x9, x10 => if x10 < (x0.length : Int) then (if 0 ≤ x10 then (if ((rd_T46 x0 x10).f0) = 11 then (if ((rd_T46 x0 x10).f0) = 6 then (if ((rd_T46 x0 x10).f3) = x1 then (eddylaw18_life.l0 k x0 x1 (wrap64 (x10 + 1)) (wrap64 (x10 + 1)) x10 false (wrap64 (x10 + 1))) else (eddylaw18_life.l0 k x0 x1 (wrap64 (x10 + 1)) x7 x8 true (wrap64 (x10 + 1)))) else (eddylaw18_life.l0 k x0 x1 (wrap64 (x10 + 1)) x7 x8 true (wrap64 (x10 + 1)))) else (if ((rd_T46 x0 x10).f0) = 6 then (if ((rd_T46 x0 x10).f3) = x1 then (if x9 = true then (eddylaw18_life.l0 k x0 x1 x6 x6 x10 false (wrap64 (x10 + 1))) else (eddylaw18_life.l0 k x0 x1 x6 x7 x8 x9 (wrap64 (x10 + 1)))) else (eddylaw18_life.l0 k x0 x1 x6 x7 x8 x9 (wrap64 (x10 + 1)))) else (eddylaw18_life.l0 k x0 x1 x6 x7 x8 x9 (wrap64 (x10 + 1))))) else (none)) else (some (x7, x8))
def eddylaw18_life.f (k : Nat) (l0 : List (S46)) (a1 : Int) : Option (Int × Int) := eddylaw18_life.l0 k l0 a1 0 (-1) (-1) true 0
theorem eddylaw18_life.mono_l : ∀ k, (∀ y0 y1 y2 y3 y4 y5 y6, LeO (eddylaw18_life.l0 k y0 y1 y2 y3 y4 y5 y6) (eddylaw18_life.l0 (k + 1) y0 y1 y2 y3 y4 y5 y6))
  | 0 => fun _ _ _ _ _ _ _ r h => by simp [eddylaw18_life.l0] at h
  | k + 1 => by
    have ih0 := eddylaw18_life.mono_l k
    · intro y0 y1 y2 y3 y4 y5 y6
      unfold eddylaw18_life.l0
      repeat' first
      | (with_reducible exact ih0 _ _ _ _ _ _ _)
      | (with_reducible exact LeO.refl _)
      | (with_reducible exact LeO.none _)
      | (with_reducible refine LeO.ite ?_ ?_)
      | (with_reducible refine LeO.bind ?_ (fun _ => ?_))
      | exact ih0 _ _ _ _ _ _ _
      | exact LeO.none _
      | refine LeO.ite ?_ ?_
      | refine LeO.bind ?_ (fun _ => ?_)
theorem eddylaw18_life.mono : ∀ a0 a1 k, LeO (eddylaw18_life.f k a0 a1) (eddylaw18_life.f (k + 1) a0 a1) := by
  intro a0 a1 k
  have ih0 := eddylaw18_life.mono_l k
  unfold eddylaw18_life.f
  repeat' first
      | (with_reducible exact ih0 _ _ _ _ _ _ _)
      | (with_reducible exact LeO.refl _)
      | (with_reducible exact LeO.none _)
      | (with_reducible refine LeO.ite ?_ ?_)
      | (with_reducible refine LeO.bind ?_ (fun _ => ?_))
      | exact ih0 _ _ _ _ _ _ _
      | exact LeO.none _
      | refine LeO.ite ?_ ?_
      | refine LeO.bind ?_ (fun _ => ?_)
set_option maxHeartbeats 8000000 in
set_option maxRecDepth 100000 in
theorem eddylaw18_life.calls (k : Nat) (A0 : Option Addr) (c0 : Nat) (l0 : List (S46)) (a1 : Int) (r1 : Int) (r2 : Int) (w : World) (hr0 : Kd.C k46 w A0 l0.length l0) (hc0 : l0.length ≤ c0) (h : eddylaw18_life.f k l0 a1 = some (r1, r2)) :
    Calls Try.prog 22 #[.slice A0 l0.length c0, .int .i64 a1] w fun e w' => e = .returned (.tuple #[.int .i64 r1, .int .i64 r2]) ∧ Drawn0 w w' := by
  have HR0 := Aside0.mk hr0
  have HC0 := Aside0.mk hc0
  clear hr0 hc0
  have H : (eddylaw18_life.l0 k l0 a1 0 (-1) (-1) true 0) = some (r1, r2) := h
  clear h
  have H' := Aside0.mk H
  clear H
  go_enter Try.func22, Try.ntmps22
  go_wp2
  go_loopg [6, 7, 8, 9, 10] k (fun kq v6 v7 v8 v9 v10 w' => ∃ (x6_1 : Int) (x7_1 : Int) (x8_1 : Int) (x9_1 : Bool) (x10_1 : Int), v6 = .int .i64 x6_1 ∧ v7 = .int .i64 x7_1 ∧ v8 = .int .i64 x8_1 ∧ v9 = .bool x9_1 ∧ v10 = .int .i64 x10_1 ∧ Aside0 (eddylaw18_life.l0 kq l0 a1 x6_1 x7_1 x8_1 x9_1 x10_1 = some (r1, r2)) ∧ Aside0 (kq ≤ k) ∧ Drawn0 w w')
  case atStart => exact ⟨(0), ((-1)), ((-1)), (true), (0), (by first | rfl | (simp; done) | (simp [*]; done)), (by first | rfl | (simp; done) | (simp [*]; done)), (by first | rfl | (simp; done) | (simp [*]; done)), (by first | rfl | (simp; done) | (simp [*]; done)), (by first | rfl | (simp; done) | (simp [*]; done)), H', ⟨Nat.le_refl _⟩, by repeat (first | exact Drawn0.refl _ | apply Drawn0.step)⟩
  case round =>
    clear H'
    try clear c2
    try clear p2
    obtain ⟨x6_1, x7_1, x8_1, x9_1, x10_1, rfl, rfl, rfl, rfl, rfl, HA, HK1, ⟨m1, rfl⟩⟩ := hrel
    cases gk with
    | zero => exact absurd HA.out (by simp [eddylaw18_life.l0])
    | succ k1 =>
      have H := HA.out
      clear HA
      simp only [eddylaw18_life.l0] at H
      by_cases c3 : x10_1 < (l0.length : Int)
      · rw [if_pos c3] at H
        have c3b0 : decide (x10_1 < (l0.length : Int)) = true := decide_eq_true c3
        clear c3
        by_cases c4 : 0 ≤ x10_1
        · rw [if_pos c4] at H
          have c4b0 : decide (0 ≤ x10_1) = true := decide_eq_true c4
          clear c4
          by_cases c5 : ((rd_T46 l0 x10_1).f0) = 11
          · rw [if_pos c5] at H
            have c5b0 : (((rd_T46 l0 x10_1).f0) == 11) = true := beq_iff_eq.mpr c5
            have c5b1 : (((rd_T46 l0 x10_1).f0) != 11) = false := bne_eq_false_iff_eq.mpr c5
            clear c5
            by_cases c6 : ((rd_T46 l0 x10_1).f0) = 6
            · rw [if_pos c6] at H
              have c6b0 : (((rd_T46 l0 x10_1).f0) == 6) = true := beq_iff_eq.mpr c6
              have c6b1 : (((rd_T46 l0 x10_1).f0) != 6) = false := bne_eq_false_iff_eq.mpr c6
              clear c6
              by_cases c7 : ((rd_T46 l0 x10_1).f3) = a1
              · rw [if_pos c7] at H
                have c7b0 : (((rd_T46 l0 x10_1).f3) == a1) = true := beq_iff_eq.mpr c7
                have c7b1 : (((rd_T46 l0 x10_1).f3) != a1) = false := bne_eq_false_iff_eq.mpr c7
                clear c7
                have H' := Aside0.mk H
                clear H
                have p142 : 0 ≤ (x10_1 : Int) := of_decide_eq_true (by first | (with_reducible assumption) | assumption)
                have q142 : x10_1 < (l0.length : Int) := of_decide_eq_true (by first | (with_reducible assumption) | assumption)
                obtain ⟨ad142, e142, hx142_0, hx142_1, hx142_2, hx142_3⟩ := at_T46 HR0.out x10_1 p142 q142
                cases e142
                replace p142 := eq_true p142
                replace q142 := eq_true q142
                have p143 : 0 ≤ (x10_1 : Int) := of_decide_eq_true (by first | (with_reducible assumption) | assumption)
                have q143 : x10_1 < (l0.length : Int) := of_decide_eq_true (by first | (with_reducible assumption) | assumption)
                obtain ⟨ad143, e143, hx143_0, hx143_1, hx143_2, hx143_3⟩ := at_T46 HR0.out x10_1 p143 q143
                obtain rfl : ad142 = ad143 := (by injection e143)
                replace p143 := eq_true p143
                replace q143 := eq_true q143
                have p144 : 0 ≤ (x10_1 : Int) := of_decide_eq_true (by first | (with_reducible assumption) | assumption)
                have q144 : x10_1 < (l0.length : Int) := of_decide_eq_true (by first | (with_reducible assumption) | assumption)
                obtain ⟨ad144, e144, hx144_0, hx144_1, hx144_2, hx144_3⟩ := at_T46 HR0.out x10_1 p144 q144
                obtain rfl : ad142 = ad144 := (by injection e144)
                replace p144 := eq_true p144
                replace q144 := eq_true q144
                go_wp2
                go_roundg k1
                case measure => have := HK1.out; omega
                case rel => exact ⟨(wrap64 (x10_1 + 1)), (wrap64 (x10_1 + 1)), (x10_1), (false), (wrap64 (x10_1 + 1)), (by first | rfl | (simp; done) | (simp [*]; done)), (by first | rfl | (simp; done) | (simp [*]; done)), (by first | rfl | (simp; done) | (simp [*]; done)), (by first | rfl | (simp; done) | (simp [*]; done)), (by first | rfl | (simp; done) | (simp [*]; done)), H', ⟨by have := HK1.out; omega⟩, by repeat (first | exact Drawn0.refl _ | apply Drawn0.step)⟩
              · rw [if_neg c7] at H
                have c7b0 : (((rd_T46 l0 x10_1).f3) == a1) = false := beq_eq_false_iff_ne.mpr c7
                have c7b1 : (((rd_T46 l0 x10_1).f3) != a1) = true := bne_iff_ne.mpr c7
                have H' := Aside0.mk H
                clear H
                have p142 : 0 ≤ (x10_1 : Int) := of_decide_eq_true (by first | (with_reducible assumption) | assumption)
                have q142 : x10_1 < (l0.length : Int) := of_decide_eq_true (by first | (with_reducible assumption) | assumption)
                obtain ⟨ad142, e142, hx142_0, hx142_1, hx142_2, hx142_3⟩ := at_T46 HR0.out x10_1 p142 q142
                cases e142
                replace p142 := eq_true p142
                replace q142 := eq_true q142
                have p143 : 0 ≤ (x10_1 : Int) := of_decide_eq_true (by first | (with_reducible assumption) | assumption)
                have q143 : x10_1 < (l0.length : Int) := of_decide_eq_true (by first | (with_reducible assumption) | assumption)
                obtain ⟨ad143, e143, hx143_0, hx143_1, hx143_2, hx143_3⟩ := at_T46 HR0.out x10_1 p143 q143
                obtain rfl : ad142 = ad143 := (by injection e143)
                replace p143 := eq_true p143
                replace q143 := eq_true q143
                have p144 : 0 ≤ (x10_1 : Int) := of_decide_eq_true (by first | (with_reducible assumption) | assumption)
                have q144 : x10_1 < (l0.length : Int) := of_decide_eq_true (by first | (with_reducible assumption) | assumption)
                obtain ⟨ad144, e144, hx144_0, hx144_1, hx144_2, hx144_3⟩ := at_T46 HR0.out x10_1 p144 q144
                obtain rfl : ad142 = ad144 := (by injection e144)
                replace p144 := eq_true p144
                replace q144 := eq_true q144
                go_wp2
                go_roundg k1
                case measure => have := HK1.out; omega
                case rel => exact ⟨(wrap64 (x10_1 + 1)), (x7_1), (x8_1), (true), (wrap64 (x10_1 + 1)), (by first | rfl | (simp; done) | (simp [*]; done)), (by first | rfl | (simp; done) | (simp [*]; done)), (by first | rfl | (simp; done) | (simp [*]; done)), (by first | rfl | (simp; done) | (simp [*]; done)), (by first | rfl | (simp; done) | (simp [*]; done)), H', ⟨by have := HK1.out; omega⟩, by repeat (first | exact Drawn0.refl _ | apply Drawn0.step)⟩
            · rw [if_neg c6] at H
              have c6b0 : (((rd_T46 l0 x10_1).f0) == 6) = false := beq_eq_false_iff_ne.mpr c6
              have c6b1 : (((rd_T46 l0 x10_1).f0) != 6) = true := bne_iff_ne.mpr c6
              have H' := Aside0.mk H
              clear H
              have p142 : 0 ≤ (x10_1 : Int) := of_decide_eq_true (by first | (with_reducible assumption) | assumption)
              have q142 : x10_1 < (l0.length : Int) := of_decide_eq_true (by first | (with_reducible assumption) | assumption)
              obtain ⟨ad142, e142, hx142_0, hx142_1, hx142_2, hx142_3⟩ := at_T46 HR0.out x10_1 p142 q142
              cases e142
              replace p142 := eq_true p142
              replace q142 := eq_true q142
              have p143 : 0 ≤ (x10_1 : Int) := of_decide_eq_true (by first | (with_reducible assumption) | assumption)
              have q143 : x10_1 < (l0.length : Int) := of_decide_eq_true (by first | (with_reducible assumption) | assumption)
              obtain ⟨ad143, e143, hx143_0, hx143_1, hx143_2, hx143_3⟩ := at_T46 HR0.out x10_1 p143 q143
              obtain rfl : ad142 = ad143 := (by injection e143)
              replace p143 := eq_true p143
              replace q143 := eq_true q143
              go_wp2
              go_roundg k1
              case measure => have := HK1.out; omega
              case rel => exact ⟨(wrap64 (x10_1 + 1)), (x7_1), (x8_1), (true), (wrap64 (x10_1 + 1)), (by first | rfl | (simp; done) | (simp [*]; done)), (by first | rfl | (simp; done) | (simp [*]; done)), (by first | rfl | (simp; done) | (simp [*]; done)), (by first | rfl | (simp; done) | (simp [*]; done)), (by first | rfl | (simp; done) | (simp [*]; done)), H', ⟨by have := HK1.out; omega⟩, by repeat (first | exact Drawn0.refl _ | apply Drawn0.step)⟩
          · rw [if_neg c5] at H
            have c5b0 : (((rd_T46 l0 x10_1).f0) == 11) = false := beq_eq_false_iff_ne.mpr c5
            have c5b1 : (((rd_T46 l0 x10_1).f0) != 11) = true := bne_iff_ne.mpr c5
            by_cases c8 : ((rd_T46 l0 x10_1).f0) = 6
            · rw [if_pos c8] at H
              have c8b0 : (((rd_T46 l0 x10_1).f0) == 6) = true := beq_iff_eq.mpr c8
              have c8b1 : (((rd_T46 l0 x10_1).f0) != 6) = false := bne_eq_false_iff_eq.mpr c8
              clear c8
              by_cases c9 : ((rd_T46 l0 x10_1).f3) = a1
              · rw [if_pos c9] at H
                have c9b0 : (((rd_T46 l0 x10_1).f3) == a1) = true := beq_iff_eq.mpr c9
                have c9b1 : (((rd_T46 l0 x10_1).f3) != a1) = false := bne_eq_false_iff_eq.mpr c9
                clear c9
                by_cases c10 : x9_1 = true
                · subst c10
                  have H1 : (eddylaw18_life.l0 k1 l0 a1 x6_1 x6_1 x10_1 false (wrap64 (x10_1 + 1))) = some (r1, r2) := by rw [if_pos rfl] at H; exact H
                  clear H
                  have H := H1
                  clear H1
                  have H' := Aside0.mk H
                  clear H
                  have p142 : 0 ≤ (x10_1 : Int) := of_decide_eq_true (by first | (with_reducible assumption) | assumption)
                  have q142 : x10_1 < (l0.length : Int) := of_decide_eq_true (by first | (with_reducible assumption) | assumption)
                  obtain ⟨ad142, e142, hx142_0, hx142_1, hx142_2, hx142_3⟩ := at_T46 HR0.out x10_1 p142 q142
                  cases e142
                  replace p142 := eq_true p142
                  replace q142 := eq_true q142
                  have p145 : 0 ≤ (x10_1 : Int) := of_decide_eq_true (by first | (with_reducible assumption) | assumption)
                  have q145 : x10_1 < (l0.length : Int) := of_decide_eq_true (by first | (with_reducible assumption) | assumption)
                  obtain ⟨ad145, e145, hx145_0, hx145_1, hx145_2, hx145_3⟩ := at_T46 HR0.out x10_1 p145 q145
                  obtain rfl : ad142 = ad145 := (by injection e145)
                  replace p145 := eq_true p145
                  replace q145 := eq_true q145
                  have p146 : 0 ≤ (x10_1 : Int) := of_decide_eq_true (by first | (with_reducible assumption) | assumption)
                  have q146 : x10_1 < (l0.length : Int) := of_decide_eq_true (by first | (with_reducible assumption) | assumption)
                  obtain ⟨ad146, e146, hx146_0, hx146_1, hx146_2, hx146_3⟩ := at_T46 HR0.out x10_1 p146 q146
                  obtain rfl : ad142 = ad146 := (by injection e146)
                  replace p146 := eq_true p146
                  replace q146 := eq_true q146
                  go_wp2
                  go_roundg k1
                  case measure => have := HK1.out; omega
                  case rel => exact ⟨(x6_1), (x6_1), (x10_1), (false), (wrap64 (x10_1 + 1)), (by first | rfl | (simp; done) | (simp [*]; done)), (by first | rfl | (simp; done) | (simp [*]; done)), (by first | rfl | (simp; done) | (simp [*]; done)), (by first | rfl | (simp; done) | (simp [*]; done)), (by first | rfl | (simp; done) | (simp [*]; done)), H', ⟨by have := HK1.out; omega⟩, by repeat (first | exact Drawn0.refl _ | apply Drawn0.step)⟩
                · replace c10 := Bool.eq_false_iff.mpr c10
                  subst c10
                  have H1 : (eddylaw18_life.l0 k1 l0 a1 x6_1 x7_1 x8_1 false (wrap64 (x10_1 + 1))) = some (r1, r2) := by rw [if_neg (show ¬ (false = true) by decide)] at H; exact H
                  clear H
                  have H := H1
                  clear H1
                  have H' := Aside0.mk H
                  clear H
                  have p142 : 0 ≤ (x10_1 : Int) := of_decide_eq_true (by first | (with_reducible assumption) | assumption)
                  have q142 : x10_1 < (l0.length : Int) := of_decide_eq_true (by first | (with_reducible assumption) | assumption)
                  obtain ⟨ad142, e142, hx142_0, hx142_1, hx142_2, hx142_3⟩ := at_T46 HR0.out x10_1 p142 q142
                  cases e142
                  replace p142 := eq_true p142
                  replace q142 := eq_true q142
                  have p145 : 0 ≤ (x10_1 : Int) := of_decide_eq_true (by first | (with_reducible assumption) | assumption)
                  have q145 : x10_1 < (l0.length : Int) := of_decide_eq_true (by first | (with_reducible assumption) | assumption)
                  obtain ⟨ad145, e145, hx145_0, hx145_1, hx145_2, hx145_3⟩ := at_T46 HR0.out x10_1 p145 q145
                  obtain rfl : ad142 = ad145 := (by injection e145)
                  replace p145 := eq_true p145
                  replace q145 := eq_true q145
                  have p146 : 0 ≤ (x10_1 : Int) := of_decide_eq_true (by first | (with_reducible assumption) | assumption)
                  have q146 : x10_1 < (l0.length : Int) := of_decide_eq_true (by first | (with_reducible assumption) | assumption)
                  obtain ⟨ad146, e146, hx146_0, hx146_1, hx146_2, hx146_3⟩ := at_T46 HR0.out x10_1 p146 q146
                  obtain rfl : ad142 = ad146 := (by injection e146)
                  replace p146 := eq_true p146
                  replace q146 := eq_true q146
                  go_wp2
                  go_roundg k1
                  case measure => have := HK1.out; omega
                  case rel => exact ⟨(x6_1), (x7_1), (x8_1), (false), (wrap64 (x10_1 + 1)), (by first | rfl | (simp; done) | (simp [*]; done)), (by first | rfl | (simp; done) | (simp [*]; done)), (by first | rfl | (simp; done) | (simp [*]; done)), (by first | rfl | (simp; done) | (simp [*]; done)), (by first | rfl | (simp; done) | (simp [*]; done)), H', ⟨by have := HK1.out; omega⟩, by repeat (first | exact Drawn0.refl _ | apply Drawn0.step)⟩
              · rw [if_neg c9] at H
                have c9b0 : (((rd_T46 l0 x10_1).f3) == a1) = false := beq_eq_false_iff_ne.mpr c9
                have c9b1 : (((rd_T46 l0 x10_1).f3) != a1) = true := bne_iff_ne.mpr c9
                have H' := Aside0.mk H
                clear H
                have p142 : 0 ≤ (x10_1 : Int) := of_decide_eq_true (by first | (with_reducible assumption) | assumption)
                have q142 : x10_1 < (l0.length : Int) := of_decide_eq_true (by first | (with_reducible assumption) | assumption)
                obtain ⟨ad142, e142, hx142_0, hx142_1, hx142_2, hx142_3⟩ := at_T46 HR0.out x10_1 p142 q142
                cases e142
                replace p142 := eq_true p142
                replace q142 := eq_true q142
                have p145 : 0 ≤ (x10_1 : Int) := of_decide_eq_true (by first | (with_reducible assumption) | assumption)
                have q145 : x10_1 < (l0.length : Int) := of_decide_eq_true (by first | (with_reducible assumption) | assumption)
                obtain ⟨ad145, e145, hx145_0, hx145_1, hx145_2, hx145_3⟩ := at_T46 HR0.out x10_1 p145 q145
                obtain rfl : ad142 = ad145 := (by injection e145)
                replace p145 := eq_true p145
                replace q145 := eq_true q145
                have p146 : 0 ≤ (x10_1 : Int) := of_decide_eq_true (by first | (with_reducible assumption) | assumption)
                have q146 : x10_1 < (l0.length : Int) := of_decide_eq_true (by first | (with_reducible assumption) | assumption)
                obtain ⟨ad146, e146, hx146_0, hx146_1, hx146_2, hx146_3⟩ := at_T46 HR0.out x10_1 p146 q146
                obtain rfl : ad142 = ad146 := (by injection e146)
                replace p146 := eq_true p146
                replace q146 := eq_true q146
                go_wp2
                go_roundg k1
                case measure => have := HK1.out; omega
                case rel => exact ⟨(x6_1), (x7_1), (x8_1), (x9_1), (wrap64 (x10_1 + 1)), (by first | rfl | (simp; done) | (simp [*]; done)), (by first | rfl | (simp; done) | (simp [*]; done)), (by first | rfl | (simp; done) | (simp [*]; done)), (by first | rfl | (simp; done) | (simp [*]; done)), (by first | rfl | (simp; done) | (simp [*]; done)), H', ⟨by have := HK1.out; omega⟩, by repeat (first | exact Drawn0.refl _ | apply Drawn0.step)⟩
            · rw [if_neg c8] at H
              have c8b0 : (((rd_T46 l0 x10_1).f0) == 6) = false := beq_eq_false_iff_ne.mpr c8
              have c8b1 : (((rd_T46 l0 x10_1).f0) != 6) = true := bne_iff_ne.mpr c8
              have H' := Aside0.mk H
              clear H
              have p142 : 0 ≤ (x10_1 : Int) := of_decide_eq_true (by first | (with_reducible assumption) | assumption)
              have q142 : x10_1 < (l0.length : Int) := of_decide_eq_true (by first | (with_reducible assumption) | assumption)
              obtain ⟨ad142, e142, hx142_0, hx142_1, hx142_2, hx142_3⟩ := at_T46 HR0.out x10_1 p142 q142
              cases e142
              replace p142 := eq_true p142
              replace q142 := eq_true q142
              have p145 : 0 ≤ (x10_1 : Int) := of_decide_eq_true (by first | (with_reducible assumption) | assumption)
              have q145 : x10_1 < (l0.length : Int) := of_decide_eq_true (by first | (with_reducible assumption) | assumption)
              obtain ⟨ad145, e145, hx145_0, hx145_1, hx145_2, hx145_3⟩ := at_T46 HR0.out x10_1 p145 q145
              obtain rfl : ad142 = ad145 := (by injection e145)
              replace p145 := eq_true p145
              replace q145 := eq_true q145
              go_wp2
              go_roundg k1
              case measure => have := HK1.out; omega
              case rel => exact ⟨(x6_1), (x7_1), (x8_1), (x9_1), (wrap64 (x10_1 + 1)), (by first | rfl | (simp; done) | (simp [*]; done)), (by first | rfl | (simp; done) | (simp [*]; done)), (by first | rfl | (simp; done) | (simp [*]; done)), (by first | rfl | (simp; done) | (simp [*]; done)), (by first | rfl | (simp; done) | (simp [*]; done)), H', ⟨by have := HK1.out; omega⟩, by repeat (first | exact Drawn0.refl _ | apply Drawn0.step)⟩
        · rw [if_neg c4] at H
          exact absurd H (by simp)
      · rw [if_neg c3] at H
        have c3b0 : decide (x10_1 < (l0.length : Int)) = false := decide_eq_false c3
        clear c3
        simp only [Option.some.injEq, Prod.mk.injEq] at H
        obtain ⟨rfl, rfl⟩ := H
        go_wp2
        go_ret2
        exact ⟨by first | rfl | (simp; done) | (simp [*]; done), by repeat (first | exact Drawn0.refl _ | apply Drawn0.step)⟩
end Go.Proofs.Ytammigfckdgljaa.PWitnessSplit
