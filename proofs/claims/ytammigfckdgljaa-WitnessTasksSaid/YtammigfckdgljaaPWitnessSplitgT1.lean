import Derived.Test.YtammigfckdgljaaPWitnessSplitq7
import Derived.Test.YtammigfckdgljaaPWitnessSplitx5
namespace Go.Proofs.Ytammigfckdgljaa.PWitnessSplit
open Go.RowKit Go.Proofs.YtammigfckdgljaaW.PrintWords Go.Proofs.YtammigfckdgljaaW.PrintLast Go.Proofs.YtammigfckdgljaaW.PrintMore
attribute [local go_sem] max2_int min2_int max_two min_two max_three min_three max_four min_four
set_option linter.unusedVariables false
set_option linter.unusedSimpArgs false

attribute [local go_sem high] eqA48

/-! ### eddylaw18_life: function 22 -/
def eddylaw18_life.l0 : Nat → List (S46) → Int → Int → Int → Int → Bool → Int → Option (Int × Int)
  | 0, _, _, _, _, _, _, _ => none
  | k + 1, x0, x1, x6, x7, x8, x9, x10 => if x10 < (x0.length : Int) then (if 0 ≤ x10 then (if ((rd_T46 x0 x10).f0) = 11 then (if ((rd_T46 x0 x10).f0) = 6 then (if ((rd_T46 x0 x10).f3) = x1 then (eddylaw18_life.l0 k x0 x1 (wrap64 (x10 + 1)) (wrap64 (x10 + 1)) x10 false (wrap64 (x10 + 1))) else (eddylaw18_life.l0 k x0 x1 (wrap64 (x10 + 1)) x7 x8 true (wrap64 (x10 + 1)))) else (eddylaw18_life.l0 k x0 x1 (wrap64 (x10 + 1)) x7 x8 true (wrap64 (x10 + 1)))) else (if ((rd_T46 x0 x10).f0) = 6 then (if ((rd_T46 x0 x10).f3) = x1 then (if x9 = true then (eddylaw18_life.l0 k x0 x1 x6 x6 x10 false (wrap64 (x10 + 1))) else (eddylaw18_life.l0 k x0 x1 x6 x7 x8 x9 (wrap64 (x10 + 1)))) else (eddylaw18_life.l0 k x0 x1 x6 x7 x8 x9 (wrap64 (x10 + 1)))) else (eddylaw18_life.l0 k x0 x1 x6 x7 x8 x9 (wrap64 (x10 + 1))))) else (none)) else (some (x7, x8))
def eddylaw18_life.f (k : Nat) (l0 : List (S46)) (a1 : Int) : Option (Int × Int) := eddylaw18_life.l0 k l0 a1 0 (-1) (-1) true 0
theorem eddylaw18_life.mono_l : ∀ k, (∀ y0 y1 y2 y3 y4 y5 y6, LeO (eddylaw18_life.l0 k y0 y1 y2 y3 y4 y5 y6) (eddylaw18_life.l0 (k + 1) y0 y1 y2 y3 y4 y5 y6))
  | 0 => fun _ _ _ _ _ _ _ r h => by simp [eddylaw18_life.l0] at h
  | k + 1 => by
    have ih0 := eddylaw18_life.mono_l k
    · intro y0 y1 y2 y3 y4 y5 y6
      unfold eddylaw18_life.l0
      repeat' first
      | (with_reducible exact ih0 _ _ _ _ _ _ _)
      | (with_reducible exact LeO.refl _)
      | (with_reducible exact LeO.none _)
      | (with_reducible refine LeO.ite ?_ ?_)
      | (with_reducible refine LeO.bind ?_ (fun _ => ?_))
      | exact ih0 _ _ _ _ _ _ _
      | exact LeO.none _
      | refine LeO.ite ?_ ?_
      | refine LeO.bind ?_ (fun _ => ?_)
theorem eddylaw18_life.mono : ∀ a0 a1 k, LeO (eddylaw18_life.f k a0 a1) (eddylaw18_life.f (k + 1) a0 a1) := by
  intro a0 a1 k
  have ih0 := eddylaw18_life.mono_l k
  unfold eddylaw18_life.f
  repeat' first
      | (with_reducible exact ih0 _ _ _ _ _ _ _)
      | (with_reducible exact LeO.refl _)
      | (with_reducible exact LeO.none _)
      | (with_reducible refine LeO.ite ?_ ?_)
      | (with_reducible refine LeO.bind ?_ (fun _ => ?_))
      | exact ih0 _ _ _ _ _ _ _
      | exact LeO.none _
      | refine LeO.ite ?_ ?_
      | refine LeO.bind ?_ (fun _ => ?_)
set_option maxHeartbeats 8000000 in
set_option maxRecDepth 100000 in
theorem eddylaw18_life.calls (k : Nat) (A0 : Option Addr) (c0 : Nat) (l0 : List (S46)) (a1 : Int) (r1 : Int) (r2 : Int) (w : World) (hr0 : Kd.C k46 w A0 l0.length l0) (hc0 : l0.length ≤ c0) (h : eddylaw18_life.f k l0 a1 = some (r1, r2)) :
    Calls Try.prog 22 #[.slice A0 l0.length c0, .int .i64 a1] w fun e w' => e = .returned (.tuple #[.int .i64 r1, .int .i64 r2]) ∧ Drawn0 w w' := by
  have HR0 := Aside0.mk hr0
  have HC0 := Aside0.mk hc0
  clear hr0 hc0
  have H : (eddylaw18_life.l0 k l0 a1 0 (-1) (-1) true 0) = some (r1, r2) := h
  clear h
  have H' := Aside0.mk H
  clear H
  go_enter Try.func22, Try.ntmps22
  go_wp2
  go_loopg [6, 7, 8, 9, 10] k (fun kq v6 v7 v8 v9 v10 w' => ∃ (x6_1 : Int) (x7_1 : Int) (x8_1 : Int) (x9_1 : Bool) (x10_1 : Int), v6 = .int .i64 x6_1 ∧ v7 = .int .i64 x7_1 ∧ v8 = .int .i64 x8_1 ∧ v9 = .bool x9_1 ∧ v10 = .int .i64 x10_1 ∧ Aside0 (eddylaw18_life.l0 kq l0 a1 x6_1 x7_1 x8_1 x9_1 x10_1 = some (r1, r2)) ∧ Aside0 (kq ≤ k) ∧ Drawn0 w w')
  case atStart => exact ⟨(0), ((-1)), ((-1)), (true), (0), (by first | rfl | (simp; done) | (simp [*]; done)), (by first | rfl | (simp; done) | (simp [*]; done)), (by first | rfl | (simp; done) | (simp [*]; done)), (by first | rfl | (simp; done) | (simp [*]; done)), (by first | rfl | (simp; done) | (simp [*]; done)), H', ⟨Nat.le_refl _⟩, by repeat (first | exact Drawn0.refl _ | apply Drawn0.step)⟩
  case round =>
    clear H'
    try clear c2
    try clear p2
    obtain ⟨x6_1, x7_1, x8_1, x9_1, x10_1, rfl, rfl, rfl, rfl, rfl, HA, HK1, ⟨m1, rfl⟩⟩ := hrel
    cases gk with
    | zero => exact absurd HA.out (by simp [eddylaw18_life.l0])
    | succ k1 =>
      have H := HA.out
      clear HA
      simp only [eddylaw18_life.l0] at H
      by_cases c3 : x10_1 < (l0.length : Int)
      · rw [if_pos c3] at H
        have c3b0 : decide (x10_1 < (l0.length : Int)) = true := decide_eq_true c3
        clear c3
        by_cases c4 : 0 ≤ x10_1
        · rw [if_pos c4] at H
          have c4b0 : decide (0 ≤ x10_1) = true := decide_eq_true c4
          clear c4
          by_cases c5 : ((rd_T46 l0 x10_1).f0) = 11
          · rw [if_pos c5] at H
            have c5b0 : (((rd_T46 l0 x10_1).f0) == 11) = true := beq_iff_eq.mpr c5
            have c5b1 : (((rd_T46 l0 x10_1).f0) != 11) = false := bne_eq_false_iff_eq.mpr c5
            clear c5
            by_cases c6 : ((rd_T46 l0 x10_1).f0) = 6
            · rw [if_pos c6] at H
              have c6b0 : (((rd_T46 l0 x10_1).f0) == 6) = true := beq_iff_eq.mpr c6
              have c6b1 : (((rd_T46 l0 x10_1).f0) != 6) = false := bne_eq_false_iff_eq.mpr c6
              clear c6
              by_cases c7 : ((rd_T46 l0 x10_1).f3) = a1
              · rw [if_pos c7] at H
                have c7b0 : (((rd_T46 l0 x10_1).f3) == a1) = true := beq_iff_eq.mpr c7
                have c7b1 : (((rd_T46 l0 x10_1).f3) != a1) = false := bne_eq_false_iff_eq.mpr c7
                clear c7
                have H' := Aside0.mk H
                clear H
                have p142 : 0 ≤ (x10_1 : Int) := of_decide_eq_true (by first | (with_reducible assumption) | assumption)
                have q142 : x10_1 < (l0.length : Int) := of_decide_eq_true (by first | (with_reducible assumption) | assumption)
                obtain ⟨ad142, e142, hx142_0, hx142_1, hx142_2, hx142_3⟩ := at_T46 HR0.out x10_1 p142 q142
                cases e142
                replace p142 := eq_true p142
                replace q142 := eq_true q142
                have p143 : 0 ≤ (x10_1 : Int) := of_decide_eq_true (by first | (with_reducible assumption) | assumption)
                have q143 : x10_1 < (l0.length : Int) := of_decide_eq_true (by first | (with_reducible assumption) | assumption)
                obtain ⟨ad143, e143, hx143_0, hx143_1, hx143_2, hx143_3⟩ := at_T46 HR0.out x10_1 p143 q143
                obtain rfl : ad142 = ad143 := (by injection e143)
                replace p143 := eq_true p143
                replace q143 := eq_true q143
                have p144 : 0 ≤ (x10_1 : Int) := of_decide_eq_true (by first | (with_reducible assumption) | assumption)
                have q144 : x10_1 < (l0.length : Int) := of_decide_eq_true (by first | (with_reducible assumption) | assumption)
                obtain ⟨ad144, e144, hx144_0, hx144_1, hx144_2, hx144_3⟩ := at_T46 HR0.out x10_1 p144 q144
                obtain rfl : ad142 = ad144 := (by injection e144)
                replace p144 := eq_true p144
                replace q144 := eq_true q144
                go_wp2
                go_roundg k1
                case measure => have := HK1.out; omega
                case rel => exact ⟨(wrap64 (x10_1 + 1)), (wrap64 (x10_1 + 1)), (x10_1), (false), (wrap64 (x10_1 + 1)), (by first | rfl | (simp; done) | (simp [*]; done)), (by first | rfl | (simp; done) | (simp [*]; done)), (by first | rfl | (simp; done) | (simp [*]; done)), (by first | rfl | (simp; done) | (simp [*]; done)), (by first | rfl | (simp; done) | (simp [*]; done)), H', ⟨by have := HK1.out; omega⟩, by repeat (first | exact Drawn0.refl _ | apply Drawn0.step)⟩
              · rw [if_neg c7] at H
                have c7b0 : (((rd_T46 l0 x10_1).f3) == a1) = false := beq_eq_false_iff_ne.mpr c7
                have c7b1 : (((rd_T46 l0 x10_1).f3) != a1) = true := bne_iff_ne.mpr c7
                have H' := Aside0.mk H
                clear H
                have p142 : 0 ≤ (x10_1 : Int) := of_decide_eq_true (by first | (with_reducible assumption) | assumption)
                have q142 : x10_1 < (l0.length : Int) := of_decide_eq_true (by first | (with_reducible assumption) | assumption)
                obtain ⟨ad142, e142, hx142_0, hx142_1, hx142_2, hx142_3⟩ := at_T46 HR0.out x10_1 p142 q142
                cases e142
                replace p142 := eq_true p142
                replace q142 := eq_true q142
                have p143 : 0 ≤ (x10_1 : Int) := of_decide_eq_true (by first | (with_reducible assumption) | assumption)
                have q143 : x10_1 < (l0.length : Int) := of_decide_eq_true (by first | (with_reducible assumption) | assumption)
                obtain ⟨ad143, e143, hx143_0, hx143_1, hx143_2, hx143_3⟩ := at_T46 HR0.out x10_1 p143 q143
                obtain rfl : ad142 = ad143 := (by injection e143)
                replace p143 := eq_true p143
                replace q143 := eq_true q143
                have p144 : 0 ≤ (x10_1 : Int) := of_decide_eq_true (by first | (with_reducible assumption) | assumption)
                have q144 : x10_1 < (l0.length : Int) := of_decide_eq_true (by first | (with_reducible assumption) | assumption)
                obtain ⟨ad144, e144, hx144_0, hx144_1, hx144_2, hx144_3⟩ := at_T46 HR0.out x10_1 p144 q144
                obtain rfl : ad142 = ad144 := (by injection e144)
                replace p144 := eq_true p144
                replace q144 := eq_true q144
                go_wp2
                go_roundg k1
                case measure => have := HK1.out; omega
                case rel => exact ⟨(wrap64 (x10_1 + 1)), (x7_1), (x8_1), (true), (wrap64 (x10_1 + 1)), (by first | rfl | (simp; done) | (simp [*]; done)), (by first | rfl | (simp; done) | (simp [*]; done)), (by first | rfl | (simp; done) | (simp [*]; done)), (by first | rfl | (simp; done) | (simp [*]; done)), (by first | rfl | (simp; done) | (simp [*]; done)), H', ⟨by have := HK1.out; omega⟩, by repeat (first | exact Drawn0.refl _ | apply Drawn0.step)⟩
            · rw [if_neg c6] at H
              have c6b0 : (((rd_T46 l0 x10_1).f0) == 6) = false := beq_eq_false_iff_ne.mpr c6
              have c6b1 : (((rd_T46 l0 x10_1).f0) != 6) = true := bne_iff_ne.mpr c6
              have H' := Aside0.mk H
              clear H
              have p142 : 0 ≤ (x10_1 : Int) := of_decide_eq_true (by first | (with_reducible assumption) | assumption)
              have q142 : x10_1 < (l0.length : Int) := of_decide_eq_true (by first | (with_reducible assumption) | assumption)
              obtain ⟨ad142, e142, hx142_0, hx142_1, hx142_2, hx142_3⟩ := at_T46 HR0.out x10_1 p142 q142
              cases e142
              replace p142 := eq_true p142
              replace q142 := eq_true q142
              have p143 : 0 ≤ (x10_1 : Int) := of_decide_eq_true (by first | (with_reducible assumption) | assumption)
              have q143 : x10_1 < (l0.length : Int) := of_decide_eq_true (by first | (with_reducible assumption) | assumption)
              obtain ⟨ad143, e143, hx143_0, hx143_1, hx143_2, hx143_3⟩ := at_T46 HR0.out x10_1 p143 q143
              obtain rfl : ad142 = ad143 := (by injection e143)
              replace p143 := eq_true p143
              replace q143 := eq_true q143
              go_wp2
              go_roundg k1
              case measure => have := HK1.out; omega
              case rel => exact ⟨(wrap64 (x10_1 + 1)), (x7_1), (x8_1), (true), (wrap64 (x10_1 + 1)), (by first | rfl | (simp; done) | (simp [*]; done)), (by first | rfl | (simp; done) | (simp [*]; done)), (by first | rfl | (simp; done) | (simp [*]; done)), (by first | rfl | (simp; done) | (simp [*]; done)), (by first | rfl | (simp; done) | (simp [*]; done)), H', ⟨by have := HK1.out; omega⟩, by repeat (first | exact Drawn0.refl _ | apply Drawn0.step)⟩
          · rw [if_neg c5] at H
            have c5b0 : (((rd_T46 l0 x10_1).f0) == 11) = false := beq_eq_false_iff_ne.mpr c5
            have c5b1 : (((rd_T46 l0 x10_1).f0) != 11) = true := bne_iff_ne.mpr c5
            by_cases c8 : ((rd_T46 l0 x10_1).f0) = 6
            · rw [if_pos c8] at H
              have c8b0 : (((rd_T46 l0 x10_1).f0) == 6) = true := beq_iff_eq.mpr c8
              have c8b1 : (((rd_T46 l0 x10_1).f0) != 6) = false := bne_eq_false_iff_eq.mpr c8
              clear c8
              by_cases c9 : ((rd_T46 l0 x10_1).f3) = a1
              · rw [if_pos c9] at H
                have c9b0 : (((rd_T46 l0 x10_1).f3) == a1) = true := beq_iff_eq.mpr c9
                have c9b1 : (((rd_T46 l0 x10_1).f3) != a1) = false := bne_eq_false_iff_eq.mpr c9
                clear c9
                by_cases c10 : x9_1 = true
                · subst c10
                  have H1 : (eddylaw18_life.l0 k1 l0 a1 x6_1 x6_1 x10_1 false (wrap64 (x10_1 + 1))) = some (r1, r2) := by rw [if_pos rfl] at H; exact H
                  clear H
                  have H := H1
                  clear H1
                  have H' := Aside0.mk H
                  clear H
                  have p142 : 0 ≤ (x10_1 : Int) := of_decide_eq_true (by first | (with_reducible assumption) | assumption)
                  have q142 : x10_1 < (l0.length : Int) := of_decide_eq_true (by first | (with_reducible assumption) | assumption)
                  obtain ⟨ad142, e142, hx142_0, hx142_1, hx142_2, hx142_3⟩ := at_T46 HR0.out x10_1 p142 q142
                  cases e142
                  replace p142 := eq_true p142
                  replace q142 := eq_true q142
                  have p145 : 0 ≤ (x10_1 : Int) := of_decide_eq_true (by first | (with_reducible assumption) | assumption)
                  have q145 : x10_1 < (l0.length : Int) := of_decide_eq_true (by first | (with_reducible assumption) | assumption)
                  obtain ⟨ad145, e145, hx145_0, hx145_1, hx145_2, hx145_3⟩ := at_T46 HR0.out x10_1 p145 q145
                  obtain rfl : ad142 = ad145 := (by injection e145)
                  replace p145 := eq_true p145
                  replace q145 := eq_true q145
                  have p146 : 0 ≤ (x10_1 : Int) := of_decide_eq_true (by first | (with_reducible assumption) | assumption)
                  have q146 : x10_1 < (l0.length : Int) := of_decide_eq_true (by first | (with_reducible assumption) | assumption)
                  obtain ⟨ad146, e146, hx146_0, hx146_1, hx146_2, hx146_3⟩ := at_T46 HR0.out x10_1 p146 q146
                  obtain rfl : ad142 = ad146 := (by injection e146)
                  replace p146 := eq_true p146
                  replace q146 := eq_true q146
                  go_wp2
                  go_roundg k1
                  case measure => have := HK1.out; omega
                  case rel => exact ⟨(x6_1), (x6_1), (x10_1), (false), (wrap64 (x10_1 + 1)), (by first | rfl | (simp; done) | (simp [*]; done)), (by first | rfl | (simp; done) | (simp [*]; done)), (by first | rfl | (simp; done) | (simp [*]; done)), (by first | rfl | (simp; done) | (simp [*]; done)), (by first | rfl | (simp; done) | (simp [*]; done)), H', ⟨by have := HK1.out; omega⟩, by repeat (first | exact Drawn0.refl _ | apply Drawn0.step)⟩
                · replace c10 := Bool.eq_false_iff.mpr c10
                  subst c10
                  have H1 : (eddylaw18_life.l0 k1 l0 a1 x6_1 x7_1 x8_1 false (wrap64 (x10_1 + 1))) = some (r1, r2) := by rw [if_neg (show ¬ (false = true) by decide)] at H; exact H
                  clear H
                  have H := H1
                  clear H1
                  have H' := Aside0.mk H
                  clear H
                  have p142 : 0 ≤ (x10_1 : Int) := of_decide_eq_true (by first | (with_reducible assumption) | assumption)
                  have q142 : x10_1 < (l0.length : Int) := of_decide_eq_true (by first | (with_reducible assumption) | assumption)
                  obtain ⟨ad142, e142, hx142_0, hx142_1, hx142_2, hx142_3⟩ := at_T46 HR0.out x10_1 p142 q142
                  cases e142
                  replace p142 := eq_true p142
                  replace q142 := eq_true q142
                  have p145 : 0 ≤ (x10_1 : Int) := of_decide_eq_true (by first | (with_reducible assumption) | assumption)
                  have q145 : x10_1 < (l0.length : Int) := of_decide_eq_true (by first | (with_reducible assumption) | assumption)
                  obtain ⟨ad145, e145, hx145_0, hx145_1, hx145_2, hx145_3⟩ := at_T46 HR0.out x10_1 p145 q145
                  obtain rfl : ad142 = ad145 := (by injection e145)
                  replace p145 := eq_true p145
                  replace q145 := eq_true q145
                  have p146 : 0 ≤ (x10_1 : Int) := of_decide_eq_true (by first | (with_reducible assumption) | assumption)
                  have q146 : x10_1 < (l0.length : Int) := of_decide_eq_true (by first | (with_reducible assumption) | assumption)
                  obtain ⟨ad146, e146, hx146_0, hx146_1, hx146_2, hx146_3⟩ := at_T46 HR0.out x10_1 p146 q146
                  obtain rfl : ad142 = ad146 := (by injection e146)
                  replace p146 := eq_true p146
                  replace q146 := eq_true q146
                  go_wp2
                  go_roundg k1
                  case measure => have := HK1.out; omega
                  case rel => exact ⟨(x6_1), (x7_1), (x8_1), (false), (wrap64 (x10_1 + 1)), (by first | rfl | (simp; done) | (simp [*]; done)), (by first | rfl | (simp; done) | (simp [*]; done)), (by first | rfl | (simp; done) | (simp [*]; done)), (by first | rfl | (simp; done) | (simp [*]; done)), (by first | rfl | (simp; done) | (simp [*]; done)), H', ⟨by have := HK1.out; omega⟩, by repeat (first | exact Drawn0.refl _ | apply Drawn0.step)⟩
              · rw [if_neg c9] at H
                have c9b0 : (((rd_T46 l0 x10_1).f3) == a1) = false := beq_eq_false_iff_ne.mpr c9
                have c9b1 : (((rd_T46 l0 x10_1).f3) != a1) = true := bne_iff_ne.mpr c9
                have H' := Aside0.mk H
                clear H
                have p142 : 0 ≤ (x10_1 : Int) := of_decide_eq_true (by first | (with_reducible assumption) | assumption)
                have q142 : x10_1 < (l0.length : Int) := of_decide_eq_true (by first | (with_reducible assumption) | assumption)
                obtain ⟨ad142, e142, hx142_0, hx142_1, hx142_2, hx142_3⟩ := at_T46 HR0.out x10_1 p142 q142
                cases e142
                replace p142 := eq_true p142
                replace q142 := eq_true q142
                have p145 : 0 ≤ (x10_1 : Int) := of_decide_eq_true (by first | (with_reducible assumption) | assumption)
                have q145 : x10_1 < (l0.length : Int) := of_decide_eq_true (by first | (with_reducible assumption) | assumption)
                obtain ⟨ad145, e145, hx145_0, hx145_1, hx145_2, hx145_3⟩ := at_T46 HR0.out x10_1 p145 q145
                obtain rfl : ad142 = ad145 := (by injection e145)
                replace p145 := eq_true p145
                replace q145 := eq_true q145
                have p146 : 0 ≤ (x10_1 : Int) := of_decide_eq_true (by first | (with_reducible assumption) | assumption)
                have q146 : x10_1 < (l0.length : Int) := of_decide_eq_true (by first | (with_reducible assumption) | assumption)
                obtain ⟨ad146, e146, hx146_0, hx146_1, hx146_2, hx146_3⟩ := at_T46 HR0.out x10_1 p146 q146
                obtain rfl : ad142 = ad146 := (by injection e146)
                replace p146 := eq_true p146
                replace q146 := eq_true q146
                go_wp2
                go_roundg k1
                case measure => have := HK1.out; omega
                case rel => exact ⟨(x6_1), (x7_1), (x8_1), (x9_1), (wrap64 (x10_1 + 1)), (by first | rfl | (simp; done) | (simp [*]; done)), (by first | rfl | (simp; done) | (simp [*]; done)), (by first | rfl | (simp; done) | (simp [*]; done)), (by first | rfl | (simp; done) | (simp [*]; done)), (by first | rfl | (simp; done) | (simp [*]; done)), H', ⟨by have := HK1.out; omega⟩, by repeat (first | exact Drawn0.refl _ | apply Drawn0.step)⟩
            · rw [if_neg c8] at H
              have c8b0 : (((rd_T46 l0 x10_1).f0) == 6) = false := beq_eq_false_iff_ne.mpr c8
              have c8b1 : (((rd_T46 l0 x10_1).f0) != 6) = true := bne_iff_ne.mpr c8
              have H' := Aside0.mk H
              clear H
              have p142 : 0 ≤ (x10_1 : Int) := of_decide_eq_true (by first | (with_reducible assumption) | assumption)
              have q142 : x10_1 < (l0.length : Int) := of_decide_eq_true (by first | (with_reducible assumption) | assumption)
              obtain ⟨ad142, e142, hx142_0, hx142_1, hx142_2, hx142_3⟩ := at_T46 HR0.out x10_1 p142 q142
              cases e142
              replace p142 := eq_true p142
              replace q142 := eq_true q142
              have p145 : 0 ≤ (x10_1 : Int) := of_decide_eq_true (by first | (with_reducible assumption) | assumption)
              have q145 : x10_1 < (l0.length : Int) := of_decide_eq_true (by first | (with_reducible assumption) | assumption)
              obtain ⟨ad145, e145, hx145_0, hx145_1, hx145_2, hx145_3⟩ := at_T46 HR0.out x10_1 p145 q145
              obtain rfl : ad142 = ad145 := (by injection e145)
              replace p145 := eq_true p145
              replace q145 := eq_true q145
              go_wp2
              go_roundg k1
              case measure => have := HK1.out; omega
              case rel => exact ⟨(x6_1), (x7_1), (x8_1), (x9_1), (wrap64 (x10_1 + 1)), (by first | rfl | (simp; done) | (simp [*]; done)), (by first | rfl | (simp; done) | (simp [*]; done)), (by first | rfl | (simp; done) | (simp [*]; done)), (by first | rfl | (simp; done) | (simp [*]; done)), (by first | rfl | (simp; done) | (simp [*]; done)), H', ⟨by have := HK1.out; omega⟩, by repeat (first | exact Drawn0.refl _ | apply Drawn0.step)⟩
        · rw [if_neg c4] at H
          exact absurd H (by simp)
      · rw [if_neg c3] at H
        have c3b0 : decide (x10_1 < (l0.length : Int)) = false := decide_eq_false c3
        clear c3
        simp only [Option.some.injEq, Prod.mk.injEq] at H
        obtain ⟨rfl, rfl⟩ := H
        go_wp2
        go_ret2
        exact ⟨by first | rfl | (simp; done) | (simp [*]; done), by repeat (first | exact Drawn0.refl _ | apply Drawn0.step)⟩

/-! ### eddylaw18_of: function 23 -/
def eddylaw18_of.l0 : Nat → List (S48) → Int → List (S48) → Int → Option ((List (S48)))
  | 0, _, _, _, _ => none
  | k + 1, x0, x1, x5, x6 => if x6 < (x0.length : Int) then (if 0 ≤ x6 then (if ((rd_T48 x0 x6).f0) = x1 then (if x5.length < 8796093022208 then (eddylaw18_of.l0 k x0 x1 (x5 ++ [(⟨(rd_T48 x0 x6).f0, (rd_T48 x0 x6).f1⟩ : S48)]) (wrap64 (x6 + 1))) else (none)) else (eddylaw18_of.l0 k x0 x1 x5 (wrap64 (x6 + 1)))) else (none)) else (some x5)
def eddylaw18_of.f (k : Nat) (l0 : List (S48)) (a1 : Int) : Option ((List (S48))) := eddylaw18_of.l0 k l0 a1 ([] : List (S48)) 0
theorem eddylaw18_of.mono_l : ∀ k, (∀ y0 y1 y2 y3, LeO (eddylaw18_of.l0 k y0 y1 y2 y3) (eddylaw18_of.l0 (k + 1) y0 y1 y2 y3))
  | 0 => fun _ _ _ _ r h => by simp [eddylaw18_of.l0] at h
  | k + 1 => by
    have ih0 := eddylaw18_of.mono_l k
    · intro y0 y1 y2 y3
      unfold eddylaw18_of.l0
      repeat' first
      | (with_reducible exact ih0 _ _ _ _)
      | (with_reducible exact LeO.refl _)
      | (with_reducible exact LeO.none _)
      | (with_reducible refine LeO.ite ?_ ?_)
      | (with_reducible refine LeO.bind ?_ (fun _ => ?_))
      | exact ih0 _ _ _ _
      | exact LeO.none _
      | refine LeO.ite ?_ ?_
      | refine LeO.bind ?_ (fun _ => ?_)
theorem eddylaw18_of.mono : ∀ a0 a1 k, LeO (eddylaw18_of.f k a0 a1) (eddylaw18_of.f (k + 1) a0 a1) := by
  intro a0 a1 k
  have ih0 := eddylaw18_of.mono_l k
  unfold eddylaw18_of.f
  repeat' first
      | (with_reducible exact ih0 _ _ _ _)
      | (with_reducible exact LeO.refl _)
      | (with_reducible exact LeO.none _)
      | (with_reducible refine LeO.ite ?_ ?_)
      | (with_reducible refine LeO.bind ?_ (fun _ => ?_))
      | exact ih0 _ _ _ _
      | exact LeO.none _
      | refine LeO.ite ?_ ?_
      | refine LeO.bind ?_ (fun _ => ?_)
set_option maxHeartbeats 8000000 in
set_option maxRecDepth 100000 in
theorem eddylaw18_of.calls (k : Nat) (A0 : Option Addr) (c0 : Nat) (l0 : List (S48)) (a1 : Int) (r : List (S48)) (w : World) (hr0 : Kd.C k48 w A0 l0.length l0) (hc0 : l0.length ≤ c0) (h : eddylaw18_of.f k l0 a1 = some r) :
    Calls Try.prog 23 #[.slice A0 l0.length c0, .int .i64 a1] w fun e w' => ∃ v0_ : Value, e = .returned (v0_) ∧ Kd.R k48 48 w' w.heap.size (fun _ => True) v0_ r ∧ Below w.heap.size w w' := by
  have hu48 := Try.underlying48
  have HR0 := Aside0.mk hr0
  have HC0 := Aside0.mk hc0
  clear hr0 hc0
  have HB := Aside0.mk (Below.refl w.heap.size w)
  have H : (eddylaw18_of.l0 k l0 a1 ([] : List (S48)) 0) = some r := h
  clear h
  have H' := Aside0.mk H
  clear H
  go_enter Try.func23, Try.ntmps23
  go_wp2
  go_loopg [5, 6] k (fun kq v5 v6 w' => ∃ (x5_1 : List (S48)) (x6_1 : Int), v6 = .int .i64 x6_1 ∧ Aside0 (eddylaw18_of.l0 kq l0 a1 x5_1 x6_1 = some r) ∧ Aside0 (kq ≤ k) ∧ Aside0 (Kd.R k48 48 w' w.heap.size (fun _ => True) v5 x5_1) ∧ Aside0 (Below w.heap.size w w'))
  case atStart => exact ⟨(([] : List (S48))), (0), (by first | rfl | (simp; done) | (simp [*]; done)), H', ⟨Nat.le_refl _⟩, ⟨by first | exact Kd.R_nil _ _ _ _ _ | exact Kd.N_nil _ _ _ _ _ | exact Kd.V_nil _ _ _ _ _ | exact Kd.Q_nil _ _ _ _ _ | exact Kd.S_nil _ _ _ _ _⟩, ⟨by repeat (first | (with_reducible first | exact HB.out | apply below_alloc | apply pw_below_drewN | apply below_drew1) | exact HB.out)⟩⟩
  case round =>
    clear H'
    try clear c2
    try clear p2
    obtain ⟨x5_1, x6_1, rfl, HA, HK1, HO_5, HB⟩ := hrel
    cases gk with
    | zero => exact absurd HA.out (by simp [eddylaw18_of.l0])
    | succ k1 =>
      have H := HA.out
      clear HA
      simp only [eddylaw18_of.l0] at H
      by_cases c3 : x6_1 < (l0.length : Int)
      · rw [if_pos c3] at H
        have c3b0 : decide (x6_1 < (l0.length : Int)) = true := decide_eq_true c3
        clear c3
        by_cases c4 : 0 ≤ x6_1
        · rw [if_pos c4] at H
          have c4b0 : decide (0 ≤ x6_1) = true := decide_eq_true c4
          clear c4
          by_cases c5 : ((rd_T48 l0 x6_1).f0) = a1
          · rw [if_pos c5] at H
            have c5b0 : (((rd_T48 l0 x6_1).f0) == a1) = true := beq_iff_eq.mpr c5
            have c5b1 : (((rd_T48 l0 x6_1).f0) != a1) = false := bne_eq_false_iff_eq.mpr c5
            clear c5
            by_cases c6 : x5_1.length < 8796093022208
            · rw [if_pos c6] at H
              have LMc6 := Aside0.mk c6
              clear c6
              obtain ⟨y156, hy156⟩ : ∃ y_ : List (S48), y_ = (x5_1 ++ [(⟨(rd_T48 l0 x6_1).f0, (rd_T48 l0 x6_1).f1⟩ : S48)]) := ⟨_, rfl⟩
              replace H : (eddylaw18_of.l0 k1 l0 a1 y156 (wrap64 (x6_1 + 1))) = some r := by first | (rw [hy156]; with_reducible exact H) | (have H2_ := (Option.bind_some _ _).symm.trans H; rw [hy156]; with_reducible exact H2_) | (have H2_ := (Option.bind_some _ _).symm.trans H; with_reducible exact H2_) | with_reducible exact H | (rw [hy156]; exact H) | exact H
              have Ny156 := Aside0.mk hy156
              clear hy156
              have H' := Aside0.mk H
              clear H
              have p154 : 0 ≤ (x6_1 : Int) := of_decide_eq_true (by first | (with_reducible assumption) | assumption)
              have q154 : x6_1 < (l0.length : Int) := of_decide_eq_true (by first | (with_reducible assumption) | assumption)
              obtain ⟨ad154, e154, hx154_0, hx154_1⟩ := at_T48 HR0.out x6_1 p154 q154
              cases e154
              replace hx154_0 := (HB.out.cell (World.block_lt_of_cell? w _ hx154_0)).trans hx154_0
              replace hx154_1 := (HB.out.cell (World.block_lt_of_cell? w _ hx154_1)).trans hx154_1
              replace p154 := eq_true p154
              replace q154 := eq_true q154
              have p155 : 0 ≤ (x6_1 : Int) := of_decide_eq_true (by first | (with_reducible assumption) | assumption)
              have q155 : x6_1 < (l0.length : Int) := of_decide_eq_true (by first | (with_reducible assumption) | assumption)
              obtain ⟨ad155, e155, hx155_0, hx155_1⟩ := at_T48 HR0.out x6_1 p155 q155
              obtain rfl : ad154 = ad155 := (by injection e155)
              replace hx155_0 := (HB.out.cell (World.block_lt_of_cell? w _ hx155_0)).trans hx155_0
              replace hx155_1 := (HB.out.cell (World.block_lt_of_cell? w _ hx155_1)).trans hx155_1
              replace p155 := eq_true p155
              replace q155 := eq_true q155
              go_wp2_with (first | ((with_reducible refine gate_builtin (b := .append) (xs := #[.tmp 20, .tmp 25]) rfl ?_); at_builtin; refine Kd.R_append k48 (w0 := w) w.heap.size rfl (.tmp 20) (.tmp 25) 24 48 (.agg #[(.int .i64 0), (.int .i64 0)]) 16 rfl Try.underlying24 info48 rfl (by decide) (by omega) u5 x5_1 (⟨(rd_T48 l0 x6_1).f0, (rd_T48 l0 x6_1).f1⟩ : S48) [.int .i64 ((rd_T48 l0 x6_1).f0), .int .i64 ((rd_T48 l0 x6_1).f1)] (fun _ => True) (fun _ => False) rfl rfl ?aP (fun _ hk => hk.elim) ?aF ?aO ?aB ?aS ?aL ?_; (case aP => exact k48_mkM _ _ _ (⟨(rd_T48 l0 x6_1).f0, (rd_T48 l0 x6_1).f1⟩ : S48)); (case aB => exact (by repeat (first | (with_reducible first | exact HB.out | apply below_alloc | apply pw_below_drewN | apply below_drew1) | exact HB.out))); (case aF => exact (fun _ _ => trivial)); (case aO => exact (by (with_reducible repeat (first | apply Kd.R_alloc | apply Kd.R_drewN | apply Kd.R_drew)); exact HO_5.out)); (case aS => exact (below_size (by repeat (first | (with_reducible first | exact HB.out | apply below_alloc | apply pw_below_drewN | apply below_drew1) | exact HB.out)))); (case aL => have := LMc6.out; omega); intro v157 w7 ho hb hg hat; rw [← Ny156.out] at ho; have n0_ := Aside0.mk (hb); have n1_ := Aside0.mk (ho); clear HB; clear HO_5; have HB := n0_; have HO158 := n1_; clear n0_ n1_; clear ho hb hg hat))
              go_roundg k1
              case measure => have := HK1.out; omega
              case rel => exact ⟨(y156), (wrap64 (x6_1 + 1)), (by first | rfl | (simp; done) | (simp [*]; done)), H', ⟨by have := HK1.out; omega⟩, ⟨by (with_reducible repeat (first | apply Kd.R_alloc | apply Kd.R_drewN | apply Kd.R_drew)); exact HO158.out⟩, ⟨by repeat (first | (with_reducible first | exact HB.out | apply below_alloc | apply pw_below_drewN | apply below_drew1) | exact HB.out)⟩⟩
            · rw [if_neg c6] at H
              exact absurd H (by simp)
          · rw [if_neg c5] at H
            have c5b0 : (((rd_T48 l0 x6_1).f0) == a1) = false := beq_eq_false_iff_ne.mpr c5
            have c5b1 : (((rd_T48 l0 x6_1).f0) != a1) = true := bne_iff_ne.mpr c5
            have H' := Aside0.mk H
            clear H
            have p154 : 0 ≤ (x6_1 : Int) := of_decide_eq_true (by first | (with_reducible assumption) | assumption)
            have q154 : x6_1 < (l0.length : Int) := of_decide_eq_true (by first | (with_reducible assumption) | assumption)
            obtain ⟨ad154, e154, hx154_0, hx154_1⟩ := at_T48 HR0.out x6_1 p154 q154
            cases e154
            replace hx154_0 := (HB.out.cell (World.block_lt_of_cell? w _ hx154_0)).trans hx154_0
            replace hx154_1 := (HB.out.cell (World.block_lt_of_cell? w _ hx154_1)).trans hx154_1
            replace p154 := eq_true p154
            replace q154 := eq_true q154
            go_wp2
            go_roundg k1
            case measure => have := HK1.out; omega
            case rel => exact ⟨(x5_1), (wrap64 (x6_1 + 1)), (by first | rfl | (simp; done) | (simp [*]; done)), H', ⟨by have := HK1.out; omega⟩, ⟨by (with_reducible repeat (first | apply Kd.R_alloc | apply Kd.R_drewN | apply Kd.R_drew)); exact HO_5.out⟩, ⟨by repeat (first | (with_reducible first | exact HB.out | apply below_alloc | apply pw_below_drewN | apply below_drew1) | exact HB.out)⟩⟩
        · rw [if_neg c4] at H
          exact absurd H (by simp)
      · rw [if_neg c3] at H
        have c3b0 : decide (x6_1 < (l0.length : Int)) = false := decide_eq_false c3
        clear c3
        obtain rfl := Option.some.inj H
        go_wp2
        go_ret
        exact ⟨_, by first | rfl | (simp [errW_none, errW_some] <;> rfl) | (simp [*, errW_none, errW_some] <;> rfl), by (with_reducible repeat (first | apply Kd.R_alloc | apply Kd.R_drewN | apply Kd.R_drew)); exact HO_5.out, by repeat (first | (with_reducible first | exact HB.out | apply below_alloc | apply pw_below_drewN | apply below_drew1) | exact HB.out)⟩

/-! ### eddylaw18_exchanged: function 24 -/
def eddylaw18_exchanged.l0 : Nat → List (S48) → List Int → List (S48) → List (S48) → Int → Option (Bool × (List (S48)))
  | 0, _, _, _, _, _ => none
  | k + 1, x0, x1, x2, x3, x9 => if x9 < (x1.length : Int) then (if 0 ≤ x9 then (if (rd x1 x9) < 0 then (some (false, x0)) else (if (wrap64 ((rd x1 x9) + 1)) ≥ (x0.length : Int) then (some (false, x0)) else (if 0 ≤ (rd x1 x9) then (if (rd x1 x9) < (x0.length : Int) then (if 0 ≤ (wrap64 ((rd x1 x9) + 1)) then (if (wrap64 ((rd x1 x9) + 1)) < (x0.length : Int) then (if ((rd_T48 x0 (rd x1 x9)).f0) = ((rd_T48 x0 (wrap64 ((rd x1 x9) + 1))).f0) then (some (false, x0)) else (eddylaw18_exchanged.l0 k ((x0.set ((rd x1 x9) : Int).toNat (⟨(rd_T48 x0 (wrap64 ((rd x1 x9) + 1))).f0, (rd_T48 x0 (wrap64 ((rd x1 x9) + 1))).f1⟩ : S48)).set ((wrap64 ((rd x1 x9) + 1)) : Int).toNat (⟨(rd_T48 x0 (rd x1 x9)).f0, (rd_T48 x0 (rd x1 x9)).f1⟩ : S48)) x1 x2 x3 (wrap64 (x9 + 1)))) else (none)) else (none)) else (none)) else (none)))) else (none)) else (if 0 ≤ (x2.length : Int) then (if (x2.length : Int) ≤ (x0.length : Int) then ((eddylaw18_sameEvents.f k (x0.take ((x2.length : Int) : Int).toNat) x2).bind fun t171 => (if t171 = true then ((eddylaw18_sameEvents.f k (x0.drop ((x2.length : Int) : Int).toNat) x3).bind fun t176 => (some (t176, x0))) else (some (false, x0)))) else (none)) else (none))
def eddylaw18_exchanged.f (k : Nat) (l0 : List (S48)) (l1 : List Int) (l2 : List (S48)) (l3 : List (S48)) : Option (Bool × (List (S48))) := eddylaw18_exchanged.l0 k l0 l1 l2 l3 0
theorem eddylaw18_exchanged.mono_l : ∀ k, (∀ y0 y1 y2 y3 y4, LeO (eddylaw18_exchanged.l0 k y0 y1 y2 y3 y4) (eddylaw18_exchanged.l0 (k + 1) y0 y1 y2 y3 y4))
  | 0 => fun _ _ _ _ _ r h => by simp [eddylaw18_exchanged.l0] at h
  | k + 1 => by
    have ih0 := eddylaw18_exchanged.mono_l k
    · intro y0 y1 y2 y3 y4
      unfold eddylaw18_exchanged.l0
      repeat' first
      | (with_reducible exact ih0 _ _ _ _ _)
      | (with_reducible exact eddylaw18_sameEvents.mono _ _ _)
      | (with_reducible exact LeO.refl _)
      | (with_reducible exact LeO.none _)
      | (with_reducible refine LeO.ite ?_ ?_)
      | (with_reducible refine LeO.bind ?_ (fun _ => ?_))
      | exact ih0 _ _ _ _ _
      | exact eddylaw18_sameEvents.mono _ _ _
      | exact LeO.none _
      | refine LeO.ite ?_ ?_
      | refine LeO.bind ?_ (fun _ => ?_)
theorem eddylaw18_exchanged.mono : ∀ a0 a1 a2 a3 k, LeO (eddylaw18_exchanged.f k a0 a1 a2 a3) (eddylaw18_exchanged.f (k + 1) a0 a1 a2 a3) := by
  intro a0 a1 a2 a3 k
  have ih0 := eddylaw18_exchanged.mono_l k
  unfold eddylaw18_exchanged.f
  repeat' first
      | (with_reducible exact ih0 _ _ _ _ _)
      | (with_reducible exact eddylaw18_sameEvents.mono _ _ _)
      | (with_reducible exact LeO.refl _)
      | (with_reducible exact LeO.none _)
      | (with_reducible refine LeO.ite ?_ ?_)
      | (with_reducible refine LeO.bind ?_ (fun _ => ?_))
      | exact ih0 _ _ _ _ _
      | exact eddylaw18_sameEvents.mono _ _ _
      | exact LeO.none _
      | refine LeO.ite ?_ ?_
      | refine LeO.bind ?_ (fun _ => ?_)
set_option maxHeartbeats 8000000 in
set_option maxRecDepth 100000 in
theorem eddylaw18_exchanged.calls (k : Nat) (P0_ : Nat → Prop) (u9000_ : Value) (l0 : List (S48)) (A1 : Option Addr) (c1 : Nat) (l1 : List Int) (A2 : Option Addr) (c2 : Nat) (l2 : List (S48)) (A3 : Option Addr) (c3 : Nat) (l3 : List (S48)) (r1 : Bool) (r2 : List (S48)) (w0 w : World) (hB : Below w0.heap.size w0 w) (ho0 : Kd.R k48 48 w w0.heap.size P0_ u9000_ l0) (hr1 : ∀ W_, Kept w W_ (fun k_ => P0_ k_) → Kd.C (Kd.int .i64) W_ A1 l1.length l1) (hc1 : l1.length ≤ c1) (hr2 : ∀ W_, Kept w W_ (fun k_ => P0_ k_) → Kd.C k48 W_ A2 l2.length l2) (hc2 : l2.length ≤ c2) (hr3 : ∀ W_, Kept w W_ (fun k_ => P0_ k_) → Kd.C k48 W_ A3 l3.length l3) (hc3 : l3.length ≤ c3) (h : eddylaw18_exchanged.f k l0 l1 l2 l3 = some (r1, r2)) :
    Calls Try.prog 24 #[u9000_, .slice A1 l1.length c1, .slice A2 l2.length c2, .slice A3 l3.length c3] w fun e w' => e = .returned (.bool r1) ∧ Kd.R k48 48 w' w0.heap.size (fun k_ => (P0_ k_ ∨ w.heap.size ≤ k_)) u9000_ r2 ∧ Below w0.heap.size w0 w' ∧ Kept w w' (fun k_ => P0_ k_) := by
  have hu48 := Try.underlying48
  have HO0 := Aside0.mk (show Kd.R k48 48 w w0.heap.size (fun k_ => (P0_ k_ ∨ w.heap.size ≤ k_)) u9000_ l0 from Kd.R_mono ho0 (fun k_ hk => (.inl hk)))
  have HR1 := Aside0.mk hr1
  have HC1 := Aside0.mk hc1
  clear hr1 hc1
  have HR2 := Aside0.mk hr2
  have HC2 := Aside0.mk hc2
  clear hr2 hc2
  have HR3 := Aside0.mk hr3
  have HC3 := Aside0.mk hc3
  clear hr3 hc3
  have HK := Aside0.mk (Kept.refl w (fun k_ => P0_ k_))
  have HW0 := Aside0.mk hB.size
  have HB := Aside0.mk hB
  clear hB
  have H : (eddylaw18_exchanged.l0 k l0 l1 l2 l3 0) = some (r1, r2) := h
  clear h
  have H' := Aside0.mk H
  clear H
  go_enter Try.func24, Try.ntmps24
  go_wp2
  repeat (go_quiet (fail); try go_wp2)
  go_loopg [9] k (fun kq v9 w' => ∃ (x0_1 : List (S48)) (x9_1 : Int), v9 = .int .i64 x9_1 ∧ Aside0 (eddylaw18_exchanged.l0 kq x0_1 l1 l2 l3 x9_1 = some (r1, r2)) ∧ Aside0 (kq ≤ k) ∧ Aside0 (Kd.R k48 48 w' w0.heap.size (fun k_ => (P0_ k_ ∨ w.heap.size ≤ k_)) u9000_ x0_1) ∧ Aside0 (Kept w w' (fun k_ => P0_ k_)) ∧ Aside0 (Below w0.heap.size w0 w'))
  case atStart => exact ⟨(l0), (0), (by first | rfl | (simp; done) | (simp [*]; done)), H', ⟨Nat.le_refl _⟩, ⟨by (with_reducible repeat (first | apply Kd.R_alloc | apply Kd.R_drewN | apply Kd.R_drew)); exact HO0.out⟩, ⟨by repeat (first | (with_reducible first | exact HK.out | apply Kept.alloc | apply Kept.drewN | apply Kept.drew) | exact HK.out)⟩, ⟨by repeat (first | (with_reducible first | exact HB.out | apply below_alloc | apply pw_below_drewN | apply below_drew1) | exact HB.out)⟩⟩
  case round =>
    clear H'
    try clear c1
    try clear c2
    try clear p2
    try clear c3
    obtain ⟨x0_1, x9_1, rfl, HA, HK1, HO_0, HK, HB⟩ := hrel
    cases gk with
    | zero => exact absurd HA.out (by simp [eddylaw18_exchanged.l0])
    | succ k1 =>
      have H := HA.out
      clear HA
      simp only [eddylaw18_exchanged.l0] at H
      by_cases c5 : x9_1 < (l1.length : Int)
      · rw [if_pos c5] at H
        have c5b0 : decide (x9_1 < (l1.length : Int)) = true := decide_eq_true c5
        clear c5
        by_cases c6 : 0 ≤ x9_1
        · rw [if_pos c6] at H
          have c6b0 : decide (0 ≤ x9_1) = true := decide_eq_true c6
          clear c6
          by_cases c7 : (rd l1 x9_1) < 0
          · rw [if_pos c7] at H
            have c7b0 : decide ((rd l1 x9_1) < 0) = true := decide_eq_true c7
            clear c7
            simp only [Option.some.injEq, Prod.mk.injEq] at H
            obtain ⟨rfl, rfl⟩ := H
            have p159 : 0 ≤ (x9_1 : Int) := of_decide_eq_true (by first | (with_reducible assumption) | assumption)
            have q159 : x9_1 < (l1.length : Int) := of_decide_eq_true (by first | (with_reducible assumption) | assumption)
            obtain ⟨ad159, e159, hx159_0⟩ := Kd.at_int (Kd.C_kept_now HR1.out HK.out) x9_1 p159 q159
            cases e159
            replace p159 := eq_true p159
            replace q159 := eq_true q159
            go_wp2
            repeat (go_quiet (fail); try go_wp2)
            go_ret
            exact ⟨by first | rfl | (simp [errW_none, errW_some] <;> rfl) | (simp [*, errW_none, errW_some] <;> rfl), by (with_reducible repeat (first | apply Kd.R_alloc | apply Kd.R_drewN | apply Kd.R_drew)); exact HO_0.out, by repeat (first | (with_reducible first | exact HB.out | apply below_alloc | apply pw_below_drewN | apply below_drew1) | exact HB.out), by repeat (first | (with_reducible first | exact HK.out | apply Kept.alloc | apply Kept.drewN | apply Kept.drew) | exact HK.out)⟩
          · rw [if_neg c7] at H
            have c7b0 : decide ((rd l1 x9_1) < 0) = false := decide_eq_false c7
            clear c7
            by_cases c8 : (wrap64 ((rd l1 x9_1) + 1)) ≥ (x0_1.length : Int)
            · rw [if_pos c8] at H
              have c8b0 : decide ((x0_1.length : Int) ≤ (wrap64 ((rd l1 x9_1) + 1))) = true := decide_eq_true c8
              clear c8
              simp only [Option.some.injEq, Prod.mk.injEq] at H
              obtain ⟨rfl, rfl⟩ := H
              have p159 : 0 ≤ (x9_1 : Int) := of_decide_eq_true (by first | (with_reducible assumption) | assumption)
              have q159 : x9_1 < (l1.length : Int) := of_decide_eq_true (by first | (with_reducible assumption) | assumption)
              obtain ⟨ad159, e159, hx159_0⟩ := Kd.at_int (Kd.C_kept_now HR1.out HK.out) x9_1 p159 q159
              cases e159
              replace p159 := eq_true p159
              replace q159 := eq_true q159
              obtain ⟨Ao9, co9, eo9⟩ := Kd.R_slice HO_0.out
              subst eo9
              go_wp2
              repeat (go_quiet (fail); try go_wp2)
              go_ret
              exact ⟨by first | rfl | (simp [errW_none, errW_some] <;> rfl) | (simp [*, errW_none, errW_some] <;> rfl), by (with_reducible repeat (first | apply Kd.R_alloc | apply Kd.R_drewN | apply Kd.R_drew)); exact HO_0.out, by repeat (first | (with_reducible first | exact HB.out | apply below_alloc | apply pw_below_drewN | apply below_drew1) | exact HB.out), by repeat (first | (with_reducible first | exact HK.out | apply Kept.alloc | apply Kept.drewN | apply Kept.drew) | exact HK.out)⟩
            · rw [if_neg c8] at H
              have c8b0 : decide ((x0_1.length : Int) ≤ (wrap64 ((rd l1 x9_1) + 1))) = false := decide_eq_false c8
              clear c8
              by_cases c10 : 0 ≤ (rd l1 x9_1)
              · rw [if_pos c10] at H
                have c10b0 : decide (0 ≤ (rd l1 x9_1)) = true := decide_eq_true c10
                clear c10
                by_cases c11 : (rd l1 x9_1) < (x0_1.length : Int)
                · rw [if_pos c11] at H
                  have c11b0 : decide ((rd l1 x9_1) < (x0_1.length : Int)) = true := decide_eq_true c11
                  clear c11
                  obtain ⟨ji12, hji12⟩ : ∃ j_ : Int, (wrap64 ((rd l1 x9_1) + 1)) = j_ := ⟨_, rfl⟩
                  replace H : (if 0 ≤ (ji12) then (if (ji12) < (x0_1.length : Int) then (if ((rd_T48 x0_1 (rd l1 x9_1)).f0) = ((rd_T48 x0_1 (ji12)).f0) then (some (false, x0_1)) else (eddylaw18_exchanged.l0 k1 ((x0_1.set ((rd l1 x9_1) : Int).toNat (⟨(rd_T48 x0_1 (ji12)).f0, (rd_T48 x0_1 (ji12)).f1⟩ : S48)).set ((ji12) : Int).toNat (⟨(rd_T48 x0_1 (rd l1 x9_1)).f0, (rd_T48 x0_1 (rd l1 x9_1)).f1⟩ : S48)) l1 l2 l3 (wrap64 (x9_1 + 1)))) else (none)) else (none)) = some (r1, r2) := by first | (rw [hji12] at H; exact H) | (simp only [hji12] at H ⊢; exact H)
                  (try rw [hji12] at c8b0)
                  have hji12w : (IntKind.i64.wrap ((rd l1 x9_1) + 1)) = ji12 := (i64_w _).trans hji12
                  by_cases c13 : 0 ≤ (ji12)
                  · rw [if_pos c13] at H
                    have c13b0 : decide (0 ≤ (ji12)) = true := decide_eq_true c13
                    clear c13
                    by_cases c14 : (ji12) < (x0_1.length : Int)
                    · rw [if_pos c14] at H
                      have c14b0 : decide ((ji12) < (x0_1.length : Int)) = true := decide_eq_true c14
                      clear c14
                      by_cases c15 : ((rd_T48 x0_1 (rd l1 x9_1)).f0) = ((rd_T48 x0_1 (ji12)).f0)
                      · rw [if_pos c15] at H
                        have c15b0 : (((rd_T48 x0_1 (rd l1 x9_1)).f0) == ((rd_T48 x0_1 (ji12)).f0)) = true := beq_iff_eq.mpr c15
                        have c15b1 : (((rd_T48 x0_1 (rd l1 x9_1)).f0) != ((rd_T48 x0_1 (ji12)).f0)) = false := bne_eq_false_iff_eq.mpr c15
                        clear c15
                        simp only [Option.some.injEq, Prod.mk.injEq] at H
                        obtain ⟨rfl, rfl⟩ := H
                        have p159 : 0 ≤ (x9_1 : Int) := of_decide_eq_true (by first | (with_reducible assumption) | assumption)
                        have q159 : x9_1 < (l1.length : Int) := of_decide_eq_true (by first | (with_reducible assumption) | assumption)
                        obtain ⟨ad159, e159, hx159_0⟩ := Kd.at_int (Kd.C_kept_now HR1.out HK.out) x9_1 p159 q159
                        cases e159
                        replace p159 := eq_true p159
                        replace q159 := eq_true q159
                        obtain ⟨Ao16, co16, eo16⟩ := Kd.R_slice HO_0.out
                        subst eo16
                        have p160 : 0 ≤ ((rd l1 x9_1) : Int) := of_decide_eq_true (by first | (with_reducible assumption) | assumption)
                        have q160 : (rd l1 x9_1) < (x0_1.length : Int) := of_decide_eq_true (by first | (with_reducible assumption) | assumption)
                        obtain ⟨ad160, e160, hx160_0, hx160_1⟩ := at_T48 (Kd.R_reads' HO_0.out).2.2 (rd l1 x9_1) p160 q160
                        cases e160
                        replace p160 := eq_true p160
                        replace q160 := eq_true q160
                        have p161 : 0 ≤ ((ji12) : Int) := of_decide_eq_true (by first | (with_reducible assumption) | assumption)
                        have q161 : (ji12) < (x0_1.length : Int) := of_decide_eq_true (by first | (with_reducible assumption) | assumption)
                        obtain ⟨ad161, e161, hx161_0, hx161_1⟩ := at_T48 (Kd.R_reads' HO_0.out).2.2 (ji12) p161 q161
                        obtain rfl : ad160 = ad161 := (by injection e161)
                        replace p161 := eq_true p161
                        replace q161 := eq_true q161
                        go_wp2
                        repeat (go_quiet (fail); try go_wp2)
                        go_ret
                        exact ⟨by first | rfl | (simp [errW_none, errW_some] <;> rfl) | (simp only [← hji12]; first | rfl | (simp [errW_none, errW_some] <;> rfl)) | (simp [*, errW_none, errW_some] <;> rfl), by (with_reducible repeat (first | apply Kd.R_alloc | apply Kd.R_drewN | apply Kd.R_drew)); exact HO_0.out, by repeat (first | (with_reducible first | exact HB.out | apply below_alloc | apply pw_below_drewN | apply below_drew1) | exact HB.out), by repeat (first | (with_reducible first | exact HK.out | apply Kept.alloc | apply Kept.drewN | apply Kept.drew) | exact HK.out)⟩
                      · rw [if_neg c15] at H
                        have c15b0 : (((rd_T48 x0_1 (rd l1 x9_1)).f0) == ((rd_T48 x0_1 (ji12)).f0)) = false := beq_eq_false_iff_ne.mpr c15
                        have c15b1 : (((rd_T48 x0_1 (rd l1 x9_1)).f0) != ((rd_T48 x0_1 (ji12)).f0)) = true := bne_iff_ne.mpr c15
                        obtain ⟨y165, hy165⟩ : ∃ y_ : List (S48), y_ = (x0_1.set ((rd l1 x9_1) : Int).toNat (⟨(rd_T48 x0_1 (ji12)).f0, (rd_T48 x0_1 (ji12)).f1⟩ : S48)) := ⟨_, rfl⟩
                        replace H : (eddylaw18_exchanged.l0 k1 (y165.set ((ji12) : Int).toNat (⟨(rd_T48 x0_1 (rd l1 x9_1)).f0, (rd_T48 x0_1 (rd l1 x9_1)).f1⟩ : S48)) l1 l2 l3 (wrap64 (x9_1 + 1))) = some (r1, r2) := by first | (rw [hy165]; with_reducible exact H) | (have H2_ := (Option.bind_some _ _).symm.trans H; rw [hy165]; with_reducible exact H2_) | (have H2_ := (Option.bind_some _ _).symm.trans H; with_reducible exact H2_) | with_reducible exact H | (rw [hy165]; exact H) | exact H
                        have Ny165 := Aside0.mk hy165
                        clear hy165
                        obtain ⟨y166, hy166⟩ : ∃ y_ : List (S48), y_ = (y165.set ((ji12) : Int).toNat (⟨(rd_T48 x0_1 (rd l1 x9_1)).f0, (rd_T48 x0_1 (rd l1 x9_1)).f1⟩ : S48)) := ⟨_, rfl⟩
                        replace H : (eddylaw18_exchanged.l0 k1 y166 l1 l2 l3 (wrap64 (x9_1 + 1))) = some (r1, r2) := by first | (rw [hy166]; with_reducible exact H) | (have H2_ := (Option.bind_some _ _).symm.trans H; rw [hy166]; with_reducible exact H2_) | (have H2_ := (Option.bind_some _ _).symm.trans H; with_reducible exact H2_) | with_reducible exact H | (rw [hy166]; exact H) | exact H
                        have Ny166 := Aside0.mk hy166
                        clear hy166
                        have H' := Aside0.mk H
                        clear H
                        have p159 : 0 ≤ (x9_1 : Int) := of_decide_eq_true (by first | (with_reducible assumption) | assumption)
                        have q159 : x9_1 < (l1.length : Int) := of_decide_eq_true (by first | (with_reducible assumption) | assumption)
                        obtain ⟨ad159, e159, hx159_0⟩ := Kd.at_int (Kd.C_kept_now HR1.out HK.out) x9_1 p159 q159
                        cases e159
                        replace p159 := eq_true p159
                        replace q159 := eq_true q159
                        obtain ⟨Ao19, co19, eo19⟩ := Kd.R_slice HO_0.out
                        subst eo19
                        have p160 : 0 ≤ ((rd l1 x9_1) : Int) := of_decide_eq_true (by first | (with_reducible assumption) | assumption)
                        have q160 : (rd l1 x9_1) < (x0_1.length : Int) := of_decide_eq_true (by first | (with_reducible assumption) | assumption)
                        obtain ⟨ad160, e160, hx160_0, hx160_1⟩ := at_T48 (Kd.R_reads' HO_0.out).2.2 (rd l1 x9_1) p160 q160
                        cases e160
                        replace p160 := eq_true p160
                        replace q160 := eq_true q160
                        have p161 : 0 ≤ ((ji12) : Int) := of_decide_eq_true (by first | (with_reducible assumption) | assumption)
                        have q161 : (ji12) < (x0_1.length : Int) := of_decide_eq_true (by first | (with_reducible assumption) | assumption)
                        obtain ⟨ad161, e161, hx161_0, hx161_1⟩ := at_T48 (Kd.R_reads' HO_0.out).2.2 (ji12) p161 q161
                        obtain rfl : ad160 = ad161 := (by injection e161)
                        replace p161 := eq_true p161
                        replace q161 := eq_true q161
                        have p162 : 0 ≤ ((rd l1 x9_1) : Int) := of_decide_eq_true (by first | (with_reducible assumption) | assumption)
                        have q162 : (rd l1 x9_1) < (x0_1.length : Int) := of_decide_eq_true (by first | (with_reducible assumption) | assumption)
                        obtain ⟨ad162, e162, hx162_0, hx162_1⟩ := at_T48 (Kd.R_reads' HO_0.out).2.2 (rd l1 x9_1) p162 q162
                        obtain rfl : ad160 = ad162 := (by injection e162)
                        replace p162 := eq_true p162
                        replace q162 := eq_true q162
                        go_wp2_with (first | ((with_reducible refine gate_dst (N := 11) rfl ?_); (try (refine gate_guard (by rfl) ?_; dsimp only)); refine box_event ?hg (N := 11) ?hd (cs := #[.int .i64 0, .int .i64 0]) (t := 48) ?hr ?_; (case hd => rfl); (case hg => rfl); (case hr => first | (go_simp; done) | (go_simp; rfl)); intro gb163 hg w20 hbox hb; have n0_ := Aside0.mk (Kd.R_below (Kd.R_elderB (by (with_reducible repeat (first | apply Kd.R_alloc | apply Kd.R_drewN | apply Kd.R_drew)); exact HO_0.out) gb163 (Nat.le_of_eq hg.symm)) hb); have n1_ := Aside0.mk (Kept.below (S := (fun k_ => P0_ k_)) (by repeat (first | (with_reducible first | exact HK.out | apply Kept.alloc | apply Kept.drewN | apply Kept.drew) | exact HK.out)) hb); have n2_ := Aside0.mk (below_step (by repeat (first | (with_reducible first | exact HB.out | apply below_alloc | apply pw_below_drewN | apply below_drew1) | exact HB.out)) hb); have n3_ := Aside0.mk (hbox); have n4_ := Aside0.mk ((by rw [hg]; exact (by first | exact HK.out.1 | exact (show Kept w _ (fun k_ => P0_ k_) from by repeat (first | (with_reducible first | exact HK.out | apply Kept.alloc | apply Kept.drewN | apply Kept.drew) | exact HK.out)).1) : w.heap.size ≤ gb163)); have n5_ := Aside0.mk ((by rw [hg]; exact (below_size (by repeat (first | (with_reducible first | exact HB.out | apply below_alloc | apply pw_below_drewN | apply below_drew1) | exact HB.out))) : w0.heap.size ≤ gb163)); clear HO_0; clear HK; clear HB; have HO_0 := n0_; have HK := n1_; have HB := n2_; have BK163 := n3_; have GW163 := n4_; have GE163 := n5_; clear n0_ n1_ n2_ n3_ n4_ n5_; clear hb hbox hg; have hcz21_0 : w20.cell? ⟨gb163, 0, none⟩ = some (.int .i64 0) := (blk_cell BK163.out 0).trans rfl; have hcz21_1 : w20.cell? ⟨gb163, 1, none⟩ = some (.int .i64 0) := (blk_cell BK163.out 1).trans rfl; have hfz21_0 := blk_frozen BK163.out 0; have hfz21_1 := blk_frozen BK163.out 1) | ((with_reducible refine gate_store (t := 48) (p := 11) rfl ?_); (try (rw [drewN_self w20]; generalize hq_ : World.drewN w20 _ = w20; have n0_ := Aside0.mk (Kd.R_at hq_ HO_0.out); have n1_ := Aside0.mk (blk_at hq_ BK163.out); have n2_ := Aside0.mk (kept_at hq_ HK.out); have n3_ := Aside0.mk (below_at hq_ HB.out); clear hq_ HO_0 BK163 HK HB; have HO_0 := n0_; have BK163 := n1_; have HK := n2_; have HB := n3_; clear n0_ n1_ n2_ n3_)); refine store_event (t := 48) (p := 11) (v := ?vo_w22) (w1 := ((w20.setCell ⟨gb163, 0, none⟩ (.int .i64 ((rd_T48 x0_1 (rd l1 x9_1)).f0))).setCell ⟨gb163, 1, none⟩ (.int .i64 ((rd_T48 x0_1 (rd l1 x9_1)).f1)))) ?hg ?ho ?hn ?hr ?_; (case ho => rfl); (case hg => rfl); (case hn => rfl); (case hr => first | (go_simp; done) | (go_simp; rfl)); intro w22 hw; have n0_ : Aside0 (Kd.R k48 48 w22 w0.heap.size (fun k_ => (P0_ k_ ∨ w.heap.size ≤ k_) ∧ k_ ≠ gb163) (.slice (some ad160) x0_1.length co19) x0_1) := ⟨(by rw [hw]; exact (by (with_reducible repeat (first | apply Kd.R_alloc | apply Kd.R_drewN | apply Kd.R_drew)); exact Kd.R_mono (Kd.R_far (p := ⟨gb163, 1, none⟩) (Kd.R_far (p := ⟨gb163, 0, none⟩) (Kd.R_mono HO_0.out (fun k_ hk => (⟨hk, hk.2⟩ : _ ∧ k_ ≠ gb163))) (fun _ hk => hk.2) (.int .i64 ((rd_T48 x0_1 (rd l1 x9_1)).f0))) (fun _ hk => hk.2) (.int .i64 ((rd_T48 x0_1 (rd l1 x9_1)).f1))) (fun _ hk => ⟨hk.1.1, hk.1.2⟩)))⟩; have n1_ : Aside0 (w22.heap[gb163]? = some (.cells #[.int .i64 ((rd_T48 x0_1 (rd l1 x9_1)).f0), .int .i64 ((rd_T48 x0_1 (rd l1 x9_1)).f1)] 48 (0, 0))) := ⟨(by rw [hw]; exact (by (with_reducible repeat (first | refine blk_drewN ?_ _ | refine blk_drew ?_ | refine blk_alloc ?_ _)); refine blk_put (cs := #[.int .i64 ((rd_T48 x0_1 (rd l1 x9_1)).f0), .int .i64 0]) ?_ 1 _ rfl; (with_reducible repeat (first | refine blk_drewN ?_ _ | refine blk_drew ?_ | refine blk_alloc ?_ _)); refine blk_put (cs := #[.int .i64 0, .int .i64 0]) ?_ 0 _ rfl; (with_reducible repeat (first | refine blk_drewN ?_ _ | refine blk_drew ?_ | refine blk_alloc ?_ _)); exact BK163.out))⟩; have n2_ : Aside0 (Kept w w22 (fun k_ => P0_ k_)) := ⟨(by rw [hw]; exact (by repeat (first | (with_reducible first | exact HK.out | apply Kept.alloc | apply Kept.drewN | apply Kept.drew | refine Kept.setCell ?_ (.inr GW163.out) _) | exact HK.out)))⟩; have n3_ : Aside0 (Below w0.heap.size w0 w22) := ⟨(by rw [hw]; exact (by repeat (first | (with_reducible first | exact HB.out | apply below_alloc | apply pw_below_drewN | apply below_drew1 | refine below_set ?_ GE163.out) | exact HB.out)))⟩; clear hw; clear HO_0; clear BK163; clear HK; clear HB; have HO_0 := n0_; have BK163 := n1_; have HK := n2_; have HB := n3_; clear n0_ n1_ n2_ n3_; have p164 : 0 ≤ ((ji12) : Int) := of_decide_eq_true (by first | (with_reducible assumption) | assumption); have q164 : (ji12) < (x0_1.length : Int) := of_decide_eq_true (by first | (with_reducible assumption) | assumption); obtain ⟨ad164, e164, hx164_0, hx164_1⟩ := at_T48 (Kd.R_reads' HO_0.out).2.2 (ji12) p164 q164; obtain rfl : ad160 = ad164 := (by injection e164); replace p164 := eq_true p164; replace q164 := eq_true q164; have p17 : 0 ≤ ((rd l1 x9_1) : Int) := of_decide_eq_true (by first | (with_reducible assumption) | assumption); have q17 : ((rd l1 x9_1) : Int) < ((x0_1.length : Int) : Int) := of_decide_eq_true (by first | (with_reducible assumption) | assumption); obtain ⟨go17, co17, eo17, gb17, gl17, cl17, HG17⟩ := Kd.R_form HO_0.out (by omega); (first | cases eo17 | (injection eo17 with ea_ en_ ec_; (first | subst ea_ | (injection ea_ with ea_; subst ea_)); subst ec_; clear en_)); have GB17 := Aside0.mk gb17; have GG17 := Aside0.mk HG17; clear gb17 gl17 HG17; have HMgo17 := Aside0.mk (show (P0_ go17 ∨ w.heap.size ≤ go17) from (HO_0.out.1 _ rfl).1); (first | simp only [add_plain] at hx160_0 | skip); (first | simp only [add_plain] at hx160_1 | skip); (first | simp only [add_plain] at hx161_0 | skip); (first | simp only [add_plain] at hx161_1 | skip); (first | simp only [add_plain] at hx162_0 | skip); (first | simp only [add_plain] at hx162_1 | skip); (first | simp only [add_plain] at hx164_0 | skip); (first | simp only [add_plain] at hx164_1 | skip); obtain ⟨ce17, hcl17, hM17, hcc17, hfr17⟩ := Kd.R_elem HO_0.out z48 ((rd l1 x9_1) : Int) p17 q17; obtain rfl := k48_openM hM17; have hx17_0 : w22.cell? ⟨go17, ((rd l1 x9_1) : Int).toNat * 2, none⟩ = some (.int .i64 ((rd_T48 x0_1 (rd l1 x9_1)).f0)) := hcc17 0 _ rfl; have hx17_1 : w22.cell? ⟨go17, ((rd l1 x9_1) : Int).toNat * 2 + 1, none⟩ = some (.int .i64 ((rd_T48 x0_1 (rd l1 x9_1)).f1)) := hcc17 1 _ rfl; have hf17_0 : w22.frozen? ⟨go17, ((rd l1 x9_1) : Int).toNat * 2, none⟩ = false := hfr17 0; have hf17_1 : w22.frozen? ⟨go17, ((rd l1 x9_1) : Int).toNat * 2 + 1, none⟩ = false := hfr17 1; clear hcl17 hcc17 hfr17 hM17; replace p17 := eq_true p17; replace q17 := eq_true q17; have HX23 := Aside0.mk (show Kd.R k48 48 w22 w0.heap.size (fun k_ => (P0_ k_ ∨ w.heap.size ≤ k_) ∧ k_ ≠ gb163) (.slice (some ⟨go17, 0, none⟩) x0_1.length co19) x0_1 from (by (with_reducible repeat (first | apply Kd.R_alloc | apply Kd.R_drewN | apply Kd.R_drew)); exact HO_0.out)); obtain ⟨ce23, hcl23, hM23, hcc23, hfr23⟩ := Kd.R_elem HX23.out z48 ((rd l1 x9_1) : Int) (of_decide_eq_true (by first | (with_reducible assumption) | assumption)) (by have h_ : ((rd l1 x9_1) : Int) < ((x0_1.length : Int) : Int) := of_decide_eq_true (by first | (with_reducible assumption) | assumption); first | exact h_ | (have e_ := (Kd.R_reads' HO_0.out).1; omega) | simpa using h_); obtain rfl := k48_openM hM23; have HP23 := Kd.R_seg HX23.out ((rd l1 x9_1) : Int) (of_decide_eq_true (by first | (with_reducible assumption) | assumption)) (by have h_ : ((rd l1 x9_1) : Int) < ((x0_1.length : Int) : Int) := of_decide_eq_true (by first | (with_reducible assumption) | assumption); first | exact h_ | (have e_ := (Kd.R_reads' HO_0.out).1; omega) | simpa using h_) (seg := [.int .i64 ((rd_T48 x0_1 (ji12)).f0), .int .i64 ((rd_T48 x0_1 (ji12)).f1)]) (j := 0) hcl23 hcc23 (show 2 ≤ 2 from by decide) (x' := (⟨(rd_T48 x0_1 (ji12)).f0, (rd_T48 x0_1 (ji12)).f1⟩ : S48)) (k48_mkM _ _ _ (⟨(rd_T48 x0_1 (ji12)).f0, (rd_T48 x0_1 (ji12)).f1⟩ : S48) ) (fun _ hk => hk); have hx23_0 := hcc23 0 _ rfl; (try simp only [show (k48).sz = 2 from rfl, Nat.mul_one, Nat.add_zero] at hx23_0); have hf23_0 := hfr23 0; (try simp only [show (k48).sz = 2 from rfl, Nat.mul_one, Nat.add_zero] at hf23_0); have hx23_1 := hcc23 1 _ rfl; (try simp only [show (k48).sz = 2 from rfl, Nat.mul_one, Nat.add_zero] at hx23_1); have hf23_1 := hfr23 1; (try simp only [show (k48).sz = 2 from rfl, Nat.mul_one, Nat.add_zero] at hf23_1); clear hcl23 hcc23 hfr23 hM23) | ((with_reducible refine gate_store (t := 48) (p := 56) rfl ?_); (try (rw [drewN_self w22]; generalize hq_ : World.drewN w22 _ = w22; have n0_ := Aside0.mk (Kd.R_at hq_ HO_0.out); have n1_ := Aside0.mk (blk_at hq_ BK163.out); have n2_ := Aside0.mk (kept_at hq_ HK.out); have n3_ := Aside0.mk (below_at hq_ HB.out); clear hq_ HO_0 BK163 HK HB; have HO_0 := n0_; have BK163 := n1_; have HK := n2_; have HB := n3_; clear n0_ n1_ n2_ n3_; (try (have HX23 := Aside0.mk (show Kd.R k48 48 w22 w0.heap.size (fun k_ => (P0_ k_ ∨ w.heap.size ≤ k_) ∧ k_ ≠ gb163) (.slice (some ⟨go17, 0, none⟩) x0_1.length co19) x0_1 from (by (with_reducible repeat (first | apply Kd.R_alloc | apply Kd.R_drewN | apply Kd.R_drew)); exact HO_0.out)))); (try (obtain ⟨ce23, hcl23, hM23, hcc23, hfr23⟩ := Kd.R_elem HX23.out z48 ((rd l1 x9_1) : Int) (of_decide_eq_true (by first | (with_reducible assumption) | assumption)) (by have h_ : ((rd l1 x9_1) : Int) < ((x0_1.length : Int) : Int) := of_decide_eq_true (by first | (with_reducible assumption) | assumption); first | exact h_ | (have e_ := (Kd.R_reads' HO_0.out).1; omega) | simpa using h_))); (try (obtain rfl := k48_openM hM23)); (try (have HP23 := Kd.R_seg HX23.out ((rd l1 x9_1) : Int) (of_decide_eq_true (by first | (with_reducible assumption) | assumption)) (by have h_ : ((rd l1 x9_1) : Int) < ((x0_1.length : Int) : Int) := of_decide_eq_true (by first | (with_reducible assumption) | assumption); first | exact h_ | (have e_ := (Kd.R_reads' HO_0.out).1; omega) | simpa using h_) (seg := [.int .i64 ((rd_T48 x0_1 (ji12)).f0), .int .i64 ((rd_T48 x0_1 (ji12)).f1)]) (j := 0) hcl23 hcc23 (show 2 ≤ 2 from by decide) (x' := (⟨(rd_T48 x0_1 (ji12)).f0, (rd_T48 x0_1 (ji12)).f1⟩ : S48)) (k48_mkM _ _ _ (⟨(rd_T48 x0_1 (ji12)).f0, (rd_T48 x0_1 (ji12)).f1⟩ : S48) ) (fun _ hk => hk))); (try (have hx23_0 := hcc23 0 _ rfl)); (try (try simp only [show (k48).sz = 2 from rfl, Nat.mul_one, Nat.add_zero] at hx23_0)); (try (have hf23_0 := hfr23 0)); (try (try simp only [show (k48).sz = 2 from rfl, Nat.mul_one, Nat.add_zero] at hf23_0)); (try (have hx23_1 := hcc23 1 _ rfl)); (try (try simp only [show (k48).sz = 2 from rfl, Nat.mul_one, Nat.add_zero] at hx23_1)); (try (have hf23_1 := hfr23 1)); (try (try simp only [show (k48).sz = 2 from rfl, Nat.mul_one, Nat.add_zero] at hf23_1)); (try (clear hcl23 hcc23 hfr23 hM23)))); refine store_event (t := 48) (p := 56) (v := ?vo_w24) (w1 := ((w22.setCell ⟨go17, ((rd l1 x9_1) : Int).toNat * 2, none⟩ (.int .i64 ((rd_T48 x0_1 (ji12)).f0))).setCell ⟨go17, ((rd l1 x9_1) : Int).toNat * 2 + 1, none⟩ (.int .i64 ((rd_T48 x0_1 (ji12)).f1)))) ?hg ?ho ?hn ?hr ?_; (case ho => rfl); (case hg => rfl); (case hn => rfl); (case hr => first | (go_simp; done) | (go_simp; rfl)); intro w24 hw; have hg : w22.grownBy w24 (some go17) := (by rw [hw]; exact HP23.2); have hp_ : Kd.R k48 48 w24 w0.heap.size (fun k_ => (P0_ k_ ∨ w.heap.size ≤ k_) ∧ k_ ≠ gb163) (.slice (some ⟨go17, 0, none⟩) x0_1.length co19) y165 := (by rw [hw, Ny165.out]; exact HP23.1); clear HP23; have n0_ := Aside0.mk (hp_); have n1_ := Aside0.mk (blk_grown (g := gb163) (o := .cells #[.int .i64 ((rd_T48 x0_1 (rd l1 x9_1)).f0), .int .i64 ((rd_T48 x0_1 (rd l1 x9_1)).f1)] 48 (0, 0)) (by (with_reducible repeat (first | refine blk_drewN ?_ _ | refine blk_drew ?_ | refine blk_alloc ?_ _)); exact BK163.out) hg (Kd.R_away HO_0.out (fun _ hk => hk.2))); have n2_ := Aside0.mk ((by rw [hw]; exact below_set (below_set (HB.out) GB17.out) GB17.out : Below w0.heap.size w0 w24)); have n3_ := Aside0.mk (Kept.of_grown (S := (fun k_ => P0_ k_)) hg (by repeat (first | (with_reducible first | exact HK.out | apply Kept.alloc | apply Kept.drewN | apply Kept.drew | refine Kept.setCell ?_ (.inr GW163.out) _) | exact HK.out)) (fun k_ e_ => (HO_0.out.1 k_ e_).1)); clear HO_0; clear BK163; clear HB; clear HK; have HO_0 := n0_; have BK163 := n1_; have HB := n2_; have HK := n3_; clear n0_ n1_ n2_ n3_; clear hg hw hp_; have hcz25_0 : w24.cell? ⟨gb163, 0, none⟩ = some (.int .i64 ((rd_T48 x0_1 (rd l1 x9_1)).f0)) := (blk_cell BK163.out 0).trans rfl; have hcz25_1 : w24.cell? ⟨gb163, 1, none⟩ = some (.int .i64 ((rd_T48 x0_1 (rd l1 x9_1)).f1)) := (blk_cell BK163.out 1).trans rfl; have hfz25_0 := blk_frozen BK163.out 0; have hfz25_1 := blk_frozen BK163.out 1; have p18 : 0 ≤ ((ji12) : Int) := of_decide_eq_true (by first | (with_reducible assumption) | assumption); have q18 : ((ji12) : Int) < ((x0_1.length : Int) : Int) := of_decide_eq_true (by first | (with_reducible assumption) | assumption); obtain ⟨ce18, hcl18, hM18, hcc18, hfr18⟩ := Kd.R_elem HO_0.out z48 ((ji12) : Int) p18 q18; obtain rfl := k48_openM hM18; have hx18_0 : w24.cell? ⟨go17, ((ji12) : Int).toNat * 2, none⟩ = some (.int .i64 ((rd_T48 y165 (ji12)).f0)) := hcc18 0 _ rfl; have hx18_1 : w24.cell? ⟨go17, ((ji12) : Int).toNat * 2 + 1, none⟩ = some (.int .i64 ((rd_T48 y165 (ji12)).f1)) := hcc18 1 _ rfl; have hf18_0 : w24.frozen? ⟨go17, ((ji12) : Int).toNat * 2, none⟩ = false := hfr18 0; have hf18_1 : w24.frozen? ⟨go17, ((ji12) : Int).toNat * 2 + 1, none⟩ = false := hfr18 1; clear hcl18 hcc18 hfr18 hM18; replace p18 := eq_true p18; replace q18 := eq_true q18; have HX26 := Aside0.mk (show Kd.R k48 48 w24 w0.heap.size (fun k_ => (P0_ k_ ∨ w.heap.size ≤ k_) ∧ k_ ≠ gb163) (.slice (some ⟨go17, 0, none⟩) x0_1.length co19) y165 from (by (with_reducible repeat (first | apply Kd.R_alloc | apply Kd.R_drewN | apply Kd.R_drew)); exact HO_0.out)); obtain ⟨ce26, hcl26, hM26, hcc26, hfr26⟩ := Kd.R_elem HX26.out z48 ((ji12) : Int) (of_decide_eq_true (by first | (with_reducible assumption) | assumption)) (by have h_ : ((ji12) : Int) < ((x0_1.length : Int) : Int) := of_decide_eq_true (by first | (with_reducible assumption) | assumption); first | exact h_ | (have e_ := (Kd.R_reads' HO_0.out).1; omega) | simpa using h_); obtain rfl := k48_openM hM26; have HP26 := Kd.R_seg HX26.out ((ji12) : Int) (of_decide_eq_true (by first | (with_reducible assumption) | assumption)) (by have h_ : ((ji12) : Int) < ((x0_1.length : Int) : Int) := of_decide_eq_true (by first | (with_reducible assumption) | assumption); first | exact h_ | (have e_ := (Kd.R_reads' HO_0.out).1; omega) | simpa using h_) (seg := [.int .i64 ((rd_T48 x0_1 (rd l1 x9_1)).f0), .int .i64 ((rd_T48 x0_1 (rd l1 x9_1)).f1)]) (j := 0) hcl26 hcc26 (show 2 ≤ 2 from by decide) (x' := (⟨(rd_T48 x0_1 (rd l1 x9_1)).f0, (rd_T48 x0_1 (rd l1 x9_1)).f1⟩ : S48)) (k48_mkM _ _ _ (⟨(rd_T48 x0_1 (rd l1 x9_1)).f0, (rd_T48 x0_1 (rd l1 x9_1)).f1⟩ : S48) ) (fun _ hk => hk); have hx26_0 := hcc26 0 _ rfl; (try simp only [show (k48).sz = 2 from rfl, Nat.mul_one, Nat.add_zero] at hx26_0); have hf26_0 := hfr26 0; (try simp only [show (k48).sz = 2 from rfl, Nat.mul_one, Nat.add_zero] at hf26_0); have hx26_1 := hcc26 1 _ rfl; (try simp only [show (k48).sz = 2 from rfl, Nat.mul_one, Nat.add_zero] at hx26_1); have hf26_1 := hfr26 1; (try simp only [show (k48).sz = 2 from rfl, Nat.mul_one, Nat.add_zero] at hf26_1); clear hcl26 hcc26 hfr26 hM26) | ((with_reducible refine gate_store (t := 48) (p := 61) rfl ?_); (try (rw [drewN_self w24]; generalize hq_ : World.drewN w24 _ = w24; have n0_ := Aside0.mk (Kd.R_at hq_ HO_0.out); have n1_ := Aside0.mk (blk_at hq_ BK163.out); have n2_ := Aside0.mk (kept_at hq_ HK.out); have n3_ := Aside0.mk (below_at hq_ HB.out); clear hq_ HO_0 BK163 HK HB; have HO_0 := n0_; have BK163 := n1_; have HK := n2_; have HB := n3_; clear n0_ n1_ n2_ n3_; (try (have HX26 := Aside0.mk (show Kd.R k48 48 w24 w0.heap.size (fun k_ => (P0_ k_ ∨ w.heap.size ≤ k_) ∧ k_ ≠ gb163) (.slice (some ⟨go17, 0, none⟩) x0_1.length co19) y165 from (by (with_reducible repeat (first | apply Kd.R_alloc | apply Kd.R_drewN | apply Kd.R_drew)); exact HO_0.out)))); (try (obtain ⟨ce26, hcl26, hM26, hcc26, hfr26⟩ := Kd.R_elem HX26.out z48 ((ji12) : Int) (of_decide_eq_true (by first | (with_reducible assumption) | assumption)) (by have h_ : ((ji12) : Int) < ((x0_1.length : Int) : Int) := of_decide_eq_true (by first | (with_reducible assumption) | assumption); first | exact h_ | (have e_ := (Kd.R_reads' HO_0.out).1; omega) | simpa using h_))); (try (obtain rfl := k48_openM hM26)); (try (have HP26 := Kd.R_seg HX26.out ((ji12) : Int) (of_decide_eq_true (by first | (with_reducible assumption) | assumption)) (by have h_ : ((ji12) : Int) < ((x0_1.length : Int) : Int) := of_decide_eq_true (by first | (with_reducible assumption) | assumption); first | exact h_ | (have e_ := (Kd.R_reads' HO_0.out).1; omega) | simpa using h_) (seg := [.int .i64 ((rd_T48 x0_1 (rd l1 x9_1)).f0), .int .i64 ((rd_T48 x0_1 (rd l1 x9_1)).f1)]) (j := 0) hcl26 hcc26 (show 2 ≤ 2 from by decide) (x' := (⟨(rd_T48 x0_1 (rd l1 x9_1)).f0, (rd_T48 x0_1 (rd l1 x9_1)).f1⟩ : S48)) (k48_mkM _ _ _ (⟨(rd_T48 x0_1 (rd l1 x9_1)).f0, (rd_T48 x0_1 (rd l1 x9_1)).f1⟩ : S48) ) (fun _ hk => hk))); (try (have hx26_0 := hcc26 0 _ rfl)); (try (try simp only [show (k48).sz = 2 from rfl, Nat.mul_one, Nat.add_zero] at hx26_0)); (try (have hf26_0 := hfr26 0)); (try (try simp only [show (k48).sz = 2 from rfl, Nat.mul_one, Nat.add_zero] at hf26_0)); (try (have hx26_1 := hcc26 1 _ rfl)); (try (try simp only [show (k48).sz = 2 from rfl, Nat.mul_one, Nat.add_zero] at hx26_1)); (try (have hf26_1 := hfr26 1)); (try (try simp only [show (k48).sz = 2 from rfl, Nat.mul_one, Nat.add_zero] at hf26_1)); (try (clear hcl26 hcc26 hfr26 hM26)))); refine store_event (t := 48) (p := 61) (v := ?vo_w27) (w1 := ((w24.setCell ⟨go17, ((ji12) : Int).toNat * 2, none⟩ (.int .i64 ((rd_T48 x0_1 (rd l1 x9_1)).f0))).setCell ⟨go17, ((ji12) : Int).toNat * 2 + 1, none⟩ (.int .i64 ((rd_T48 x0_1 (rd l1 x9_1)).f1)))) ?hg ?ho ?hn ?hr ?_; (case ho => rfl); (case hg => rfl); (case hn => rfl); (case hr => first | (go_simp; done) | (go_simp; rfl)); intro w27 hw; have hg : w24.grownBy w27 (some go17) := (by rw [hw]; exact HP26.2); have hp_ : Kd.R k48 48 w27 w0.heap.size (fun k_ => (P0_ k_ ∨ w.heap.size ≤ k_) ∧ k_ ≠ gb163) (.slice (some ⟨go17, 0, none⟩) x0_1.length co19) y166 := (by rw [hw, Ny166.out]; exact HP26.1); clear HP26; have n0_ := Aside0.mk (hp_); have n1_ := Aside0.mk (blk_grown (g := gb163) (o := .cells #[.int .i64 ((rd_T48 x0_1 (rd l1 x9_1)).f0), .int .i64 ((rd_T48 x0_1 (rd l1 x9_1)).f1)] 48 (0, 0)) (by (with_reducible repeat (first | refine blk_drewN ?_ _ | refine blk_drew ?_ | refine blk_alloc ?_ _)); exact BK163.out) hg (Kd.R_away HO_0.out (fun _ hk => hk.2))); have n2_ := Aside0.mk ((by rw [hw]; exact below_set (below_set (HB.out) GB17.out) GB17.out : Below w0.heap.size w0 w27)); have n3_ := Aside0.mk (Kept.of_grown (S := (fun k_ => P0_ k_)) hg (by repeat (first | (with_reducible first | exact HK.out | apply Kept.alloc | apply Kept.drewN | apply Kept.drew | refine Kept.setCell ?_ (.inr GW163.out) _) | exact HK.out)) (fun k_ e_ => (HO_0.out.1 k_ e_).1)); clear HO_0; clear BK163; clear HB; clear HK; have HO_0 := n0_; have BK163 := n1_; have HB := n2_; have HK := n3_; clear n0_ n1_ n2_ n3_; clear hg hw hp_))
                        repeat (go_quiet (first | ((with_reducible refine gate_dst (N := 11) rfl ?_); (try (refine gate_guard (by rfl) ?_; dsimp only)); refine box_event ?hg (N := 11) ?hd (cs := #[.int .i64 0, .int .i64 0]) (t := 48) ?hr ?_; (case hd => rfl); (case hg => rfl); (case hr => first | (go_simp; done) | (go_simp; rfl)); intro gb163 hg w20 hbox hb; have n0_ := Aside0.mk (Kd.R_below (Kd.R_elderB (by (with_reducible repeat (first | apply Kd.R_alloc | apply Kd.R_drewN | apply Kd.R_drew)); exact HO_0.out) gb163 (Nat.le_of_eq hg.symm)) hb); have n1_ := Aside0.mk (Kept.below (S := (fun k_ => P0_ k_)) (by repeat (first | (with_reducible first | exact HK.out | apply Kept.alloc | apply Kept.drewN | apply Kept.drew) | exact HK.out)) hb); have n2_ := Aside0.mk (below_step (by repeat (first | (with_reducible first | exact HB.out | apply below_alloc | apply pw_below_drewN | apply below_drew1) | exact HB.out)) hb); have n3_ := Aside0.mk (hbox); have n4_ := Aside0.mk ((by rw [hg]; exact (by first | exact HK.out.1 | exact (show Kept w _ (fun k_ => P0_ k_) from by repeat (first | (with_reducible first | exact HK.out | apply Kept.alloc | apply Kept.drewN | apply Kept.drew) | exact HK.out)).1) : w.heap.size ≤ gb163)); have n5_ := Aside0.mk ((by rw [hg]; exact (below_size (by repeat (first | (with_reducible first | exact HB.out | apply below_alloc | apply pw_below_drewN | apply below_drew1) | exact HB.out))) : w0.heap.size ≤ gb163)); clear HO_0; clear HK; clear HB; have HO_0 := n0_; have HK := n1_; have HB := n2_; have BK163 := n3_; have GW163 := n4_; have GE163 := n5_; clear n0_ n1_ n2_ n3_ n4_ n5_; clear hb hbox hg; have hcz21_0 : w20.cell? ⟨gb163, 0, none⟩ = some (.int .i64 0) := (blk_cell BK163.out 0).trans rfl; have hcz21_1 : w20.cell? ⟨gb163, 1, none⟩ = some (.int .i64 0) := (blk_cell BK163.out 1).trans rfl; have hfz21_0 := blk_frozen BK163.out 0; have hfz21_1 := blk_frozen BK163.out 1) | ((with_reducible refine gate_store (t := 48) (p := 11) rfl ?_); (try (rw [drewN_self w20]; generalize hq_ : World.drewN w20 _ = w20; have n0_ := Aside0.mk (Kd.R_at hq_ HO_0.out); have n1_ := Aside0.mk (blk_at hq_ BK163.out); have n2_ := Aside0.mk (kept_at hq_ HK.out); have n3_ := Aside0.mk (below_at hq_ HB.out); clear hq_ HO_0 BK163 HK HB; have HO_0 := n0_; have BK163 := n1_; have HK := n2_; have HB := n3_; clear n0_ n1_ n2_ n3_)); refine store_event (t := 48) (p := 11) (v := ?vo_w22) (w1 := ((w20.setCell ⟨gb163, 0, none⟩ (.int .i64 ((rd_T48 x0_1 (rd l1 x9_1)).f0))).setCell ⟨gb163, 1, none⟩ (.int .i64 ((rd_T48 x0_1 (rd l1 x9_1)).f1)))) ?hg ?ho ?hn ?hr ?_; (case ho => rfl); (case hg => rfl); (case hn => rfl); (case hr => first | (go_simp; done) | (go_simp; rfl)); intro w22 hw; have n0_ : Aside0 (Kd.R k48 48 w22 w0.heap.size (fun k_ => (P0_ k_ ∨ w.heap.size ≤ k_) ∧ k_ ≠ gb163) (.slice (some ad160) x0_1.length co19) x0_1) := ⟨(by rw [hw]; exact (by (with_reducible repeat (first | apply Kd.R_alloc | apply Kd.R_drewN | apply Kd.R_drew)); exact Kd.R_mono (Kd.R_far (p := ⟨gb163, 1, none⟩) (Kd.R_far (p := ⟨gb163, 0, none⟩) (Kd.R_mono HO_0.out (fun k_ hk => (⟨hk, hk.2⟩ : _ ∧ k_ ≠ gb163))) (fun _ hk => hk.2) (.int .i64 ((rd_T48 x0_1 (rd l1 x9_1)).f0))) (fun _ hk => hk.2) (.int .i64 ((rd_T48 x0_1 (rd l1 x9_1)).f1))) (fun _ hk => ⟨hk.1.1, hk.1.2⟩)))⟩; have n1_ : Aside0 (w22.heap[gb163]? = some (.cells #[.int .i64 ((rd_T48 x0_1 (rd l1 x9_1)).f0), .int .i64 ((rd_T48 x0_1 (rd l1 x9_1)).f1)] 48 (0, 0))) := ⟨(by rw [hw]; exact (by (with_reducible repeat (first | refine blk_drewN ?_ _ | refine blk_drew ?_ | refine blk_alloc ?_ _)); refine blk_put (cs := #[.int .i64 ((rd_T48 x0_1 (rd l1 x9_1)).f0), .int .i64 0]) ?_ 1 _ rfl; (with_reducible repeat (first | refine blk_drewN ?_ _ | refine blk_drew ?_ | refine blk_alloc ?_ _)); refine blk_put (cs := #[.int .i64 0, .int .i64 0]) ?_ 0 _ rfl; (with_reducible repeat (first | refine blk_drewN ?_ _ | refine blk_drew ?_ | refine blk_alloc ?_ _)); exact BK163.out))⟩; have n2_ : Aside0 (Kept w w22 (fun k_ => P0_ k_)) := ⟨(by rw [hw]; exact (by repeat (first | (with_reducible first | exact HK.out | apply Kept.alloc | apply Kept.drewN | apply Kept.drew | refine Kept.setCell ?_ (.inr GW163.out) _) | exact HK.out)))⟩; have n3_ : Aside0 (Below w0.heap.size w0 w22) := ⟨(by rw [hw]; exact (by repeat (first | (with_reducible first | exact HB.out | apply below_alloc | apply pw_below_drewN | apply below_drew1 | refine below_set ?_ GE163.out) | exact HB.out)))⟩; clear hw; clear HO_0; clear BK163; clear HK; clear HB; have HO_0 := n0_; have BK163 := n1_; have HK := n2_; have HB := n3_; clear n0_ n1_ n2_ n3_; have p164 : 0 ≤ ((ji12) : Int) := of_decide_eq_true (by first | (with_reducible assumption) | assumption); have q164 : (ji12) < (x0_1.length : Int) := of_decide_eq_true (by first | (with_reducible assumption) | assumption); obtain ⟨ad164, e164, hx164_0, hx164_1⟩ := at_T48 (Kd.R_reads' HO_0.out).2.2 (ji12) p164 q164; obtain rfl : ad160 = ad164 := (by injection e164); replace p164 := eq_true p164; replace q164 := eq_true q164; have p17 : 0 ≤ ((rd l1 x9_1) : Int) := of_decide_eq_true (by first | (with_reducible assumption) | assumption); have q17 : ((rd l1 x9_1) : Int) < ((x0_1.length : Int) : Int) := of_decide_eq_true (by first | (with_reducible assumption) | assumption); obtain ⟨go17, co17, eo17, gb17, gl17, cl17, HG17⟩ := Kd.R_form HO_0.out (by omega); (first | cases eo17 | (injection eo17 with ea_ en_ ec_; (first | subst ea_ | (injection ea_ with ea_; subst ea_)); subst ec_; clear en_)); have GB17 := Aside0.mk gb17; have GG17 := Aside0.mk HG17; clear gb17 gl17 HG17; have HMgo17 := Aside0.mk (show (P0_ go17 ∨ w.heap.size ≤ go17) from (HO_0.out.1 _ rfl).1); (first | simp only [add_plain] at hx160_0 | skip); (first | simp only [add_plain] at hx160_1 | skip); (first | simp only [add_plain] at hx161_0 | skip); (first | simp only [add_plain] at hx161_1 | skip); (first | simp only [add_plain] at hx162_0 | skip); (first | simp only [add_plain] at hx162_1 | skip); (first | simp only [add_plain] at hx164_0 | skip); (first | simp only [add_plain] at hx164_1 | skip); obtain ⟨ce17, hcl17, hM17, hcc17, hfr17⟩ := Kd.R_elem HO_0.out z48 ((rd l1 x9_1) : Int) p17 q17; obtain rfl := k48_openM hM17; have hx17_0 : w22.cell? ⟨go17, ((rd l1 x9_1) : Int).toNat * 2, none⟩ = some (.int .i64 ((rd_T48 x0_1 (rd l1 x9_1)).f0)) := hcc17 0 _ rfl; have hx17_1 : w22.cell? ⟨go17, ((rd l1 x9_1) : Int).toNat * 2 + 1, none⟩ = some (.int .i64 ((rd_T48 x0_1 (rd l1 x9_1)).f1)) := hcc17 1 _ rfl; have hf17_0 : w22.frozen? ⟨go17, ((rd l1 x9_1) : Int).toNat * 2, none⟩ = false := hfr17 0; have hf17_1 : w22.frozen? ⟨go17, ((rd l1 x9_1) : Int).toNat * 2 + 1, none⟩ = false := hfr17 1; clear hcl17 hcc17 hfr17 hM17; replace p17 := eq_true p17; replace q17 := eq_true q17; have HX23 := Aside0.mk (show Kd.R k48 48 w22 w0.heap.size (fun k_ => (P0_ k_ ∨ w.heap.size ≤ k_) ∧ k_ ≠ gb163) (.slice (some ⟨go17, 0, none⟩) x0_1.length co19) x0_1 from (by (with_reducible repeat (first | apply Kd.R_alloc | apply Kd.R_drewN | apply Kd.R_drew)); exact HO_0.out)); obtain ⟨ce23, hcl23, hM23, hcc23, hfr23⟩ := Kd.R_elem HX23.out z48 ((rd l1 x9_1) : Int) (of_decide_eq_true (by first | (with_reducible assumption) | assumption)) (by have h_ : ((rd l1 x9_1) : Int) < ((x0_1.length : Int) : Int) := of_decide_eq_true (by first | (with_reducible assumption) | assumption); first | exact h_ | (have e_ := (Kd.R_reads' HO_0.out).1; omega) | simpa using h_); obtain rfl := k48_openM hM23; have HP23 := Kd.R_seg HX23.out ((rd l1 x9_1) : Int) (of_decide_eq_true (by first | (with_reducible assumption) | assumption)) (by have h_ : ((rd l1 x9_1) : Int) < ((x0_1.length : Int) : Int) := of_decide_eq_true (by first | (with_reducible assumption) | assumption); first | exact h_ | (have e_ := (Kd.R_reads' HO_0.out).1; omega) | simpa using h_) (seg := [.int .i64 ((rd_T48 x0_1 (ji12)).f0), .int .i64 ((rd_T48 x0_1 (ji12)).f1)]) (j := 0) hcl23 hcc23 (show 2 ≤ 2 from by decide) (x' := (⟨(rd_T48 x0_1 (ji12)).f0, (rd_T48 x0_1 (ji12)).f1⟩ : S48)) (k48_mkM _ _ _ (⟨(rd_T48 x0_1 (ji12)).f0, (rd_T48 x0_1 (ji12)).f1⟩ : S48) ) (fun _ hk => hk); have hx23_0 := hcc23 0 _ rfl; (try simp only [show (k48).sz = 2 from rfl, Nat.mul_one, Nat.add_zero] at hx23_0); have hf23_0 := hfr23 0; (try simp only [show (k48).sz = 2 from rfl, Nat.mul_one, Nat.add_zero] at hf23_0); have hx23_1 := hcc23 1 _ rfl; (try simp only [show (k48).sz = 2 from rfl, Nat.mul_one, Nat.add_zero] at hx23_1); have hf23_1 := hfr23 1; (try simp only [show (k48).sz = 2 from rfl, Nat.mul_one, Nat.add_zero] at hf23_1); clear hcl23 hcc23 hfr23 hM23) | ((with_reducible refine gate_store (t := 48) (p := 56) rfl ?_); (try (rw [drewN_self w22]; generalize hq_ : World.drewN w22 _ = w22; have n0_ := Aside0.mk (Kd.R_at hq_ HO_0.out); have n1_ := Aside0.mk (blk_at hq_ BK163.out); have n2_ := Aside0.mk (kept_at hq_ HK.out); have n3_ := Aside0.mk (below_at hq_ HB.out); clear hq_ HO_0 BK163 HK HB; have HO_0 := n0_; have BK163 := n1_; have HK := n2_; have HB := n3_; clear n0_ n1_ n2_ n3_; (try (have HX23 := Aside0.mk (show Kd.R k48 48 w22 w0.heap.size (fun k_ => (P0_ k_ ∨ w.heap.size ≤ k_) ∧ k_ ≠ gb163) (.slice (some ⟨go17, 0, none⟩) x0_1.length co19) x0_1 from (by (with_reducible repeat (first | apply Kd.R_alloc | apply Kd.R_drewN | apply Kd.R_drew)); exact HO_0.out)))); (try (obtain ⟨ce23, hcl23, hM23, hcc23, hfr23⟩ := Kd.R_elem HX23.out z48 ((rd l1 x9_1) : Int) (of_decide_eq_true (by first | (with_reducible assumption) | assumption)) (by have h_ : ((rd l1 x9_1) : Int) < ((x0_1.length : Int) : Int) := of_decide_eq_true (by first | (with_reducible assumption) | assumption); first | exact h_ | (have e_ := (Kd.R_reads' HO_0.out).1; omega) | simpa using h_))); (try (obtain rfl := k48_openM hM23)); (try (have HP23 := Kd.R_seg HX23.out ((rd l1 x9_1) : Int) (of_decide_eq_true (by first | (with_reducible assumption) | assumption)) (by have h_ : ((rd l1 x9_1) : Int) < ((x0_1.length : Int) : Int) := of_decide_eq_true (by first | (with_reducible assumption) | assumption); first | exact h_ | (have e_ := (Kd.R_reads' HO_0.out).1; omega) | simpa using h_) (seg := [.int .i64 ((rd_T48 x0_1 (ji12)).f0), .int .i64 ((rd_T48 x0_1 (ji12)).f1)]) (j := 0) hcl23 hcc23 (show 2 ≤ 2 from by decide) (x' := (⟨(rd_T48 x0_1 (ji12)).f0, (rd_T48 x0_1 (ji12)).f1⟩ : S48)) (k48_mkM _ _ _ (⟨(rd_T48 x0_1 (ji12)).f0, (rd_T48 x0_1 (ji12)).f1⟩ : S48) ) (fun _ hk => hk))); (try (have hx23_0 := hcc23 0 _ rfl)); (try (try simp only [show (k48).sz = 2 from rfl, Nat.mul_one, Nat.add_zero] at hx23_0)); (try (have hf23_0 := hfr23 0)); (try (try simp only [show (k48).sz = 2 from rfl, Nat.mul_one, Nat.add_zero] at hf23_0)); (try (have hx23_1 := hcc23 1 _ rfl)); (try (try simp only [show (k48).sz = 2 from rfl, Nat.mul_one, Nat.add_zero] at hx23_1)); (try (have hf23_1 := hfr23 1)); (try (try simp only [show (k48).sz = 2 from rfl, Nat.mul_one, Nat.add_zero] at hf23_1)); (try (clear hcl23 hcc23 hfr23 hM23)))); refine store_event (t := 48) (p := 56) (v := ?vo_w24) (w1 := ((w22.setCell ⟨go17, ((rd l1 x9_1) : Int).toNat * 2, none⟩ (.int .i64 ((rd_T48 x0_1 (ji12)).f0))).setCell ⟨go17, ((rd l1 x9_1) : Int).toNat * 2 + 1, none⟩ (.int .i64 ((rd_T48 x0_1 (ji12)).f1)))) ?hg ?ho ?hn ?hr ?_; (case ho => rfl); (case hg => rfl); (case hn => rfl); (case hr => first | (go_simp; done) | (go_simp; rfl)); intro w24 hw; have hg : w22.grownBy w24 (some go17) := (by rw [hw]; exact HP23.2); have hp_ : Kd.R k48 48 w24 w0.heap.size (fun k_ => (P0_ k_ ∨ w.heap.size ≤ k_) ∧ k_ ≠ gb163) (.slice (some ⟨go17, 0, none⟩) x0_1.length co19) y165 := (by rw [hw, Ny165.out]; exact HP23.1); clear HP23; have n0_ := Aside0.mk (hp_); have n1_ := Aside0.mk (blk_grown (g := gb163) (o := .cells #[.int .i64 ((rd_T48 x0_1 (rd l1 x9_1)).f0), .int .i64 ((rd_T48 x0_1 (rd l1 x9_1)).f1)] 48 (0, 0)) (by (with_reducible repeat (first | refine blk_drewN ?_ _ | refine blk_drew ?_ | refine blk_alloc ?_ _)); exact BK163.out) hg (Kd.R_away HO_0.out (fun _ hk => hk.2))); have n2_ := Aside0.mk ((by rw [hw]; exact below_set (below_set (HB.out) GB17.out) GB17.out : Below w0.heap.size w0 w24)); have n3_ := Aside0.mk (Kept.of_grown (S := (fun k_ => P0_ k_)) hg (by repeat (first | (with_reducible first | exact HK.out | apply Kept.alloc | apply Kept.drewN | apply Kept.drew | refine Kept.setCell ?_ (.inr GW163.out) _) | exact HK.out)) (fun k_ e_ => (HO_0.out.1 k_ e_).1)); clear HO_0; clear BK163; clear HB; clear HK; have HO_0 := n0_; have BK163 := n1_; have HB := n2_; have HK := n3_; clear n0_ n1_ n2_ n3_; clear hg hw hp_; have hcz25_0 : w24.cell? ⟨gb163, 0, none⟩ = some (.int .i64 ((rd_T48 x0_1 (rd l1 x9_1)).f0)) := (blk_cell BK163.out 0).trans rfl; have hcz25_1 : w24.cell? ⟨gb163, 1, none⟩ = some (.int .i64 ((rd_T48 x0_1 (rd l1 x9_1)).f1)) := (blk_cell BK163.out 1).trans rfl; have hfz25_0 := blk_frozen BK163.out 0; have hfz25_1 := blk_frozen BK163.out 1; have p18 : 0 ≤ ((ji12) : Int) := of_decide_eq_true (by first | (with_reducible assumption) | assumption); have q18 : ((ji12) : Int) < ((x0_1.length : Int) : Int) := of_decide_eq_true (by first | (with_reducible assumption) | assumption); obtain ⟨ce18, hcl18, hM18, hcc18, hfr18⟩ := Kd.R_elem HO_0.out z48 ((ji12) : Int) p18 q18; obtain rfl := k48_openM hM18; have hx18_0 : w24.cell? ⟨go17, ((ji12) : Int).toNat * 2, none⟩ = some (.int .i64 ((rd_T48 y165 (ji12)).f0)) := hcc18 0 _ rfl; have hx18_1 : w24.cell? ⟨go17, ((ji12) : Int).toNat * 2 + 1, none⟩ = some (.int .i64 ((rd_T48 y165 (ji12)).f1)) := hcc18 1 _ rfl; have hf18_0 : w24.frozen? ⟨go17, ((ji12) : Int).toNat * 2, none⟩ = false := hfr18 0; have hf18_1 : w24.frozen? ⟨go17, ((ji12) : Int).toNat * 2 + 1, none⟩ = false := hfr18 1; clear hcl18 hcc18 hfr18 hM18; replace p18 := eq_true p18; replace q18 := eq_true q18; have HX26 := Aside0.mk (show Kd.R k48 48 w24 w0.heap.size (fun k_ => (P0_ k_ ∨ w.heap.size ≤ k_) ∧ k_ ≠ gb163) (.slice (some ⟨go17, 0, none⟩) x0_1.length co19) y165 from (by (with_reducible repeat (first | apply Kd.R_alloc | apply Kd.R_drewN | apply Kd.R_drew)); exact HO_0.out)); obtain ⟨ce26, hcl26, hM26, hcc26, hfr26⟩ := Kd.R_elem HX26.out z48 ((ji12) : Int) (of_decide_eq_true (by first | (with_reducible assumption) | assumption)) (by have h_ : ((ji12) : Int) < ((x0_1.length : Int) : Int) := of_decide_eq_true (by first | (with_reducible assumption) | assumption); first | exact h_ | (have e_ := (Kd.R_reads' HO_0.out).1; omega) | simpa using h_); obtain rfl := k48_openM hM26; have HP26 := Kd.R_seg HX26.out ((ji12) : Int) (of_decide_eq_true (by first | (with_reducible assumption) | assumption)) (by have h_ : ((ji12) : Int) < ((x0_1.length : Int) : Int) := of_decide_eq_true (by first | (with_reducible assumption) | assumption); first | exact h_ | (have e_ := (Kd.R_reads' HO_0.out).1; omega) | simpa using h_) (seg := [.int .i64 ((rd_T48 x0_1 (rd l1 x9_1)).f0), .int .i64 ((rd_T48 x0_1 (rd l1 x9_1)).f1)]) (j := 0) hcl26 hcc26 (show 2 ≤ 2 from by decide) (x' := (⟨(rd_T48 x0_1 (rd l1 x9_1)).f0, (rd_T48 x0_1 (rd l1 x9_1)).f1⟩ : S48)) (k48_mkM _ _ _ (⟨(rd_T48 x0_1 (rd l1 x9_1)).f0, (rd_T48 x0_1 (rd l1 x9_1)).f1⟩ : S48) ) (fun _ hk => hk); have hx26_0 := hcc26 0 _ rfl; (try simp only [show (k48).sz = 2 from rfl, Nat.mul_one, Nat.add_zero] at hx26_0); have hf26_0 := hfr26 0; (try simp only [show (k48).sz = 2 from rfl, Nat.mul_one, Nat.add_zero] at hf26_0); have hx26_1 := hcc26 1 _ rfl; (try simp only [show (k48).sz = 2 from rfl, Nat.mul_one, Nat.add_zero] at hx26_1); have hf26_1 := hfr26 1; (try simp only [show (k48).sz = 2 from rfl, Nat.mul_one, Nat.add_zero] at hf26_1); clear hcl26 hcc26 hfr26 hM26) | ((with_reducible refine gate_store (t := 48) (p := 61) rfl ?_); (try (rw [drewN_self w24]; generalize hq_ : World.drewN w24 _ = w24; have n0_ := Aside0.mk (Kd.R_at hq_ HO_0.out); have n1_ := Aside0.mk (blk_at hq_ BK163.out); have n2_ := Aside0.mk (kept_at hq_ HK.out); have n3_ := Aside0.mk (below_at hq_ HB.out); clear hq_ HO_0 BK163 HK HB; have HO_0 := n0_; have BK163 := n1_; have HK := n2_; have HB := n3_; clear n0_ n1_ n2_ n3_; (try (have HX26 := Aside0.mk (show Kd.R k48 48 w24 w0.heap.size (fun k_ => (P0_ k_ ∨ w.heap.size ≤ k_) ∧ k_ ≠ gb163) (.slice (some ⟨go17, 0, none⟩) x0_1.length co19) y165 from (by (with_reducible repeat (first | apply Kd.R_alloc | apply Kd.R_drewN | apply Kd.R_drew)); exact HO_0.out)))); (try (obtain ⟨ce26, hcl26, hM26, hcc26, hfr26⟩ := Kd.R_elem HX26.out z48 ((ji12) : Int) (of_decide_eq_true (by first | (with_reducible assumption) | assumption)) (by have h_ : ((ji12) : Int) < ((x0_1.length : Int) : Int) := of_decide_eq_true (by first | (with_reducible assumption) | assumption); first | exact h_ | (have e_ := (Kd.R_reads' HO_0.out).1; omega) | simpa using h_))); (try (obtain rfl := k48_openM hM26)); (try (have HP26 := Kd.R_seg HX26.out ((ji12) : Int) (of_decide_eq_true (by first | (with_reducible assumption) | assumption)) (by have h_ : ((ji12) : Int) < ((x0_1.length : Int) : Int) := of_decide_eq_true (by first | (with_reducible assumption) | assumption); first | exact h_ | (have e_ := (Kd.R_reads' HO_0.out).1; omega) | simpa using h_) (seg := [.int .i64 ((rd_T48 x0_1 (rd l1 x9_1)).f0), .int .i64 ((rd_T48 x0_1 (rd l1 x9_1)).f1)]) (j := 0) hcl26 hcc26 (show 2 ≤ 2 from by decide) (x' := (⟨(rd_T48 x0_1 (rd l1 x9_1)).f0, (rd_T48 x0_1 (rd l1 x9_1)).f1⟩ : S48)) (k48_mkM _ _ _ (⟨(rd_T48 x0_1 (rd l1 x9_1)).f0, (rd_T48 x0_1 (rd l1 x9_1)).f1⟩ : S48) ) (fun _ hk => hk))); (try (have hx26_0 := hcc26 0 _ rfl)); (try (try simp only [show (k48).sz = 2 from rfl, Nat.mul_one, Nat.add_zero] at hx26_0)); (try (have hf26_0 := hfr26 0)); (try (try simp only [show (k48).sz = 2 from rfl, Nat.mul_one, Nat.add_zero] at hf26_0)); (try (have hx26_1 := hcc26 1 _ rfl)); (try (try simp only [show (k48).sz = 2 from rfl, Nat.mul_one, Nat.add_zero] at hx26_1)); (try (have hf26_1 := hfr26 1)); (try (try simp only [show (k48).sz = 2 from rfl, Nat.mul_one, Nat.add_zero] at hf26_1)); (try (clear hcl26 hcc26 hfr26 hM26)))); refine store_event (t := 48) (p := 61) (v := ?vo_w27) (w1 := ((w24.setCell ⟨go17, ((ji12) : Int).toNat * 2, none⟩ (.int .i64 ((rd_T48 x0_1 (rd l1 x9_1)).f0))).setCell ⟨go17, ((ji12) : Int).toNat * 2 + 1, none⟩ (.int .i64 ((rd_T48 x0_1 (rd l1 x9_1)).f1)))) ?hg ?ho ?hn ?hr ?_; (case ho => rfl); (case hg => rfl); (case hn => rfl); (case hr => first | (go_simp; done) | (go_simp; rfl)); intro w27 hw; have hg : w24.grownBy w27 (some go17) := (by rw [hw]; exact HP26.2); have hp_ : Kd.R k48 48 w27 w0.heap.size (fun k_ => (P0_ k_ ∨ w.heap.size ≤ k_) ∧ k_ ≠ gb163) (.slice (some ⟨go17, 0, none⟩) x0_1.length co19) y166 := (by rw [hw, Ny166.out]; exact HP26.1); clear HP26; have n0_ := Aside0.mk (hp_); have n1_ := Aside0.mk (blk_grown (g := gb163) (o := .cells #[.int .i64 ((rd_T48 x0_1 (rd l1 x9_1)).f0), .int .i64 ((rd_T48 x0_1 (rd l1 x9_1)).f1)] 48 (0, 0)) (by (with_reducible repeat (first | refine blk_drewN ?_ _ | refine blk_drew ?_ | refine blk_alloc ?_ _)); exact BK163.out) hg (Kd.R_away HO_0.out (fun _ hk => hk.2))); have n2_ := Aside0.mk ((by rw [hw]; exact below_set (below_set (HB.out) GB17.out) GB17.out : Below w0.heap.size w0 w27)); have n3_ := Aside0.mk (Kept.of_grown (S := (fun k_ => P0_ k_)) hg (by repeat (first | (with_reducible first | exact HK.out | apply Kept.alloc | apply Kept.drewN | apply Kept.drew | refine Kept.setCell ?_ (.inr GW163.out) _) | exact HK.out)) (fun k_ e_ => (HO_0.out.1 k_ e_).1)); clear HO_0; clear BK163; clear HB; clear HK; have HO_0 := n0_; have BK163 := n1_; have HB := n2_; have HK := n3_; clear n0_ n1_ n2_ n3_; clear hg hw hp_)); try go_wp2_with (first | ((with_reducible refine gate_dst (N := 11) rfl ?_); (try (refine gate_guard (by rfl) ?_; dsimp only)); refine box_event ?hg (N := 11) ?hd (cs := #[.int .i64 0, .int .i64 0]) (t := 48) ?hr ?_; (case hd => rfl); (case hg => rfl); (case hr => first | (go_simp; done) | (go_simp; rfl)); intro gb163 hg w20 hbox hb; have n0_ := Aside0.mk (Kd.R_below (Kd.R_elderB (by (with_reducible repeat (first | apply Kd.R_alloc | apply Kd.R_drewN | apply Kd.R_drew)); exact HO_0.out) gb163 (Nat.le_of_eq hg.symm)) hb); have n1_ := Aside0.mk (Kept.below (S := (fun k_ => P0_ k_)) (by repeat (first | (with_reducible first | exact HK.out | apply Kept.alloc | apply Kept.drewN | apply Kept.drew) | exact HK.out)) hb); have n2_ := Aside0.mk (below_step (by repeat (first | (with_reducible first | exact HB.out | apply below_alloc | apply pw_below_drewN | apply below_drew1) | exact HB.out)) hb); have n3_ := Aside0.mk (hbox); have n4_ := Aside0.mk ((by rw [hg]; exact (by first | exact HK.out.1 | exact (show Kept w _ (fun k_ => P0_ k_) from by repeat (first | (with_reducible first | exact HK.out | apply Kept.alloc | apply Kept.drewN | apply Kept.drew) | exact HK.out)).1) : w.heap.size ≤ gb163)); have n5_ := Aside0.mk ((by rw [hg]; exact (below_size (by repeat (first | (with_reducible first | exact HB.out | apply below_alloc | apply pw_below_drewN | apply below_drew1) | exact HB.out))) : w0.heap.size ≤ gb163)); clear HO_0; clear HK; clear HB; have HO_0 := n0_; have HK := n1_; have HB := n2_; have BK163 := n3_; have GW163 := n4_; have GE163 := n5_; clear n0_ n1_ n2_ n3_ n4_ n5_; clear hb hbox hg; have hcz21_0 : w20.cell? ⟨gb163, 0, none⟩ = some (.int .i64 0) := (blk_cell BK163.out 0).trans rfl; have hcz21_1 : w20.cell? ⟨gb163, 1, none⟩ = some (.int .i64 0) := (blk_cell BK163.out 1).trans rfl; have hfz21_0 := blk_frozen BK163.out 0; have hfz21_1 := blk_frozen BK163.out 1) | ((with_reducible refine gate_store (t := 48) (p := 11) rfl ?_); (try (rw [drewN_self w20]; generalize hq_ : World.drewN w20 _ = w20; have n0_ := Aside0.mk (Kd.R_at hq_ HO_0.out); have n1_ := Aside0.mk (blk_at hq_ BK163.out); have n2_ := Aside0.mk (kept_at hq_ HK.out); have n3_ := Aside0.mk (below_at hq_ HB.out); clear hq_ HO_0 BK163 HK HB; have HO_0 := n0_; have BK163 := n1_; have HK := n2_; have HB := n3_; clear n0_ n1_ n2_ n3_)); refine store_event (t := 48) (p := 11) (v := ?vo_w22) (w1 := ((w20.setCell ⟨gb163, 0, none⟩ (.int .i64 ((rd_T48 x0_1 (rd l1 x9_1)).f0))).setCell ⟨gb163, 1, none⟩ (.int .i64 ((rd_T48 x0_1 (rd l1 x9_1)).f1)))) ?hg ?ho ?hn ?hr ?_; (case ho => rfl); (case hg => rfl); (case hn => rfl); (case hr => first | (go_simp; done) | (go_simp; rfl)); intro w22 hw; have n0_ : Aside0 (Kd.R k48 48 w22 w0.heap.size (fun k_ => (P0_ k_ ∨ w.heap.size ≤ k_) ∧ k_ ≠ gb163) (.slice (some ad160) x0_1.length co19) x0_1) := ⟨(by rw [hw]; exact (by (with_reducible repeat (first | apply Kd.R_alloc | apply Kd.R_drewN | apply Kd.R_drew)); exact Kd.R_mono (Kd.R_far (p := ⟨gb163, 1, none⟩) (Kd.R_far (p := ⟨gb163, 0, none⟩) (Kd.R_mono HO_0.out (fun k_ hk => (⟨hk, hk.2⟩ : _ ∧ k_ ≠ gb163))) (fun _ hk => hk.2) (.int .i64 ((rd_T48 x0_1 (rd l1 x9_1)).f0))) (fun _ hk => hk.2) (.int .i64 ((rd_T48 x0_1 (rd l1 x9_1)).f1))) (fun _ hk => ⟨hk.1.1, hk.1.2⟩)))⟩; have n1_ : Aside0 (w22.heap[gb163]? = some (.cells #[.int .i64 ((rd_T48 x0_1 (rd l1 x9_1)).f0), .int .i64 ((rd_T48 x0_1 (rd l1 x9_1)).f1)] 48 (0, 0))) := ⟨(by rw [hw]; exact (by (with_reducible repeat (first | refine blk_drewN ?_ _ | refine blk_drew ?_ | refine blk_alloc ?_ _)); refine blk_put (cs := #[.int .i64 ((rd_T48 x0_1 (rd l1 x9_1)).f0), .int .i64 0]) ?_ 1 _ rfl; (with_reducible repeat (first | refine blk_drewN ?_ _ | refine blk_drew ?_ | refine blk_alloc ?_ _)); refine blk_put (cs := #[.int .i64 0, .int .i64 0]) ?_ 0 _ rfl; (with_reducible repeat (first | refine blk_drewN ?_ _ | refine blk_drew ?_ | refine blk_alloc ?_ _)); exact BK163.out))⟩; have n2_ : Aside0 (Kept w w22 (fun k_ => P0_ k_)) := ⟨(by rw [hw]; exact (by repeat (first | (with_reducible first | exact HK.out | apply Kept.alloc | apply Kept.drewN | apply Kept.drew | refine Kept.setCell ?_ (.inr GW163.out) _) | exact HK.out)))⟩; have n3_ : Aside0 (Below w0.heap.size w0 w22) := ⟨(by rw [hw]; exact (by repeat (first | (with_reducible first | exact HB.out | apply below_alloc | apply pw_below_drewN | apply below_drew1 | refine below_set ?_ GE163.out) | exact HB.out)))⟩; clear hw; clear HO_0; clear BK163; clear HK; clear HB; have HO_0 := n0_; have BK163 := n1_; have HK := n2_; have HB := n3_; clear n0_ n1_ n2_ n3_; have p164 : 0 ≤ ((ji12) : Int) := of_decide_eq_true (by first | (with_reducible assumption) | assumption); have q164 : (ji12) < (x0_1.length : Int) := of_decide_eq_true (by first | (with_reducible assumption) | assumption); obtain ⟨ad164, e164, hx164_0, hx164_1⟩ := at_T48 (Kd.R_reads' HO_0.out).2.2 (ji12) p164 q164; obtain rfl : ad160 = ad164 := (by injection e164); replace p164 := eq_true p164; replace q164 := eq_true q164; have p17 : 0 ≤ ((rd l1 x9_1) : Int) := of_decide_eq_true (by first | (with_reducible assumption) | assumption); have q17 : ((rd l1 x9_1) : Int) < ((x0_1.length : Int) : Int) := of_decide_eq_true (by first | (with_reducible assumption) | assumption); obtain ⟨go17, co17, eo17, gb17, gl17, cl17, HG17⟩ := Kd.R_form HO_0.out (by omega); (first | cases eo17 | (injection eo17 with ea_ en_ ec_; (first | subst ea_ | (injection ea_ with ea_; subst ea_)); subst ec_; clear en_)); have GB17 := Aside0.mk gb17; have GG17 := Aside0.mk HG17; clear gb17 gl17 HG17; have HMgo17 := Aside0.mk (show (P0_ go17 ∨ w.heap.size ≤ go17) from (HO_0.out.1 _ rfl).1); (first | simp only [add_plain] at hx160_0 | skip); (first | simp only [add_plain] at hx160_1 | skip); (first | simp only [add_plain] at hx161_0 | skip); (first | simp only [add_plain] at hx161_1 | skip); (first | simp only [add_plain] at hx162_0 | skip); (first | simp only [add_plain] at hx162_1 | skip); (first | simp only [add_plain] at hx164_0 | skip); (first | simp only [add_plain] at hx164_1 | skip); obtain ⟨ce17, hcl17, hM17, hcc17, hfr17⟩ := Kd.R_elem HO_0.out z48 ((rd l1 x9_1) : Int) p17 q17; obtain rfl := k48_openM hM17; have hx17_0 : w22.cell? ⟨go17, ((rd l1 x9_1) : Int).toNat * 2, none⟩ = some (.int .i64 ((rd_T48 x0_1 (rd l1 x9_1)).f0)) := hcc17 0 _ rfl; have hx17_1 : w22.cell? ⟨go17, ((rd l1 x9_1) : Int).toNat * 2 + 1, none⟩ = some (.int .i64 ((rd_T48 x0_1 (rd l1 x9_1)).f1)) := hcc17 1 _ rfl; have hf17_0 : w22.frozen? ⟨go17, ((rd l1 x9_1) : Int).toNat * 2, none⟩ = false := hfr17 0; have hf17_1 : w22.frozen? ⟨go17, ((rd l1 x9_1) : Int).toNat * 2 + 1, none⟩ = false := hfr17 1; clear hcl17 hcc17 hfr17 hM17; replace p17 := eq_true p17; replace q17 := eq_true q17; have HX23 := Aside0.mk (show Kd.R k48 48 w22 w0.heap.size (fun k_ => (P0_ k_ ∨ w.heap.size ≤ k_) ∧ k_ ≠ gb163) (.slice (some ⟨go17, 0, none⟩) x0_1.length co19) x0_1 from (by (with_reducible repeat (first | apply Kd.R_alloc | apply Kd.R_drewN | apply Kd.R_drew)); exact HO_0.out)); obtain ⟨ce23, hcl23, hM23, hcc23, hfr23⟩ := Kd.R_elem HX23.out z48 ((rd l1 x9_1) : Int) (of_decide_eq_true (by first | (with_reducible assumption) | assumption)) (by have h_ : ((rd l1 x9_1) : Int) < ((x0_1.length : Int) : Int) := of_decide_eq_true (by first | (with_reducible assumption) | assumption); first | exact h_ | (have e_ := (Kd.R_reads' HO_0.out).1; omega) | simpa using h_); obtain rfl := k48_openM hM23; have HP23 := Kd.R_seg HX23.out ((rd l1 x9_1) : Int) (of_decide_eq_true (by first | (with_reducible assumption) | assumption)) (by have h_ : ((rd l1 x9_1) : Int) < ((x0_1.length : Int) : Int) := of_decide_eq_true (by first | (with_reducible assumption) | assumption); first | exact h_ | (have e_ := (Kd.R_reads' HO_0.out).1; omega) | simpa using h_) (seg := [.int .i64 ((rd_T48 x0_1 (ji12)).f0), .int .i64 ((rd_T48 x0_1 (ji12)).f1)]) (j := 0) hcl23 hcc23 (show 2 ≤ 2 from by decide) (x' := (⟨(rd_T48 x0_1 (ji12)).f0, (rd_T48 x0_1 (ji12)).f1⟩ : S48)) (k48_mkM _ _ _ (⟨(rd_T48 x0_1 (ji12)).f0, (rd_T48 x0_1 (ji12)).f1⟩ : S48) ) (fun _ hk => hk); have hx23_0 := hcc23 0 _ rfl; (try simp only [show (k48).sz = 2 from rfl, Nat.mul_one, Nat.add_zero] at hx23_0); have hf23_0 := hfr23 0; (try simp only [show (k48).sz = 2 from rfl, Nat.mul_one, Nat.add_zero] at hf23_0); have hx23_1 := hcc23 1 _ rfl; (try simp only [show (k48).sz = 2 from rfl, Nat.mul_one, Nat.add_zero] at hx23_1); have hf23_1 := hfr23 1; (try simp only [show (k48).sz = 2 from rfl, Nat.mul_one, Nat.add_zero] at hf23_1); clear hcl23 hcc23 hfr23 hM23) | ((with_reducible refine gate_store (t := 48) (p := 56) rfl ?_); (try (rw [drewN_self w22]; generalize hq_ : World.drewN w22 _ = w22; have n0_ := Aside0.mk (Kd.R_at hq_ HO_0.out); have n1_ := Aside0.mk (blk_at hq_ BK163.out); have n2_ := Aside0.mk (kept_at hq_ HK.out); have n3_ := Aside0.mk (below_at hq_ HB.out); clear hq_ HO_0 BK163 HK HB; have HO_0 := n0_; have BK163 := n1_; have HK := n2_; have HB := n3_; clear n0_ n1_ n2_ n3_; (try (have HX23 := Aside0.mk (show Kd.R k48 48 w22 w0.heap.size (fun k_ => (P0_ k_ ∨ w.heap.size ≤ k_) ∧ k_ ≠ gb163) (.slice (some ⟨go17, 0, none⟩) x0_1.length co19) x0_1 from (by (with_reducible repeat (first | apply Kd.R_alloc | apply Kd.R_drewN | apply Kd.R_drew)); exact HO_0.out)))); (try (obtain ⟨ce23, hcl23, hM23, hcc23, hfr23⟩ := Kd.R_elem HX23.out z48 ((rd l1 x9_1) : Int) (of_decide_eq_true (by first | (with_reducible assumption) | assumption)) (by have h_ : ((rd l1 x9_1) : Int) < ((x0_1.length : Int) : Int) := of_decide_eq_true (by first | (with_reducible assumption) | assumption); first | exact h_ | (have e_ := (Kd.R_reads' HO_0.out).1; omega) | simpa using h_))); (try (obtain rfl := k48_openM hM23)); (try (have HP23 := Kd.R_seg HX23.out ((rd l1 x9_1) : Int) (of_decide_eq_true (by first | (with_reducible assumption) | assumption)) (by have h_ : ((rd l1 x9_1) : Int) < ((x0_1.length : Int) : Int) := of_decide_eq_true (by first | (with_reducible assumption) | assumption); first | exact h_ | (have e_ := (Kd.R_reads' HO_0.out).1; omega) | simpa using h_) (seg := [.int .i64 ((rd_T48 x0_1 (ji12)).f0), .int .i64 ((rd_T48 x0_1 (ji12)).f1)]) (j := 0) hcl23 hcc23 (show 2 ≤ 2 from by decide) (x' := (⟨(rd_T48 x0_1 (ji12)).f0, (rd_T48 x0_1 (ji12)).f1⟩ : S48)) (k48_mkM _ _ _ (⟨(rd_T48 x0_1 (ji12)).f0, (rd_T48 x0_1 (ji12)).f1⟩ : S48) ) (fun _ hk => hk))); (try (have hx23_0 := hcc23 0 _ rfl)); (try (try simp only [show (k48).sz = 2 from rfl, Nat.mul_one, Nat.add_zero] at hx23_0)); (try (have hf23_0 := hfr23 0)); (try (try simp only [show (k48).sz = 2 from rfl, Nat.mul_one, Nat.add_zero] at hf23_0)); (try (have hx23_1 := hcc23 1 _ rfl)); (try (try simp only [show (k48).sz = 2 from rfl, Nat.mul_one, Nat.add_zero] at hx23_1)); (try (have hf23_1 := hfr23 1)); (try (try simp only [show (k48).sz = 2 from rfl, Nat.mul_one, Nat.add_zero] at hf23_1)); (try (clear hcl23 hcc23 hfr23 hM23)))); refine store_event (t := 48) (p := 56) (v := ?vo_w24) (w1 := ((w22.setCell ⟨go17, ((rd l1 x9_1) : Int).toNat * 2, none⟩ (.int .i64 ((rd_T48 x0_1 (ji12)).f0))).setCell ⟨go17, ((rd l1 x9_1) : Int).toNat * 2 + 1, none⟩ (.int .i64 ((rd_T48 x0_1 (ji12)).f1)))) ?hg ?ho ?hn ?hr ?_; (case ho => rfl); (case hg => rfl); (case hn => rfl); (case hr => first | (go_simp; done) | (go_simp; rfl)); intro w24 hw; have hg : w22.grownBy w24 (some go17) := (by rw [hw]; exact HP23.2); have hp_ : Kd.R k48 48 w24 w0.heap.size (fun k_ => (P0_ k_ ∨ w.heap.size ≤ k_) ∧ k_ ≠ gb163) (.slice (some ⟨go17, 0, none⟩) x0_1.length co19) y165 := (by rw [hw, Ny165.out]; exact HP23.1); clear HP23; have n0_ := Aside0.mk (hp_); have n1_ := Aside0.mk (blk_grown (g := gb163) (o := .cells #[.int .i64 ((rd_T48 x0_1 (rd l1 x9_1)).f0), .int .i64 ((rd_T48 x0_1 (rd l1 x9_1)).f1)] 48 (0, 0)) (by (with_reducible repeat (first | refine blk_drewN ?_ _ | refine blk_drew ?_ | refine blk_alloc ?_ _)); exact BK163.out) hg (Kd.R_away HO_0.out (fun _ hk => hk.2))); have n2_ := Aside0.mk ((by rw [hw]; exact below_set (below_set (HB.out) GB17.out) GB17.out : Below w0.heap.size w0 w24)); have n3_ := Aside0.mk (Kept.of_grown (S := (fun k_ => P0_ k_)) hg (by repeat (first | (with_reducible first | exact HK.out | apply Kept.alloc | apply Kept.drewN | apply Kept.drew | refine Kept.setCell ?_ (.inr GW163.out) _) | exact HK.out)) (fun k_ e_ => (HO_0.out.1 k_ e_).1)); clear HO_0; clear BK163; clear HB; clear HK; have HO_0 := n0_; have BK163 := n1_; have HB := n2_; have HK := n3_; clear n0_ n1_ n2_ n3_; clear hg hw hp_; have hcz25_0 : w24.cell? ⟨gb163, 0, none⟩ = some (.int .i64 ((rd_T48 x0_1 (rd l1 x9_1)).f0)) := (blk_cell BK163.out 0).trans rfl; have hcz25_1 : w24.cell? ⟨gb163, 1, none⟩ = some (.int .i64 ((rd_T48 x0_1 (rd l1 x9_1)).f1)) := (blk_cell BK163.out 1).trans rfl; have hfz25_0 := blk_frozen BK163.out 0; have hfz25_1 := blk_frozen BK163.out 1; have p18 : 0 ≤ ((ji12) : Int) := of_decide_eq_true (by first | (with_reducible assumption) | assumption); have q18 : ((ji12) : Int) < ((x0_1.length : Int) : Int) := of_decide_eq_true (by first | (with_reducible assumption) | assumption); obtain ⟨ce18, hcl18, hM18, hcc18, hfr18⟩ := Kd.R_elem HO_0.out z48 ((ji12) : Int) p18 q18; obtain rfl := k48_openM hM18; have hx18_0 : w24.cell? ⟨go17, ((ji12) : Int).toNat * 2, none⟩ = some (.int .i64 ((rd_T48 y165 (ji12)).f0)) := hcc18 0 _ rfl; have hx18_1 : w24.cell? ⟨go17, ((ji12) : Int).toNat * 2 + 1, none⟩ = some (.int .i64 ((rd_T48 y165 (ji12)).f1)) := hcc18 1 _ rfl; have hf18_0 : w24.frozen? ⟨go17, ((ji12) : Int).toNat * 2, none⟩ = false := hfr18 0; have hf18_1 : w24.frozen? ⟨go17, ((ji12) : Int).toNat * 2 + 1, none⟩ = false := hfr18 1; clear hcl18 hcc18 hfr18 hM18; replace p18 := eq_true p18; replace q18 := eq_true q18; have HX26 := Aside0.mk (show Kd.R k48 48 w24 w0.heap.size (fun k_ => (P0_ k_ ∨ w.heap.size ≤ k_) ∧ k_ ≠ gb163) (.slice (some ⟨go17, 0, none⟩) x0_1.length co19) y165 from (by (with_reducible repeat (first | apply Kd.R_alloc | apply Kd.R_drewN | apply Kd.R_drew)); exact HO_0.out)); obtain ⟨ce26, hcl26, hM26, hcc26, hfr26⟩ := Kd.R_elem HX26.out z48 ((ji12) : Int) (of_decide_eq_true (by first | (with_reducible assumption) | assumption)) (by have h_ : ((ji12) : Int) < ((x0_1.length : Int) : Int) := of_decide_eq_true (by first | (with_reducible assumption) | assumption); first | exact h_ | (have e_ := (Kd.R_reads' HO_0.out).1; omega) | simpa using h_); obtain rfl := k48_openM hM26; have HP26 := Kd.R_seg HX26.out ((ji12) : Int) (of_decide_eq_true (by first | (with_reducible assumption) | assumption)) (by have h_ : ((ji12) : Int) < ((x0_1.length : Int) : Int) := of_decide_eq_true (by first | (with_reducible assumption) | assumption); first | exact h_ | (have e_ := (Kd.R_reads' HO_0.out).1; omega) | simpa using h_) (seg := [.int .i64 ((rd_T48 x0_1 (rd l1 x9_1)).f0), .int .i64 ((rd_T48 x0_1 (rd l1 x9_1)).f1)]) (j := 0) hcl26 hcc26 (show 2 ≤ 2 from by decide) (x' := (⟨(rd_T48 x0_1 (rd l1 x9_1)).f0, (rd_T48 x0_1 (rd l1 x9_1)).f1⟩ : S48)) (k48_mkM _ _ _ (⟨(rd_T48 x0_1 (rd l1 x9_1)).f0, (rd_T48 x0_1 (rd l1 x9_1)).f1⟩ : S48) ) (fun _ hk => hk); have hx26_0 := hcc26 0 _ rfl; (try simp only [show (k48).sz = 2 from rfl, Nat.mul_one, Nat.add_zero] at hx26_0); have hf26_0 := hfr26 0; (try simp only [show (k48).sz = 2 from rfl, Nat.mul_one, Nat.add_zero] at hf26_0); have hx26_1 := hcc26 1 _ rfl; (try simp only [show (k48).sz = 2 from rfl, Nat.mul_one, Nat.add_zero] at hx26_1); have hf26_1 := hfr26 1; (try simp only [show (k48).sz = 2 from rfl, Nat.mul_one, Nat.add_zero] at hf26_1); clear hcl26 hcc26 hfr26 hM26) | ((with_reducible refine gate_store (t := 48) (p := 61) rfl ?_); (try (rw [drewN_self w24]; generalize hq_ : World.drewN w24 _ = w24; have n0_ := Aside0.mk (Kd.R_at hq_ HO_0.out); have n1_ := Aside0.mk (blk_at hq_ BK163.out); have n2_ := Aside0.mk (kept_at hq_ HK.out); have n3_ := Aside0.mk (below_at hq_ HB.out); clear hq_ HO_0 BK163 HK HB; have HO_0 := n0_; have BK163 := n1_; have HK := n2_; have HB := n3_; clear n0_ n1_ n2_ n3_; (try (have HX26 := Aside0.mk (show Kd.R k48 48 w24 w0.heap.size (fun k_ => (P0_ k_ ∨ w.heap.size ≤ k_) ∧ k_ ≠ gb163) (.slice (some ⟨go17, 0, none⟩) x0_1.length co19) y165 from (by (with_reducible repeat (first | apply Kd.R_alloc | apply Kd.R_drewN | apply Kd.R_drew)); exact HO_0.out)))); (try (obtain ⟨ce26, hcl26, hM26, hcc26, hfr26⟩ := Kd.R_elem HX26.out z48 ((ji12) : Int) (of_decide_eq_true (by first | (with_reducible assumption) | assumption)) (by have h_ : ((ji12) : Int) < ((x0_1.length : Int) : Int) := of_decide_eq_true (by first | (with_reducible assumption) | assumption); first | exact h_ | (have e_ := (Kd.R_reads' HO_0.out).1; omega) | simpa using h_))); (try (obtain rfl := k48_openM hM26)); (try (have HP26 := Kd.R_seg HX26.out ((ji12) : Int) (of_decide_eq_true (by first | (with_reducible assumption) | assumption)) (by have h_ : ((ji12) : Int) < ((x0_1.length : Int) : Int) := of_decide_eq_true (by first | (with_reducible assumption) | assumption); first | exact h_ | (have e_ := (Kd.R_reads' HO_0.out).1; omega) | simpa using h_) (seg := [.int .i64 ((rd_T48 x0_1 (rd l1 x9_1)).f0), .int .i64 ((rd_T48 x0_1 (rd l1 x9_1)).f1)]) (j := 0) hcl26 hcc26 (show 2 ≤ 2 from by decide) (x' := (⟨(rd_T48 x0_1 (rd l1 x9_1)).f0, (rd_T48 x0_1 (rd l1 x9_1)).f1⟩ : S48)) (k48_mkM _ _ _ (⟨(rd_T48 x0_1 (rd l1 x9_1)).f0, (rd_T48 x0_1 (rd l1 x9_1)).f1⟩ : S48) ) (fun _ hk => hk))); (try (have hx26_0 := hcc26 0 _ rfl)); (try (try simp only [show (k48).sz = 2 from rfl, Nat.mul_one, Nat.add_zero] at hx26_0)); (try (have hf26_0 := hfr26 0)); (try (try simp only [show (k48).sz = 2 from rfl, Nat.mul_one, Nat.add_zero] at hf26_0)); (try (have hx26_1 := hcc26 1 _ rfl)); (try (try simp only [show (k48).sz = 2 from rfl, Nat.mul_one, Nat.add_zero] at hx26_1)); (try (have hf26_1 := hfr26 1)); (try (try simp only [show (k48).sz = 2 from rfl, Nat.mul_one, Nat.add_zero] at hf26_1)); (try (clear hcl26 hcc26 hfr26 hM26)))); refine store_event (t := 48) (p := 61) (v := ?vo_w27) (w1 := ((w24.setCell ⟨go17, ((ji12) : Int).toNat * 2, none⟩ (.int .i64 ((rd_T48 x0_1 (rd l1 x9_1)).f0))).setCell ⟨go17, ((ji12) : Int).toNat * 2 + 1, none⟩ (.int .i64 ((rd_T48 x0_1 (rd l1 x9_1)).f1)))) ?hg ?ho ?hn ?hr ?_; (case ho => rfl); (case hg => rfl); (case hn => rfl); (case hr => first | (go_simp; done) | (go_simp; rfl)); intro w27 hw; have hg : w24.grownBy w27 (some go17) := (by rw [hw]; exact HP26.2); have hp_ : Kd.R k48 48 w27 w0.heap.size (fun k_ => (P0_ k_ ∨ w.heap.size ≤ k_) ∧ k_ ≠ gb163) (.slice (some ⟨go17, 0, none⟩) x0_1.length co19) y166 := (by rw [hw, Ny166.out]; exact HP26.1); clear HP26; have n0_ := Aside0.mk (hp_); have n1_ := Aside0.mk (blk_grown (g := gb163) (o := .cells #[.int .i64 ((rd_T48 x0_1 (rd l1 x9_1)).f0), .int .i64 ((rd_T48 x0_1 (rd l1 x9_1)).f1)] 48 (0, 0)) (by (with_reducible repeat (first | refine blk_drewN ?_ _ | refine blk_drew ?_ | refine blk_alloc ?_ _)); exact BK163.out) hg (Kd.R_away HO_0.out (fun _ hk => hk.2))); have n2_ := Aside0.mk ((by rw [hw]; exact below_set (below_set (HB.out) GB17.out) GB17.out : Below w0.heap.size w0 w27)); have n3_ := Aside0.mk (Kept.of_grown (S := (fun k_ => P0_ k_)) hg (by repeat (first | (with_reducible first | exact HK.out | apply Kept.alloc | apply Kept.drewN | apply Kept.drew | refine Kept.setCell ?_ (.inr GW163.out) _) | exact HK.out)) (fun k_ e_ => (HO_0.out.1 k_ e_).1)); clear HO_0; clear BK163; clear HB; clear HK; have HO_0 := n0_; have BK163 := n1_; have HB := n2_; have HK := n3_; clear n0_ n1_ n2_ n3_; clear hg hw hp_)))
                        go_roundg k1
                        case measure => have := HK1.out; omega
                        case rel => exact ⟨(y166), (wrap64 (x9_1 + 1)), (by first | rfl | (simp; done) | (simp [*]; done)), H', ⟨by have := HK1.out; omega⟩, ⟨by (with_reducible repeat (first | apply Kd.R_alloc | apply Kd.R_drewN | apply Kd.R_drew)); exact Kd.R_mono HO_0.out (fun _ hk => hk.1)⟩, ⟨by repeat (first | (with_reducible first | exact HK.out | apply Kept.alloc | apply Kept.drewN | apply Kept.drew | refine Kept.setCell ?_ (.inr GW163.out) _) | exact HK.out)⟩, ⟨by repeat (first | (with_reducible first | exact HB.out | apply below_alloc | apply pw_below_drewN | apply below_drew1 | refine below_set ?_ GE163.out) | exact HB.out)⟩⟩
                    · rw [if_neg c14] at H
                      exact absurd H (by simp)
                  · rw [if_neg c13] at H
                    exact absurd H (by simp)
                · rw [if_neg c11] at H
                  exact absurd H (by simp)
              · rw [if_neg c10] at H
                exact absurd H (by simp)
        · rw [if_neg c6] at H
          exact absurd H (by simp)
      · rw [if_neg c5] at H
        have c5b0 : decide (x9_1 < (l1.length : Int)) = false := decide_eq_false c5
        clear c5
        by_cases c28 : 0 ≤ (l2.length : Int)
        · rw [if_pos c28] at H
          have c28b0 := eq_true c28
          have c28b1 : decide (0 ≤ (l2.length : Int)) = true := decide_eq_true c28
          clear c28
          by_cases c29 : (l2.length : Int) ≤ (x0_1.length : Int)
          · rw [if_pos c29] at H
            have c29b0 := eq_true c29
            have c29b1 : decide ((l2.length : Int) ≤ (x0_1.length : Int)) = true := decide_eq_true c29
            clear c29
            obtain ⟨y167, hy167⟩ : ∃ y_ : List (S48), y_ = (x0_1.take ((l2.length : Int) : Int).toNat) := ⟨_, rfl⟩
            replace H : ((eddylaw18_sameEvents.f k1 y167 l2).bind fun t171 => (if t171 = true then ((eddylaw18_sameEvents.f k1 (x0_1.drop ((l2.length : Int) : Int).toNat) l3).bind fun t176 => (some (t176, x0_1))) else (some (false, x0_1)))) = some (r1, r2) := by first | (rw [hy167]; with_reducible exact H) | (have H2_ := (Option.bind_some _ _).symm.trans H; rw [hy167]; with_reducible exact H2_) | (have H2_ := (Option.bind_some _ _).symm.trans H; with_reducible exact H2_) | with_reducible exact H | (rw [hy167]; exact H) | exact H
            have Ny167 := Aside0.mk hy167
            clear hy167
            replace H := Option.bind_eq_some_iff.mp H
            obtain ⟨t171, A300, H⟩ := H
            replace H : (if t171 = true then ((eddylaw18_sameEvents.f k1 (x0_1.drop ((l2.length : Int) : Int).toNat) l3).bind fun t176 => (some (t176, x0_1))) else (some (false, x0_1))) = some (r1, r2) := H
            have A30 := Aside0.mk A300
            clear A300
            by_cases c31 : t171 = true
            · subst c31
              have H1 : ((eddylaw18_sameEvents.f k1 (x0_1.drop ((l2.length : Int) : Int).toNat) l3).bind fun t176 => (some (t176, x0_1))) = some (r1, r2) := by rw [if_pos rfl] at H; exact H
              clear H
              have H := H1
              clear H1
              have c32b0 := eq_true (of_decide_eq_true (by first | (with_reducible assumption) | assumption) : 0 ≤ (l2.length : Int))
              have c33b0 := eq_true (of_decide_eq_true (by first | (with_reducible assumption) | assumption) : (l2.length : Int) ≤ (x0_1.length : Int))
              obtain ⟨y172, hy172⟩ : ∃ y_ : List (S48), y_ = (x0_1.drop ((l2.length : Int) : Int).toNat) := ⟨_, rfl⟩
              replace H : ((eddylaw18_sameEvents.f k1 y172 l3).bind fun t176 => (some (t176, x0_1))) = some (r1, r2) := by first | (rw [hy172]; with_reducible exact H) | (have H2_ := (Option.bind_some _ _).symm.trans H; rw [hy172]; with_reducible exact H2_) | (have H2_ := (Option.bind_some _ _).symm.trans H; with_reducible exact H2_) | with_reducible exact H | (rw [hy172]; exact H) | exact H
              have Ny172 := Aside0.mk hy172
              clear hy172
              replace H := Option.bind_eq_some_iff.mp H
              obtain ⟨t176, A340, H⟩ := H
              replace H : (some (t176, x0_1)) = some (r1, r2) := H
              have A34 := Aside0.mk A340
              clear A340
              simp only [Option.some.injEq, Prod.mk.injEq] at H
              obtain ⟨rfl, rfl⟩ := H
              obtain ⟨Ao36, co36, eo36⟩ := Kd.R_slice HO_0.out
              subst eo36
              have q35 : ((l2.length : Int) : Int) ≤ ((x0_1.length : Int) : Int) := of_decide_eq_true (by first | (with_reducible assumption) | assumption)
              obtain ⟨i035, hi035, _, hsz35, _⟩ := info_parts info48
              have hroom35 : x0_1.length ≤ co36 := (Kd.R_reads' HO_0.out).2.1
              have hC35 : Kd.C k48 _ Ao36 x0_1.length x0_1 := (Kd.R_reads' HO_0.out).2.2
              have hcut35 := cut_to (P := Try.prog) 24 48 .i64 Try.underlying24 hi035 Ao36 x0_1.length co36 (l2.length : Int) (of_decide_eq_true (by first | (with_reducible assumption) | assumption)) q35 hroom35
              have hr35 := Kd.C_take (m := ((l2.length : Int) : Int).toNat) hC35 (by omega)
              have hy35 : y167.length = ((l2.length : Int) : Int).toNat := (by rw [Ny167.out, List.length_take]; omega)
              rw [← Ny167.out] at hr35
              rw [← hy35] at hcut35
              have HR170 := Aside0.mk hr35
              have HC170 := Aside0.mk (show y167.length ≤ co36 from by omega)
              clear hr35 hC35 hroom35 hi035 hsz35
              have KY35 := Aside0.mk hy35
              clear hy35
              have KL35 := Aside0.mk (show ((l2.length : Int) : Int).toNat ≤ x0_1.length from by omega)
              replace q35 := eq_true q35
              go_wp2_with (first | (go_at_call 15; (with_reducible refine (eddylaw18_sameEvents.calls k1 _ _ y167 _ _ l2 true _ ?side1 ?side2 ?side3 ?side4 A30.out).mono ?_); (case side1 => repeat (first | exact (by repeat (first | (with_reducible exact HR170.out) | (with_reducible refine Kd.C_alloc ?_ _) | (with_reducible refine Kd.C_drewN ?_ _) | (with_reducible refine Kd.C_drew ?_) | exact HR170.out)) | (with_reducible refine Kd.C_alloc ?_ _) | (with_reducible refine Kd.C_drewN ?_ _) | (with_reducible refine Kd.C_drew ?_))); (case side2 => exact HC170.out); (case side3 => exact Kd.C_kept_now HR2.out (by repeat (first | (with_reducible first | exact HK.out | apply Kept.alloc | apply Kept.drewN | apply Kept.drew) | exact HK.out))); (case side4 => exact HC2.out); rintro e w' ⟨rfl, ⟨nd, rfl⟩⟩; (try first | exact ⟨rfl, _, World.drewN_drewN _ _ _⟩ | exact ⟨rfl, _, Eq.trans (World.drewN_drewN _ _ _) (congrArg (World.drewN _) (Nat.add_assoc _ _ _))⟩); have q37 : ((l2.length : Int) : Int) ≤ ((x0_1.length : Int) : Int) := of_decide_eq_true (by first | (with_reducible assumption) | assumption); obtain ⟨i037, hi037, _, hsz37, _⟩ := info_parts info48; have hroom37 : x0_1.length ≤ co36 := (Kd.R_reads' HO_0.out).2.1; have hC37 : Kd.C k48 _ Ao36 x0_1.length x0_1 := (Kd.R_reads' HO_0.out).2.2; have q037 : (0 : Int) ≤ ((l2.length : Int) : Int) := of_decide_eq_true (by first | (with_reducible assumption) | assumption); have hcut37 := cut_from (P := Try.prog) 24 48 .i64 Try.underlying24 hi037 2 hsz37 Ao36 x0_1.length co36 (l2.length : Int) q037 q37; have hr37 := Kd.C_drop (m := ((l2.length : Int) : Int).toNat) (c := co36) hC37 (by omega) hroom37; obtain ⟨A37, hA37⟩ : ∃ A1, A1 = (if co36 = ((l2.length : Int) : Int).toNat then Ao36 else (Ao36 : Option Addr).map (·.add (((l2.length : Int) : Int).toNat * 2))) := ⟨_, rfl⟩; obtain ⟨c37, hc37⟩ : ∃ c1, c1 = co36 - ((l2.length : Int) : Int).toNat := ⟨_, rfl⟩; have hy37 : y172.length = x0_1.length - ((l2.length : Int) : Int).toNat := (by rw [Ny172.out, List.length_drop] <;> omega); rw [show (x0_1).drop ((l2.length : Int) : Int).toNat = y172 from Ny172.out.symm] at hr37; replace hr37 : Kd.C k48 _ A37 y172.length y172 := (by rw [hA37]; exact hr37); rw [← hy37, ← hA37, ← hc37] at hcut37; have HR175 := Aside0.mk hr37; have HC175 := Aside0.mk (show y172.length ≤ c37 from by rw [hy37, hc37]; exact Nat.sub_le_sub_right hroom37 _); clear hr37 hC37 hroom37 hi037 hsz37 hc37; have KY37 := Aside0.mk hy37; have KA37 := Aside0.mk hA37; clear hy37 hA37; have KL37 := Aside0.mk (show ((l2.length : Int) : Int).toNat ≤ x0_1.length from by omega); replace q37 := eq_true q37) | (go_at_call 15; (with_reducible refine (eddylaw18_sameEvents.calls k1 _ _ y172 _ _ l3 t176 _ ?side1 ?side2 ?side3 ?side4 A34.out).mono ?_); (case side1 => repeat (first | exact (by repeat (first | (with_reducible exact HR175.out) | (with_reducible refine Kd.C_alloc ?_ _) | (with_reducible refine Kd.C_drewN ?_ _) | (with_reducible refine Kd.C_drew ?_) | exact HR175.out)) | (with_reducible refine Kd.C_alloc ?_ _) | (with_reducible refine Kd.C_drewN ?_ _) | (with_reducible refine Kd.C_drew ?_))); (case side2 => exact HC175.out); (case side3 => exact Kd.C_kept_now HR3.out (by repeat (first | (with_reducible first | exact HK.out | apply Kept.alloc | apply Kept.drewN | apply Kept.drew) | exact HK.out))); (case side4 => exact HC3.out); rintro e w' ⟨rfl, ⟨nd, rfl⟩⟩; (try first | exact ⟨rfl, _, World.drewN_drewN _ _ _⟩ | exact ⟨rfl, _, Eq.trans (World.drewN_drewN _ _ _) (congrArg (World.drewN _) (Nat.add_assoc _ _ _))⟩)))
              repeat (go_quiet (first | (go_at_call 15; (with_reducible refine (eddylaw18_sameEvents.calls k1 _ _ y167 _ _ l2 true _ ?side1 ?side2 ?side3 ?side4 A30.out).mono ?_); (case side1 => repeat (first | exact (by repeat (first | (with_reducible exact HR170.out) | (with_reducible refine Kd.C_alloc ?_ _) | (with_reducible refine Kd.C_drewN ?_ _) | (with_reducible refine Kd.C_drew ?_) | exact HR170.out)) | (with_reducible refine Kd.C_alloc ?_ _) | (with_reducible refine Kd.C_drewN ?_ _) | (with_reducible refine Kd.C_drew ?_))); (case side2 => exact HC170.out); (case side3 => exact Kd.C_kept_now HR2.out (by repeat (first | (with_reducible first | exact HK.out | apply Kept.alloc | apply Kept.drewN | apply Kept.drew) | exact HK.out))); (case side4 => exact HC2.out); rintro e w' ⟨rfl, ⟨nd, rfl⟩⟩; (try first | exact ⟨rfl, _, World.drewN_drewN _ _ _⟩ | exact ⟨rfl, _, Eq.trans (World.drewN_drewN _ _ _) (congrArg (World.drewN _) (Nat.add_assoc _ _ _))⟩); have q37 : ((l2.length : Int) : Int) ≤ ((x0_1.length : Int) : Int) := of_decide_eq_true (by first | (with_reducible assumption) | assumption); obtain ⟨i037, hi037, _, hsz37, _⟩ := info_parts info48; have hroom37 : x0_1.length ≤ co36 := (Kd.R_reads' HO_0.out).2.1; have hC37 : Kd.C k48 _ Ao36 x0_1.length x0_1 := (Kd.R_reads' HO_0.out).2.2; have q037 : (0 : Int) ≤ ((l2.length : Int) : Int) := of_decide_eq_true (by first | (with_reducible assumption) | assumption); have hcut37 := cut_from (P := Try.prog) 24 48 .i64 Try.underlying24 hi037 2 hsz37 Ao36 x0_1.length co36 (l2.length : Int) q037 q37; have hr37 := Kd.C_drop (m := ((l2.length : Int) : Int).toNat) (c := co36) hC37 (by omega) hroom37; obtain ⟨A37, hA37⟩ : ∃ A1, A1 = (if co36 = ((l2.length : Int) : Int).toNat then Ao36 else (Ao36 : Option Addr).map (·.add (((l2.length : Int) : Int).toNat * 2))) := ⟨_, rfl⟩; obtain ⟨c37, hc37⟩ : ∃ c1, c1 = co36 - ((l2.length : Int) : Int).toNat := ⟨_, rfl⟩; have hy37 : y172.length = x0_1.length - ((l2.length : Int) : Int).toNat := (by rw [Ny172.out, List.length_drop] <;> omega); rw [show (x0_1).drop ((l2.length : Int) : Int).toNat = y172 from Ny172.out.symm] at hr37; replace hr37 : Kd.C k48 _ A37 y172.length y172 := (by rw [hA37]; exact hr37); rw [← hy37, ← hA37, ← hc37] at hcut37; have HR175 := Aside0.mk hr37; have HC175 := Aside0.mk (show y172.length ≤ c37 from by rw [hy37, hc37]; exact Nat.sub_le_sub_right hroom37 _); clear hr37 hC37 hroom37 hi037 hsz37 hc37; have KY37 := Aside0.mk hy37; have KA37 := Aside0.mk hA37; clear hy37 hA37; have KL37 := Aside0.mk (show ((l2.length : Int) : Int).toNat ≤ x0_1.length from by omega); replace q37 := eq_true q37) | (go_at_call 15; (with_reducible refine (eddylaw18_sameEvents.calls k1 _ _ y172 _ _ l3 t176 _ ?side1 ?side2 ?side3 ?side4 A34.out).mono ?_); (case side1 => repeat (first | exact (by repeat (first | (with_reducible exact HR175.out) | (with_reducible refine Kd.C_alloc ?_ _) | (with_reducible refine Kd.C_drewN ?_ _) | (with_reducible refine Kd.C_drew ?_) | exact HR175.out)) | (with_reducible refine Kd.C_alloc ?_ _) | (with_reducible refine Kd.C_drewN ?_ _) | (with_reducible refine Kd.C_drew ?_))); (case side2 => exact HC175.out); (case side3 => exact Kd.C_kept_now HR3.out (by repeat (first | (with_reducible first | exact HK.out | apply Kept.alloc | apply Kept.drewN | apply Kept.drew) | exact HK.out))); (case side4 => exact HC3.out); rintro e w' ⟨rfl, ⟨nd, rfl⟩⟩; (try first | exact ⟨rfl, _, World.drewN_drewN _ _ _⟩ | exact ⟨rfl, _, Eq.trans (World.drewN_drewN _ _ _) (congrArg (World.drewN _) (Nat.add_assoc _ _ _))⟩))); try go_wp2_with (first | (go_at_call 15; (with_reducible refine (eddylaw18_sameEvents.calls k1 _ _ y167 _ _ l2 true _ ?side1 ?side2 ?side3 ?side4 A30.out).mono ?_); (case side1 => repeat (first | exact (by repeat (first | (with_reducible exact HR170.out) | (with_reducible refine Kd.C_alloc ?_ _) | (with_reducible refine Kd.C_drewN ?_ _) | (with_reducible refine Kd.C_drew ?_) | exact HR170.out)) | (with_reducible refine Kd.C_alloc ?_ _) | (with_reducible refine Kd.C_drewN ?_ _) | (with_reducible refine Kd.C_drew ?_))); (case side2 => exact HC170.out); (case side3 => exact Kd.C_kept_now HR2.out (by repeat (first | (with_reducible first | exact HK.out | apply Kept.alloc | apply Kept.drewN | apply Kept.drew) | exact HK.out))); (case side4 => exact HC2.out); rintro e w' ⟨rfl, ⟨nd, rfl⟩⟩; (try first | exact ⟨rfl, _, World.drewN_drewN _ _ _⟩ | exact ⟨rfl, _, Eq.trans (World.drewN_drewN _ _ _) (congrArg (World.drewN _) (Nat.add_assoc _ _ _))⟩); have q37 : ((l2.length : Int) : Int) ≤ ((x0_1.length : Int) : Int) := of_decide_eq_true (by first | (with_reducible assumption) | assumption); obtain ⟨i037, hi037, _, hsz37, _⟩ := info_parts info48; have hroom37 : x0_1.length ≤ co36 := (Kd.R_reads' HO_0.out).2.1; have hC37 : Kd.C k48 _ Ao36 x0_1.length x0_1 := (Kd.R_reads' HO_0.out).2.2; have q037 : (0 : Int) ≤ ((l2.length : Int) : Int) := of_decide_eq_true (by first | (with_reducible assumption) | assumption); have hcut37 := cut_from (P := Try.prog) 24 48 .i64 Try.underlying24 hi037 2 hsz37 Ao36 x0_1.length co36 (l2.length : Int) q037 q37; have hr37 := Kd.C_drop (m := ((l2.length : Int) : Int).toNat) (c := co36) hC37 (by omega) hroom37; obtain ⟨A37, hA37⟩ : ∃ A1, A1 = (if co36 = ((l2.length : Int) : Int).toNat then Ao36 else (Ao36 : Option Addr).map (·.add (((l2.length : Int) : Int).toNat * 2))) := ⟨_, rfl⟩; obtain ⟨c37, hc37⟩ : ∃ c1, c1 = co36 - ((l2.length : Int) : Int).toNat := ⟨_, rfl⟩; have hy37 : y172.length = x0_1.length - ((l2.length : Int) : Int).toNat := (by rw [Ny172.out, List.length_drop] <;> omega); rw [show (x0_1).drop ((l2.length : Int) : Int).toNat = y172 from Ny172.out.symm] at hr37; replace hr37 : Kd.C k48 _ A37 y172.length y172 := (by rw [hA37]; exact hr37); rw [← hy37, ← hA37, ← hc37] at hcut37; have HR175 := Aside0.mk hr37; have HC175 := Aside0.mk (show y172.length ≤ c37 from by rw [hy37, hc37]; exact Nat.sub_le_sub_right hroom37 _); clear hr37 hC37 hroom37 hi037 hsz37 hc37; have KY37 := Aside0.mk hy37; have KA37 := Aside0.mk hA37; clear hy37 hA37; have KL37 := Aside0.mk (show ((l2.length : Int) : Int).toNat ≤ x0_1.length from by omega); replace q37 := eq_true q37) | (go_at_call 15; (with_reducible refine (eddylaw18_sameEvents.calls k1 _ _ y172 _ _ l3 t176 _ ?side1 ?side2 ?side3 ?side4 A34.out).mono ?_); (case side1 => repeat (first | exact (by repeat (first | (with_reducible exact HR175.out) | (with_reducible refine Kd.C_alloc ?_ _) | (with_reducible refine Kd.C_drewN ?_ _) | (with_reducible refine Kd.C_drew ?_) | exact HR175.out)) | (with_reducible refine Kd.C_alloc ?_ _) | (with_reducible refine Kd.C_drewN ?_ _) | (with_reducible refine Kd.C_drew ?_))); (case side2 => exact HC175.out); (case side3 => exact Kd.C_kept_now HR3.out (by repeat (first | (with_reducible first | exact HK.out | apply Kept.alloc | apply Kept.drewN | apply Kept.drew) | exact HK.out))); (case side4 => exact HC3.out); rintro e w' ⟨rfl, ⟨nd, rfl⟩⟩; (try first | exact ⟨rfl, _, World.drewN_drewN _ _ _⟩ | exact ⟨rfl, _, Eq.trans (World.drewN_drewN _ _ _) (congrArg (World.drewN _) (Nat.add_assoc _ _ _))⟩))))
              go_ret
              exact ⟨by first | rfl | (simp [errW_none, errW_some] <;> rfl) | (simp [*, errW_none, errW_some] <;> rfl), by (with_reducible repeat (first | apply Kd.R_alloc | apply Kd.R_drewN | apply Kd.R_drew)); exact HO_0.out, by repeat (first | (with_reducible first | exact HB.out | apply below_alloc | apply pw_below_drewN | apply below_drew1) | exact HB.out), by repeat (first | (with_reducible first | exact HK.out | apply Kept.alloc | apply Kept.drewN | apply Kept.drew) | exact HK.out)⟩
            · replace c31 := Bool.eq_false_iff.mpr c31
              subst c31
              have H1 : (some (false, x0_1)) = some (r1, r2) := by rw [if_neg (show ¬ (false = true) by decide)] at H; exact H
              clear H
              have H := H1
              clear H1
              simp only [Option.some.injEq, Prod.mk.injEq] at H
              obtain ⟨rfl, rfl⟩ := H
              obtain ⟨Ao39, co39, eo39⟩ := Kd.R_slice HO_0.out
              subst eo39
              have q38 : ((l2.length : Int) : Int) ≤ ((x0_1.length : Int) : Int) := of_decide_eq_true (by first | (with_reducible assumption) | assumption)
              obtain ⟨i038, hi038, _, hsz38, _⟩ := info_parts info48
              have hroom38 : x0_1.length ≤ co39 := (Kd.R_reads' HO_0.out).2.1
              have hC38 : Kd.C k48 _ Ao39 x0_1.length x0_1 := (Kd.R_reads' HO_0.out).2.2
              have hcut38 := cut_to (P := Try.prog) 24 48 .i64 Try.underlying24 hi038 Ao39 x0_1.length co39 (l2.length : Int) (of_decide_eq_true (by first | (with_reducible assumption) | assumption)) q38 hroom38
              have hr38 := Kd.C_take (m := ((l2.length : Int) : Int).toNat) hC38 (by omega)
              have hy38 : y167.length = ((l2.length : Int) : Int).toNat := (by rw [Ny167.out, List.length_take]; omega)
              rw [← Ny167.out] at hr38
              rw [← hy38] at hcut38
              have HR170 := Aside0.mk hr38
              have HC170 := Aside0.mk (show y167.length ≤ co39 from by omega)
              clear hr38 hC38 hroom38 hi038 hsz38
              have KY38 := Aside0.mk hy38
              clear hy38
              have KL38 := Aside0.mk (show ((l2.length : Int) : Int).toNat ≤ x0_1.length from by omega)
              replace q38 := eq_true q38
              go_wp2_with (first | (go_at_call 15; (with_reducible refine (eddylaw18_sameEvents.calls k1 _ _ y167 _ _ l2 false _ ?side1 ?side2 ?side3 ?side4 A30.out).mono ?_); (case side1 => repeat (first | exact (by repeat (first | (with_reducible exact HR170.out) | (with_reducible refine Kd.C_alloc ?_ _) | (with_reducible refine Kd.C_drewN ?_ _) | (with_reducible refine Kd.C_drew ?_) | exact HR170.out)) | (with_reducible refine Kd.C_alloc ?_ _) | (with_reducible refine Kd.C_drewN ?_ _) | (with_reducible refine Kd.C_drew ?_))); (case side2 => exact HC170.out); (case side3 => exact Kd.C_kept_now HR2.out (by repeat (first | (with_reducible first | exact HK.out | apply Kept.alloc | apply Kept.drewN | apply Kept.drew) | exact HK.out))); (case side4 => exact HC2.out); rintro e w' ⟨rfl, ⟨nd, rfl⟩⟩; (try first | exact ⟨rfl, _, World.drewN_drewN _ _ _⟩ | exact ⟨rfl, _, Eq.trans (World.drewN_drewN _ _ _) (congrArg (World.drewN _) (Nat.add_assoc _ _ _))⟩)))
              repeat (go_quiet (first | (go_at_call 15; (with_reducible refine (eddylaw18_sameEvents.calls k1 _ _ y167 _ _ l2 false _ ?side1 ?side2 ?side3 ?side4 A30.out).mono ?_); (case side1 => repeat (first | exact (by repeat (first | (with_reducible exact HR170.out) | (with_reducible refine Kd.C_alloc ?_ _) | (with_reducible refine Kd.C_drewN ?_ _) | (with_reducible refine Kd.C_drew ?_) | exact HR170.out)) | (with_reducible refine Kd.C_alloc ?_ _) | (with_reducible refine Kd.C_drewN ?_ _) | (with_reducible refine Kd.C_drew ?_))); (case side2 => exact HC170.out); (case side3 => exact Kd.C_kept_now HR2.out (by repeat (first | (with_reducible first | exact HK.out | apply Kept.alloc | apply Kept.drewN | apply Kept.drew) | exact HK.out))); (case side4 => exact HC2.out); rintro e w' ⟨rfl, ⟨nd, rfl⟩⟩; (try first | exact ⟨rfl, _, World.drewN_drewN _ _ _⟩ | exact ⟨rfl, _, Eq.trans (World.drewN_drewN _ _ _) (congrArg (World.drewN _) (Nat.add_assoc _ _ _))⟩))); try go_wp2_with (first | (go_at_call 15; (with_reducible refine (eddylaw18_sameEvents.calls k1 _ _ y167 _ _ l2 false _ ?side1 ?side2 ?side3 ?side4 A30.out).mono ?_); (case side1 => repeat (first | exact (by repeat (first | (with_reducible exact HR170.out) | (with_reducible refine Kd.C_alloc ?_ _) | (with_reducible refine Kd.C_drewN ?_ _) | (with_reducible refine Kd.C_drew ?_) | exact HR170.out)) | (with_reducible refine Kd.C_alloc ?_ _) | (with_reducible refine Kd.C_drewN ?_ _) | (with_reducible refine Kd.C_drew ?_))); (case side2 => exact HC170.out); (case side3 => exact Kd.C_kept_now HR2.out (by repeat (first | (with_reducible first | exact HK.out | apply Kept.alloc | apply Kept.drewN | apply Kept.drew) | exact HK.out))); (case side4 => exact HC2.out); rintro e w' ⟨rfl, ⟨nd, rfl⟩⟩; (try first | exact ⟨rfl, _, World.drewN_drewN _ _ _⟩ | exact ⟨rfl, _, Eq.trans (World.drewN_drewN _ _ _) (congrArg (World.drewN _) (Nat.add_assoc _ _ _))⟩))))
              go_ret
              exact ⟨by first | rfl | (simp [errW_none, errW_some] <;> rfl) | (simp [*, errW_none, errW_some] <;> rfl), by (with_reducible repeat (first | apply Kd.R_alloc | apply Kd.R_drewN | apply Kd.R_drew)); exact HO_0.out, by repeat (first | (with_reducible first | exact HB.out | apply below_alloc | apply pw_below_drewN | apply below_drew1) | exact HB.out), by repeat (first | (with_reducible first | exact HK.out | apply Kept.alloc | apply Kept.drewN | apply Kept.drew) | exact HK.out)⟩
          · rw [if_neg c29] at H
            exact absurd H (by simp)
        · rw [if_neg c28] at H
          exact absurd H (by simp)

-- NOT PRINTED: function 11 (eddylaw18_WitnessTasks)
end Go.Proofs.Ytammigfckdgljaa.PWitnessSplit
