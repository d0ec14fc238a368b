import Derived.Test.YtammigfckdgljaaPWitnessSplitgU1
namespace Go.Proofs.Ytammigfckdgljaa.PWitnessSplit
open Go.RowKit Go.Proofs.YtammigfckdgljaaW.PrintWords Go.Proofs.YtammigfckdgljaaW.PrintLast Go.Proofs.YtammigfckdgljaaW.PrintMore
attribute [local go_sem] max2_int min2_int max_two min_two max_three min_three max_four min_four
set_option linter.unusedVariables false
set_option linter.unusedSimpArgs false

/-! ### eddylaw18_refusable: function 21 -/
mutual
def eddylaw18_refusable.j0 : Nat → List (S46) → Int → Int → Bool → Option (Bool)
 | 0, _, _, _, _ => none
 | k + 1, x0, x1, x2, x19 => if x19 = true then (some true) else (eddylaw18_refusable.l0 k x0 x1 x2 0)
def eddylaw18_refusable.l0 : Nat → List (S46) → Int → Int → Int → Option (Bool)
 | 0, _, _, _, _ => none
 | k + 1, x0, x1, x2, x7 => if x7 < (x0.length : Int) then (if 0 ≤ x7 then (if ((rd_T46 x0 x7).f0) < 1 then (eddylaw18_refusable.j2 k x0 x1 x2 x7 true ((rd_T46 x0 x7).f0) ((rd_T46 x0 x7).f1) ((rd_T46 x0 x7).f2) ((rd_T46 x0 x7).f3)) else (if ((rd_T46 x0 x7).f0) > 11 then (eddylaw18_refusable.j2 k x0 x1 x2 x7 true ((rd_T46 x0 x7).f0) ((rd_T46 x0 x7).f1) ((rd_T46 x0 x7).f2) ((rd_T46 x0 x7).f3)) else (if ((rd_T46 x0 x7).f1) < 0 then (eddylaw18_refusable.j2 k x0 x1 x2 x7 true ((rd_T46 x0 x7).f0) ((rd_T46 x0 x7).f1) ((rd_T46 x0 x7).f2) ((rd_T46 x0 x7).f3)) else (if ((rd_T46 x0 x7).f1) ≥ x2 then (eddylaw18_refusable.j2 k x0 x1 x2 x7 true ((rd_T46 x0 x7).f0) ((rd_T46 x0 x7).f1) ((rd_T46 x0 x7).f2) ((rd_T46 x0 x7).f3)) else (if ((rd_T46 x0 x7).f2) < 0 then (eddylaw18_refusable.j2 k x0 x1 x2 x7 true ((rd_T46 x0 x7).f0) ((rd_T46 x0 x7).f1) ((rd_T46 x0 x7).f2) ((rd_T46 x0 x7).f3)) else (if ((rd_T46 x0 x7).f2) > 3 then (eddylaw18_refusable.j2 k x0 x1 x2 x7 true ((rd_T46 x0 x7).f0) ((rd_T46 x0 x7).f1) ((rd_T46 x0 x7).f2) ((rd_T46 x0 x7).f3)) else (if ((rd_T46 x0 x7).f3) < 0 then (eddylaw18_refusable.j2 k x0 x1 x2 x7 true ((rd_T46 x0 x7).f0) ((rd_T46 x0 x7).f1) ((rd_T46 x0 x7).f2) ((rd_T46 x0 x7).f3)) else (if ((rd_T46 x0 x7).f3) > 9999 then (eddylaw18_refusable.j2 k x0 x1 x2 x7 (((rd_T46 x0 x7).f0) != 9) ((rd_T46 x0 x7).f0) ((rd_T46 x0 x7).f1) ((rd_T46 x0 x7).f2) ((rd_T46 x0 x7).f3)) else (eddylaw18_refusable.j2 k x0 x1 x2 x7 false ((rd_T46 x0 x7).f0) ((rd_T46 x0 x7).f1) ((rd_T46 x0 x7).f2) ((rd_T46 x0 x7).f3)))))))))) else (none)) else ((eddylaw18_life.f k x0 x1).bind fun bt149 => (if bt149.1 < 0 then (some true) else (eddylaw18_refusable.l1 k x0 x1 x2 bt149.1 bt149.2 0)))
def eddylaw18_refusable.j2 : Nat → List (S46) → Int → Int → Int → Bool → Int → Int → Int → Int → Option (Bool)
 | 0, _, _, _, _, _, _, _, _, _ => none
 | k + 1, x0, x1, x2, x7, x73, x149000, x149001, x149002, x149003 => if x73 = true then (some true) else (if x149002 = 0 then (if x149003 = 0 then (if x149000 > 1 then (if x149000 < 9 then (some true) else (if x149001 = 0 then (eddylaw18_refusable.l0 k x0 x1 x2 (wrap64 (x7 + 1))) else (if x149000 > 4 then (if x149000 > 9 then (some true) else (eddylaw18_refusable.l0 k x0 x1 x2 (wrap64 (x7 + 1)))) else (if x149000 > 9 then (some true) else (eddylaw18_refusable.l0 k x0 x1 x2 (wrap64 (x7 + 1))))))) else (if x149001 = 0 then (eddylaw18_refusable.l0 k x0 x1 x2 (wrap64 (x7 + 1))) else (if x149000 > 4 then (if x149000 < 9 then (some true) else (if x149000 > 9 then (some true) else (eddylaw18_refusable.l0 k x0 x1 x2 (wrap64 (x7 + 1))))) else (if x149000 > 9 then (some true) else (eddylaw18_refusable.l0 k x0 x1 x2 (wrap64 (x7 + 1))))))) else (if x149000 = 1 then (some true) else (if x149000 = 10 then (some true) else (if x149001 = 0 then (eddylaw18_refusable.l0 k x0 x1 x2 (wrap64 (x7 + 1))) else (if x149000 > 4 then (if x149000 < 9 then (some true) else (if x149000 > 9 then (some true) else (eddylaw18_refusable.l0 k x0 x1 x2 (wrap64 (x7 + 1))))) else (if x149000 > 9 then (some true) else (eddylaw18_refusable.l0 k x0 x1 x2 (wrap64 (x7 + 1))))))))) else (if x149000 > 2 then (some true) else (if x149003 = 0 then (if x149000 > 1 then (if x149000 < 9 then (some true) else (if x149001 = 0 then (eddylaw18_refusable.l0 k x0 x1 x2 (wrap64 (x7 + 1))) else (if x149000 > 4 then (if x149000 > 9 then (some true) else (eddylaw18_refusable.l0 k x0 x1 x2 (wrap64 (x7 + 1)))) else (if x149000 > 9 then (some true) else (eddylaw18_refusable.l0 k x0 x1 x2 (wrap64 (x7 + 1))))))) else (if x149001 = 0 then (eddylaw18_refusable.l0 k x0 x1 x2 (wrap64 (x7 + 1))) else (if x149000 > 4 then (if x149000 < 9 then (some true) else (if x149000 > 9 then (some true) else (eddylaw18_refusable.l0 k x0 x1 x2 (wrap64 (x7 + 1))))) else (if x149000 > 9 then (some true) else (eddylaw18_refusable.l0 k x0 x1 x2 (wrap64 (x7 + 1))))))) else (if x149000 = 1 then (some true) else (if x149000 = 10 then (some true) else (if x149001 = 0 then (eddylaw18_refusable.l0 k x0 x1 x2 (wrap64 (x7 + 1))) else (if x149000 > 4 then (if x149000 < 9 then (some true) else (if x149000 > 9 then (some true) else (eddylaw18_refusable.l0 k x0 x1 x2 (wrap64 (x7 + 1))))) else (if x149000 > 9 then (some true) else (eddylaw18_refusable.l0 k x0 x1 x2 (wrap64 (x7 + 1)))))))))))
def eddylaw18_refusable.l1 : Nat → List (S46) → Int → Int → Int → Int → Int → Option (Bool)
 | 0, _, _, _, _, _, _ => none
 | k + 1, x0, x1, x2, x9, x10, x11 => if x11 < x2 then (eddylaw18_refusable.l2 k x0 x1 x2 x9 x10 x11 0 x9) else (some false)
def eddylaw18_refusable.l2 : Nat → List (S46) → Int → Int → Int → Int → Int → Int → Int → Option (Bool)
 | 0, _, _, _, _, _, _, _, _ => none
 | k + 1, x0, x1, x2, x9, x10, x11, x12, x13 => if x13 < x10 then (if 0 ≤ x13 then (if x13 < (x0.length : Int) then (if ((rd_T46 x0 x13).f0) = 3 then (if ((rd_T46 x0 x13).f3) = x1 then (if ((rd_T46 x0 x13).f1) = x11 then (eddylaw18_refusable.l2 k x0 x1 x2 x9 x10 x11 (wrap64 (x12 + 1)) (wrap64 (x13 + 1))) else (eddylaw18_refusable.l2 k x0 x1 x2 x9 x10 x11 x12 (wrap64 (x13 + 1)))) else (eddylaw18_refusable.l2 k x0 x1 x2 x9 x10 x11 x12 (wrap64 (x13 + 1)))) else (eddylaw18_refusable.l2 k x0 x1 x2 x9 x10 x11 x12 (wrap64 (x13 + 1)))) else (none)) else (none)) else (if x12 = 1 then (eddylaw18_refusable.l1 k x0 x1 x2 x9 x10 (wrap64 (x11 + 1))) else (some true))
end
def eddylaw18_refusable.f (k : Nat) (l0 : List (S46)) (a1 : Int) (a2 : Int) : Option (Bool) := if a2 < 1 then (eddylaw18_refusable.j0 k l0 a1 a2 true) else (eddylaw18_refusable.j0 k l0 a1 a2 (decide (a2 > 12)))
theorem eddylaw18_refusable.mono_l : ∀ k, (∀ y0 y1 y2 y3, LeO (eddylaw18_refusable.j0 k y0 y1 y2 y3) (eddylaw18_refusable.j0 (k + 1) y0 y1 y2 y3)) ∧ (∀ y0 y1 y2 y3, LeO (eddylaw18_refusable.l0 k y0 y1 y2 y3) (eddylaw18_refusable.l0 (k + 1) y0 y1 y2 y3)) ∧ (∀ y0 y1 y2 y3 y4 y5 y6 y7 y8, LeO (eddylaw18_refusable.j2 k y0 y1 y2 y3 y4 y5 y6 y7 y8) (eddylaw18_refusable.j2 (k + 1) y0 y1 y2 y3 y4 y5 y6 y7 y8)) ∧ (∀ y0 y1 y2 y3 y4 y5, LeO (eddylaw18_refusable.l1 k y0 y1 y2 y3 y4 y5) (eddylaw18_refusable.l1 (k + 1) y0 y1 y2 y3 y4 y5)) ∧ (∀ y0 y1 y2 y3 y4 y5 y6 y7, LeO (eddylaw18_refusable.l2 k y0 y1 y2 y3 y4 y5 y6 y7) (eddylaw18_refusable.l2 (k + 1) y0 y1 y2 y3 y4 y5 y6 y7))
 | 0 => ⟨fun _ _ _ _ r h => by simp [eddylaw18_refusable.j0] at h, fun _ _ _ _ r h => by simp [eddylaw18_refusable.l0] at h, fun _ _ _ _ _ _ _ _ _ r h => by simp [eddylaw18_refusable.j2] at h, fun _ _ _ _ _ _ r h => by simp [eddylaw18_refusable.l1] at h, fun _ _ _ _ _ _ _ _ r h => by simp [eddylaw18_refusable.l2] at h⟩
 | k + 1 => by
  obtain ⟨ih0, ih1, ih2, ih3, ih4⟩ := eddylaw18_refusable.mono_l k
  refine ⟨?_, ?_, ?_, ?_, ?_⟩
  ·
   intro y0 y1 y2 y3
   unfold eddylaw18_refusable.j0
   repeat' first
   | (with_reducible exact ih0 _ _ _ _)
   | (with_reducible exact ih1 _ _ _ _)
   | (with_reducible exact ih2 _ _ _ _ _ _ _ _ _)
   | (with_reducible exact ih3 _ _ _ _ _ _)
   | (with_reducible exact ih4 _ _ _ _ _ _ _ _)
   | (with_reducible exact eddylaw18_life.mono _ _ _)
   | (with_reducible exact LeO.refl _)
   | (with_reducible exact LeO.none _)
   | (with_reducible refine LeO.ite ?_ ?_)
   | (with_reducible refine LeO.bind ?_ (fun _ => ?_))
   | exact ih0 _ _ _ _
   | exact ih1 _ _ _ _
   | exact ih2 _ _ _ _ _ _ _ _ _
   | exact ih3 _ _ _ _ _ _
   | exact ih4 _ _ _ _ _ _ _ _
   | exact eddylaw18_life.mono _ _ _
   | exact LeO.none _
   | refine LeO.ite ?_ ?_
   | refine LeO.bind ?_ (fun _ => ?_)
  ·
   intro y0 y1 y2 y3
   unfold eddylaw18_refusable.l0
   repeat' first
   | (with_reducible exact ih0 _ _ _ _)
   | (with_reducible exact ih1 _ _ _ _)
   | (with_reducible exact ih2 _ _ _ _ _ _ _ _ _)
   | (with_reducible exact ih3 _ _ _ _ _ _)
   | (with_reducible exact ih4 _ _ _ _ _ _ _ _)
   | (with_reducible exact eddylaw18_life.mono _ _ _)
   | (with_reducible exact LeO.refl _)
   | (with_reducible exact LeO.none _)
   | (with_reducible refine LeO.ite ?_ ?_)
   | (with_reducible refine LeO.bind ?_ (fun _ => ?_))
   | exact ih0 _ _ _ _
   | exact ih1 _ _ _ _
   | exact ih2 _ _ _ _ _ _ _ _ _
   | exact ih3 _ _ _ _ _ _
   | exact ih4 _ _ _ _ _ _ _ _
   | exact eddylaw18_life.mono _ _ _
   | exact LeO.none _
   | refine LeO.ite ?_ ?_
   | refine LeO.bind ?_ (fun _ => ?_)
  ·
   intro y0 y1 y2 y3 y4 y5 y6 y7 y8
   unfold eddylaw18_refusable.j2
   repeat' first
   | (with_reducible exact ih0 _ _ _ _)
   | (with_reducible exact ih1 _ _ _ _)
   | (with_reducible exact ih2 _ _ _ _ _ _ _ _ _)
   | (with_reducible exact ih3 _ _ _ _ _ _)
   | (with_reducible exact ih4 _ _ _ _ _ _ _ _)
   | (with_reducible exact eddylaw18_life.mono _ _ _)
   | (with_reducible exact LeO.refl _)
   | (with_reducible exact LeO.none _)
   | (with_reducible refine LeO.ite ?_ ?_)
   | (with_reducible refine LeO.bind ?_ (fun _ => ?_))
   | exact ih0 _ _ _ _
   | exact ih1 _ _ _ _
   | exact ih2 _ _ _ _ _ _ _ _ _
   | exact ih3 _ _ _ _ _ _
   | exact ih4 _ _ _ _ _ _ _ _
   | exact eddylaw18_life.mono _ _ _
   | exact LeO.none _
   | refine LeO.ite ?_ ?_
   | refine LeO.bind ?_ (fun _ => ?_)
  ·
   intro y0 y1 y2 y3 y4 y5
   unfold eddylaw18_refusable.l1
   repeat' first
   | (with_reducible exact ih0 _ _ _ _)
   | (with_reducible exact ih1 _ _ _ _)
   | (with_reducible exact ih2 _ _ _ _ _ _ _ _ _)
   | (with_reducible exact ih3 _ _ _ _ _ _)
   | (with_reducible exact ih4 _ _ _ _ _ _ _ _)
   | (with_reducible exact eddylaw18_life.mono _ _ _)
   | (with_reducible exact LeO.refl _)
   | (with_reducible exact LeO.none _)
   | (with_reducible refine LeO.ite ?_ ?_)
   | (with_reducible refine LeO.bind ?_ (fun _ => ?_))
   | exact ih0 _ _ _ _
   | exact ih1 _ _ _ _
   | exact ih2 _ _ _ _ _ _ _ _ _
   | exact ih3 _ _ _ _ _ _
   | exact ih4 _ _ _ _ _ _ _ _
   | exact eddylaw18_life.mono _ _ _
   | exact LeO.none _
   | refine LeO.ite ?_ ?_
   | refine LeO.bind ?_ (fun _ => ?_)
  ·
   intro y0 y1 y2 y3 y4 y5 y6 y7
   unfold eddylaw18_refusable.l2
   repeat' first
   | (with_reducible exact ih0 _ _ _ _)
   | (with_reducible exact ih1 _ _ _ _)
   | (with_reducible exact ih2 _ _ _ _ _ _ _ _ _)
   | (with_reducible exact ih3 _ _ _ _ _ _)
   | (with_reducible exact ih4 _ _ _ _ _ _ _ _)
   | (with_reducible exact eddylaw18_life.mono _ _ _)
   | (with_reducible exact LeO.refl _)
   | (with_reducible exact LeO.none _)
   | (with_reducible refine LeO.ite ?_ ?_)
   | (with_reducible refine LeO.bind ?_ (fun _ => ?_))
   | exact ih0 _ _ _ _
   | exact ih1 _ _ _ _
   | exact ih2 _ _ _ _ _ _ _ _ _
   | exact ih3 _ _ _ _ _ _
   | exact ih4 _ _ _ _ _ _ _ _
   | exact eddylaw18_life.mono _ _ _
   | exact LeO.none _
   | refine LeO.ite ?_ ?_
   | refine LeO.bind ?_ (fun _ => ?_)
theorem eddylaw18_refusable.mono : ∀ a0 a1 a2 k, LeO (eddylaw18_refusable.f k a0 a1 a2) (eddylaw18_refusable.f (k + 1) a0 a1 a2) := by
 intro a0 a1 a2 k
 obtain ⟨ih0, ih1, ih2, ih3, ih4⟩ := eddylaw18_refusable.mono_l k
 unfold eddylaw18_refusable.f
 repeat' first
   | (with_reducible exact ih0 _ _ _ _)
   | (with_reducible exact ih1 _ _ _ _)
   | (with_reducible exact ih2 _ _ _ _ _ _ _ _ _)
   | (with_reducible exact ih3 _ _ _ _ _ _)
   | (with_reducible exact ih4 _ _ _ _ _ _ _ _)
   | (with_reducible exact eddylaw18_life.mono _ _ _)
   | (with_reducible exact LeO.refl _)
   | (with_reducible exact LeO.none _)
   | (with_reducible refine LeO.ite ?_ ?_)
   | (with_reducible refine LeO.bind ?_ (fun _ => ?_))
   | exact ih0 _ _ _ _
   | exact ih1 _ _ _ _
   | exact ih2 _ _ _ _ _ _ _ _ _
   | exact ih3 _ _ _ _ _ _
   | exact ih4 _ _ _ _ _ _ _ _
   | exact eddylaw18_life.mono _ _ _
   | exact LeO.none _
   | refine LeO.ite ?_ ?_
   | refine LeO.bind ?_ (fun _ => ?_)
end Go.Proofs.Ytammigfckdgljaa.PWitnessSplit
