import Derived.Test.YtammigfckdgljaaPWitnessSplitp1t
namespace Go.Proofs.Ytammigfckdgljaa.PWitnessSplit
open Go.RowKit Go.Proofs.YtammigfckdgljaaW.PrintWords Go.Proofs.YtammigfckdgljaaW.PrintLast Go.Proofs.YtammigfckdgljaaW.PrintMore
set_option linter.unusedVariables false
set_option linter.unusedSimpArgs false

/-! ### Line: what it tells -/
def stp (l : List S46) : List S48 := (l.filter fun t => decide (t.f0 = 1)).map evOf
theorem stp_cons (t : S46) (r : List S46) : stp (t :: r) = if t.f0 = 1 then evOf t :: stp r else stp r := by
  unfold stp
  rw [List.filter_cons]
  by_cases h : t.f0 = 1
  · simp [h]
  · simp [h]
theorem stp_snoc (r : List S46) (t : S46) : stp (r ++ [t]) = if t.f0 = 1 then stp r ++ [evOf t] else stp r := by
  unfold stp
  rw [List.filter_append, List.map_append]
  by_cases h : t.f0 = 1
  · simp [h]
  · simp [h]
theorem stp_len (l : List S46) : (stp l).length ≤ l.length := by
  unfold stp
  rw [List.length_map]
  exact List.length_filter_le _ _
def segOf (ls : List S72) (id : Int) (j : Nat) : List S46 := (ls.getD j z72).f1.take ((fst id (ls.getD j z72).f1).getD 0)
/-- the pieces of the lives ahead, laid ahead of out -/
def backP (tasks : Int) (ls : List S72) : Nat → Nat → List S48 → List S48 × Int
  | 0, _, out => (out, 0)
  | f + 1, n, out =>
    if (ls.getD n z72).f0 > 0 then
      match seekN (ls.getD n z72).f0 ls n with
      | .negSucc _ => ([], 180)
      | .ofNat j =>
        if (partsP (ls.getD n z72).f0 tasks (segOf ls (ls.getD n z72).f0 j)).2.2 = 0 then
          backP tasks ls f j (thoseN true (partsP (ls.getD n z72).f0 tasks (segOf ls (ls.getD n z72).f0 j)).1 (partsP (ls.getD n z72).f0 tasks (segOf ls (ls.getD n z72).f0 j)).2.1 ++ out)
        else ([], 181)
    else (out, 0)
theorem backP_end {tasks : Int} {ls : List S72} {f n : Nat} {out : List S48} (h : ¬ (ls.getD n z72).f0 > 0) : backP tasks ls (f + 1) n out = (out, 0) := by
  rw [backP, if_neg h]
theorem backP_none {tasks : Int} {ls : List S72} {f n : Nat} {out : List S48} (h : (ls.getD n z72).f0 > 0) (hs : seekN (ls.getD n z72).f0 ls n = -1) : backP tasks ls (f + 1) n out = ([], 180) := by
  rw [backP, if_pos h, hs]
  rfl
theorem backP_bad {tasks : Int} {ls : List S72} {f n j : Nat} {out : List S48} (h : (ls.getD n z72).f0 > 0) (hs : seekN (ls.getD n z72).f0 ls n = (j : Int)) (hp : ¬ (partsP (ls.getD n z72).f0 tasks (segOf ls (ls.getD n z72).f0 j)).2.2 = 0) : backP tasks ls (f + 1) n out = ([], 181) := by
  rw [backP, if_pos h, hs]
  exact if_neg hp
theorem backP_go {tasks : Int} {ls : List S72} {f n j : Nat} {out : List S48} (h : (ls.getD n z72).f0 > 0) (hs : seekN (ls.getD n z72).f0 ls n = (j : Int)) (hp : (partsP (ls.getD n z72).f0 tasks (segOf ls (ls.getD n z72).f0 j)).2.2 = 0) :
    backP tasks ls (f + 1) n out = backP tasks ls f j (thoseN true (partsP (ls.getD n z72).f0 tasks (segOf ls (ls.getD n z72).f0 j)).1 (partsP (ls.getD n z72).f0 tasks (segOf ls (ls.getD n z72).f0 j)).2.1 ++ out) := by
  rw [backP, if_pos h, hs]
  exact if_pos hp
def lineP (l : List S46) (tasks : Int) : List S48 × Int :=
  if can l tasks = true then backP tasks (cutL l 0 []) (cutL l 0 []).length ((cutL l 0 []).length - 1) (stp ((cutL l 0 []).getD ((cutL l 0 []).length - 1) z72).f1) else ([], 181)
theorem partsP_err (id tasks : Int) (seg : List S46) (h : ¬ (partsP id tasks seg).2.2 = 0) : partsP id tasks seg = ([], [], 181) := by
  unfold partsP at h ⊢
  split at h
  · exact absurd rfl h
  · rename_i hh; rw [if_neg hh]
theorem partsP_len (id tasks : Int) (seg : List S46) : (partsP id tasks seg).1.length ≤ seg.length ∧ (partsP id tasks seg).2.1.length = (partsP id tasks seg).1.length := by
  unfold partsP
  split
  · refine ⟨(sc_le id seg 0).2.2.1, ?_⟩
    simp only
    rw [(sc_eq id seg).1, (sc_eq id seg).2.1]
    simp
  · exact ⟨by simp, rfl⟩
theorem getD72 {ls : List S72} {j : Nat} (hj : j < ls.length) : ls.getD j z72 = ls[j] := by
  simp [List.getD_eq_getElem?_getD, List.getElem?_eq_getElem hj]
theorem segOf_eq {ls : List S72} {id : Int} {j e : Nat} (hj : j < ls.length) (he : fst id (ls.getD j z72).f1 = some e) : segOf ls id j = ls[j].f1.take e := by
  unfold segOf
  rw [he, getD72 hj]
  rfl
theorem piece_len (id tasks : Int) (ls : List S72) (j : Nat) : (thoseN true (partsP id tasks (segOf ls id j)).1 (partsP id tasks (segOf ls id j)).2.1).length ≤ (ls.getD j z72).f1.length := by
  have h1 := thoseN_len true (partsP id tasks (segOf ls id j)).1 (partsP id tasks (segOf ls id j)).2.1
  have h2 := (partsP_len id tasks (segOf ls id j)).1
  have h3 : (segOf ls id j).length ≤ (ls.getD j z72).f1.length := by unfold segOf; rw [List.length_take]; omega
  omega
/-- the bound that the loops keep -/
theorem back_bound {ls : List S72} {j n : Nat} (hj : j < n) (hn : n < ls.length) (id tasks : Int) (out : List S48) (L : Nat) (h : out.length + off ls n ≤ L) :
    (thoseN true (partsP id tasks (segOf ls id j)).1 (partsP id tasks (segOf ls id j)).2.1 ++ out).length + off ls j ≤ L := by
  have h1 := piece_len id tasks ls j
  rw [getD72 (show j < ls.length by omega)] at h1
  have h2 := off_succ ls j (by omega)
  have h3 := off_mono ls n (j + 1) (by omega) (by omega)
  rw [List.length_append]
  omega

theorem cut_head (l : List S46) : 0 < (cutL l 0 []).length ∧ ((cutL l 0 []).getD 0 z72).f0 = 0 := by
  obtain ⟨_, h2, h3⟩ := laid_cut l 0 [] (by simp)
  refine ⟨h3, ?_⟩
  rw [List.head?_eq_getElem?, List.getElem?_eq_getElem h3] at h2
  rw [getD72 h3]
  simpa using h2
theorem last_bound {l : List S46} {ls : List S72} (hL : Laid l ls) {m : Nat} (hm : ls.length = m + 1) : (stp (ls.getD m z72).f1).length + off ls m ≤ l.length := by
  have h1 := stp_len (ls.getD m z72).f1
  rw [getD72 (show m < ls.length by omega)] at h1 ⊢
  have h2 := off_succ ls m (by omega)
  have h3 := hL.1
  rw [hm] at h3
  omega
end Go.Proofs.Ytammigfckdgljaa.PWitnessSplit
