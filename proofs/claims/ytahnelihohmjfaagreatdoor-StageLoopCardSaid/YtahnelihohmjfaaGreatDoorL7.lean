/- A part of the walk (V26, V27). -/
import Derived.Test.YtahnelihohmjfaaGreatDoorL6
import Derived.BigRegion
namespace Go.Proofs.YtahnelihohmjfaaGreatDoor.V
open Go.RowKit
set_option linter.unusedVariables false
set_option linter.unusedSimpArgs false
def revAt {α : Type} (d : α) (l : List α) (i j : Nat) : α := if j < i ∨ l.length ≤ i + j then l.getD (l.length - 1 - j) d else l.getD j d
theorem swap_cell {w : World} {g i k j : Nat} {x y u v : Value} (hi : w.cell? ⟨g, i, none⟩ = some x) (hk : w.cell? ⟨g, k, none⟩ = some y) : ((w.setCell ⟨g, i, none⟩ u).setCell ⟨g, k, none⟩ v).drew.cell? ⟨g, j, none⟩ = if j = k then some v else if j = i then some u else w.cell? ⟨g, j, none⟩ := by
  show ((w.setCell ⟨g, i, none⟩ u).setCell ⟨g, k, none⟩ v).cell? ⟨g, j, none⟩ = _
  by_cases h1 : j = k
  · subst h1
    rw [if_pos rfl]
    by_cases h2 : j = i
    · subst h2
      exact World.cell?_setCell_same _ _ _ (World.cell?_setCell_same _ _ _ hi)
    · exact World.cell?_setCell_same _ _ _ ((World.cell?_setCell_other _ _ _ _ (by simp only [ne_eq, Addr.mk.injEq]; omega)).trans hk)
  · rw [if_neg h1, World.cell?_setCell_other _ _ _ _ (by simp only [ne_eq, Addr.mk.injEq]; omega)]
    by_cases h2 : j = i
    · subst h2
      rw [if_pos rfl]
      exact World.cell?_setCell_same _ _ _ hi
    · rw [if_neg h2, World.cell?_setCell_other _ _ _ _ (by simp only [ne_eq, Addr.mk.injEq]; omega)]
theorem revAt_step {α : Type} (d : α) (l : List α) {i k j : Nat} (hk : i + k + 1 = l.length) (hik : i < k) (hj : j < l.length) : revAt d l (i + 1) j = if j = k then revAt d l i i else if j = i then revAt d l i k else revAt d l i j := by
  unfold revAt
  by_cases h1 : j = k
  · subst h1; rw [if_pos rfl, if_pos (by omega), if_neg (by omega)]; congr 1; omega
  · rw [if_neg h1]
    by_cases h2 : j = i
    · subst h2; rw [if_pos rfl, if_pos (by omega), if_neg (by omega)]; congr 1; omega
    · rw [if_neg h2]
      by_cases h3 : j < i ∨ l.length ≤ i + j
      · rw [if_pos h3, if_pos (by omega)]
      · rw [if_neg h3, if_neg (by omega)]
theorem revAt_end {α : Type} (d : α) (l : List α) {i j : Nat} (hi : l.length ≤ 2 * i + 1) (hj : j < l.length) : revAt d l i j = l.reverse.getD j d := by
  have e : l.reverse.getD j d = l.getD (l.length - 1 - j) d := by
    rw [List.getD_eq_getElem?_getD, List.getD_eq_getElem?_getD, List.getElem?_reverse (by omega)]
  rw [e]
  unfold revAt
  by_cases h3 : j < i ∨ l.length ≤ i + j
  · rw [if_pos h3]
  · rw [if_neg h3]; congr 1; omega
def RevBLoop (w : World) (g : Nat) (l : List UInt8) (v2 v3 : Value) (wr : World) : Prop :=
  ∃ i : Nat, v2 = .int .i64 i ∧ v3 = .int .i64 ((l.length : Int) - 1 - i) ∧ 2 * i ≤ l.length + 1 ∧ Chg w wr (· = g) ∧ (∀ j, j < l.length → wr.cell? ⟨g, j, none⟩ = some (.int .u8 ((revAt 0 l i j).toNat : Int))) ∧ (∀ j, j < l.length → wr.frozen? ⟨g, j, none⟩ = false)
set_option maxHeartbeats 8000000 in
set_option maxRecDepth 100000 in
theorem revB_calls (g c : Nat) (l : List UInt8) (w : World) (hm : l.length ≤ 1000) (hc : ∀ j, j < l.length → w.cell? ⟨g, j, none⟩ = some (.int .u8 ((l.getD j 0).toNat : Int))) (hf : ∀ j, j < l.length → w.frozen? ⟨g, j, none⟩ = false) :
    Calls Tryz.prog 184 #[.slice (some ⟨g, 0, none⟩) l.length c] w (fun e w' => e = .returned (.tuple #[]) ∧ Chg w w' (· = g) ∧ ∀ j, j < l.length → w'.cell? ⟨g, j, none⟩ = some (.int .u8 ((l.reverse.getD j 0).toNat : Int))) := by
  go_enter Tryz.func184, Tryz.ntmps184
  go_wp2_with fail
  go_loopw [2, 3] (fun v2 v3 wr => RevBLoop w g l v2 v3 wr) (fun v2 _ _ => l.length - (intOf v2).toNat)
  case atStart => exact ⟨0, rfl, by simp, by omega, Chg.refl _ _, fun j hj => by rw [hc j hj]; unfold revAt; rw [if_neg (by omega)], hf⟩
  case round =>
    obtain ⟨i, rfl, rfl, hi, hch, hcs, hfs⟩ := hrel
    have HC := Ad.mk hch
    have HCS := Ad.mk hcs
    have HFS := Ad.mk hfs
    clear hch hc hf
    by_cases hlt : 2 * i + 1 < l.length
    · obtain ⟨k, hk⟩ : ∃ k : Nat, i + k + 1 = l.length := ⟨l.length - 1 - i, by omega⟩
      have hk' : (l.length : Int) - 1 - i = (k : Int) := by omega
      rw [hk']
      have c1 := hcs i (by omega)
      have c2 := hcs k (by omega)
      have f1 := hfs i (by omega)
      have f2 := hfs k (by omega)
      have q1 : (i : Int) < (k : Int) := by omega
      have q2 : (0 : Int) ≤ (i : Int) := by omega
      have q3 : (0 : Int) ≤ (k : Int) := by omega
      have q4 : (i : Int) < (l.length : Int) := by omega
      have q5 : (k : Int) < (l.length : Int) := by omega
      have q6 : ¬ i = k := by omega
      have q7 : ¬ k = i := by omega
      clear hcs hfs
      go_wp2_with fail
      go_region
      go_wp2_with fail
      go_roundw
      case rel =>
        refine ⟨i + 1, by go_num, by go_num, by omega, ?_, ?_, ?_⟩
        · exact ((HC.out.set rfl i _).set rfl k _).drew
        · intro j hj
          rw [swap_cell c1 c2, revAt_step 0 l hk (by omega) hj]
          by_cases h1 : j = k
          · rw [if_pos h1, if_pos h1]
          · rw [if_neg h1, if_neg h1]
            by_cases h2 : j = i
            · rw [if_pos h2, if_pos h2]
            · rw [if_neg h2, if_neg h2]; exact HCS.out j hj
        · intro j hj
          simpa using HFS.out j hj
      case measure => simp [intOf]; omega
    · go_wp2_with fail
      go_end0
      exact ⟨rfl, HC.out, fun j hj => by rw [HCS.out j hj, revAt_end 0 l (by omega) hj]⟩
end Go.Proofs.YtahnelihohmjfaaGreatDoor.V
namespace Go.Proofs.YtahnelihohmjfaaGreatDoor.V
open Go.RowKit
set_option linter.unusedVariables false
set_option linter.unusedSimpArgs false
def revL {α : Type} (d : α) (l : List α) (i : Nat) : List α := (List.range l.length).map (revAt d l i)
theorem revL_len {α : Type} (d : α) (l : List α) (i : Nat) : (revL d l i).length = l.length := by simp [revL]
theorem revL_at {α : Type} (d : α) (l : List α) (i : Nat) {j : Nat} (hj : j < l.length) : (revL d l i).getD j d = revAt d l i j := by
  simp [revL, List.getD_eq_getElem?_getD, hj]
theorem revL_zero {α : Type} (d : α) (l : List α) : revL d l 0 = l := by
  refine List.ext_getElem (by simp [revL]) fun j h1 h2 => ?_
  simp only [revL, List.getElem_map, List.getElem_range, revAt]
  rw [if_neg (by omega), List.getD_eq_getElem?_getD, List.getElem?_eq_getElem h2]; rfl
theorem revL_end {α : Type} (d : α) (l : List α) {i : Nat} (hi : l.length ≤ 2 * i + 1) : revL d l i = l.reverse := by
  refine List.ext_getElem (by simp [revL]) fun j h1 h2 => ?_
  have hj : j < l.length := by simpa using h2
  simp only [revL, List.getElem_map, List.getElem_range]
  rw [revAt_end d l hi hj, List.getD_eq_getElem?_getD, List.getElem?_eq_getElem h2]; rfl
theorem revL_step {α : Type} (d : α) (l : List α) {i k : Nat} (hk : i + k + 1 = l.length) (hik : i < k) : ((revL d l i).set i (revAt d l i k)).set k (revAt d l i i) = revL d l (i + 1) := by
  refine List.ext_getElem (by simp [revL]) fun j h1 h2 => ?_
  have hj : j < l.length := by simpa [revL] using h2
  simp only [revL, List.getElem_set, List.getElem_map, List.getElem_range]
  rw [revAt_step d l hk hik hj]
  by_cases h3 : k = j
  · rw [if_pos h3, if_pos h3.symm]
  · rw [if_neg h3, if_neg (Ne.symm h3)]
    by_cases h4 : i = j
    · rw [if_pos h4, if_pos h4.symm]
    · rw [if_neg h4, if_neg (Ne.symm h4)]
def RevVLoop (Q : Nat → Prop) (base : Nat) (w : World) (g cap : Nat) (l : List Val) (v2 v3 : Value) (wr : World) : Prop :=
  ∃ i : Nat, v2 = .int .i64 i ∧ v3 = .int .i64 ((l.length : Int) - 1 - i) ∧ 2 * i ≤ l.length + 1 ∧ Chg w wr (· = g) ∧ RowV Q base wr (.slice (some ⟨g, 0, none⟩) l.length cap) (revL Val.none l i)
set_option maxHeartbeats 8000000 in
set_option maxRecDepth 100000 in
theorem revV_calls (Q : Nat → Prop) (base g cap : Nat) (l : List Val) (w : World) (hm : l.length ≤ 1000) (hr : RowV Q base w (.slice (some ⟨g, 0, none⟩) l.length cap) l) :
    Calls Tryz.prog 185 #[.slice (some ⟨g, 0, none⟩) l.length cap] w (fun e w' => e = .returned (.tuple #[]) ∧ Chg w w' (· = g) ∧ RowV Q base w' (.slice (some ⟨g, 0, none⟩) l.length cap) l.reverse) := by
  go_enter Tryz.func185, Tryz.ntmps185
  go_wp2_with fail
  go_loopw [2, 3] (fun v2 v3 wr => RevVLoop Q base w g cap l v2 v3 wr) (fun v2 _ _ => l.length - (intOf v2).toNat)
  case atStart => exact ⟨0, rfl, by simp, by omega, Chg.refl _ _, by rw [revL_zero]; exact hr⟩
  case round =>
    obtain ⟨i, rfl, rfl, hi, hch, hrow⟩ := hrel
    have HC := Ad.mk hch
    have HR := Ad.mk hrow
    clear hch hr hrow
    by_cases hlt : 2 * i + 1 < l.length
    · obtain ⟨k, hk⟩ : ∃ k : Nat, i + k + 1 = l.length := ⟨l.length - 1 - i, by omega⟩
      have hk' : (l.length : Int) - 1 - i = (k : Int) := by omega
      rw [hk']
      have hrow := HR.out
      rw [← revL_len Val.none l i] at hrow
      obtain ⟨hg1, hg2, hfz, hat⟩ := hrow.there
      obtain ⟨Ai, di, a0, a1, a2, a3, hai⟩ := hat i (by rw [revL_len]; omega)
      obtain ⟨Ak, dk, b0, b1, b2, b3, hak⟩ := hat k (by rw [revL_len]; omega)
      rw [revL_at Val.none l i (by omega)] at a0 a1 a2 a3 hai b0 b1 b2 b3 hak
      obtain ⟨x, hx⟩ : ∃ x, revAt Val.none l i i = x := ⟨_, rfl⟩
      obtain ⟨y, hy⟩ : ∃ y, revAt Val.none l i k = y := ⟨_, rfl⟩
      rw [hx] at a0 a1 a2 a3 hai
      rw [hy] at b0 b1 b2 b3 hak
      have HAI := Ad.mk hai
      have HAK := Ad.mk hak
      have HX := Ad.mk hx
      have HY := Ad.mk hy
      have q1 : (i : Int) < (k : Int) := by omega
      have q2 : (0 : Int) ≤ (i : Int) := by omega
      have q3 : (0 : Int) ≤ (k : Int) := by omega
      have q4 : (i : Int) < (l.length : Int) := by omega
      have q5 : (k : Int) < (l.length : Int) := by omega
      have q6 : ¬ i = k := by omega
      have q7 : ¬ k = i := by omega
      clear hrow hat hai hak hx hy
      go_wp2_with fail
      go_region
      go_wp2_with fail
      go_roundw
      case rel =>
        refine ⟨i + 1, by go_num, by go_num, by omega, ?_, ?_⟩
        · exact ((((((((HC.out.set rfl _ _).set rfl _ _).set rfl _ _).set rfl _ _).set rfl _ _).set rfl _ _).set rfl _ _).set rfl _ _).drew
        · have hr1 := HR.out
          rw [← revL_len Val.none l i] at hr1
          have hr2 := hr1.put (m := i) (by rw [revL_len]; omega) HAK.out
          rw [show (revL Val.none l i).length = ((revL Val.none l i).set i y).length from by simp] at hr2
          have hr3 := hr2.put (m := k) (x := x) (A := Ai) (c := di) (by simp [revL_len]; omega) (HAI.out.chg ((((Chg.refl wr (fun q => q = g)).set rfl (i * 4) (.int .i64 y.k)).set rfl (i * 4 + 1) (.int .i64 y.n)).set rfl (i * 4 + 2) (.string y.s) |>.set rfl (i * 4 + 3) (.slice Ak y.items.length dk)) (fun b _ h he => h.2 he) (fun _ _ h => h))
          rw [List.length_set, revL_len, ← HX.out, ← HY.out, revL_step Val.none l hk (by omega), HX.out, HY.out] at hr3
          exact hr3.below (Below.refl _ _).drew
      case measure => simp [intOf]; omega
    · go_wp2_with fail
      go_end0
      exact ⟨rfl, HC.out, by rw [← revL_end Val.none l (i := i) (by omega)]; exact HR.out⟩
set_option maxHeartbeats 8000000 in
set_option maxRecDepth 100000 in
theorem revV_none (w : World) : Calls Tryz.prog 185 #[.slice none 0 0] w (fun e w' => e = .returned (.tuple #[]) ∧ w' = w) := by
  go_enter Tryz.func185, Tryz.ntmps185
  go_wp2_with fail
  go_loopw [2, 3] (fun v2 v3 wr => v2 = .int .i64 0 ∧ v3 = .int .i64 (-1) ∧ wr = w) (fun v2 _ _ => 0)
  case atStart => exact ⟨rfl, rfl, rfl⟩
  case round =>
    obtain ⟨rfl, rfl, rfl⟩ := hrel
    go_wp2_with fail
    go_end0
    exact ⟨rfl, rfl⟩
theorem revV_any (Q : Nat → Prop) (base : Nat) (v : Value) (l : List Val) (w : World) (hm : l.length ≤ 1000) (hr : RowV Q base w v l) :
    Calls Tryz.prog 185 #[v] w (fun e w' => e = .returned (.tuple #[]) ∧ Chg w w' (fun b => base ≤ b) ∧ RowV Q base w' v l.reverse) := by
  obtain ⟨ps, hps, hown, hel⟩ := hr.out
  rcases hown.2 with ⟨rfl, h0⟩ | ⟨g, cap, cur, rfl, hg, _⟩
  · have : l = [] := List.length_eq_zero_iff.1 h0
    subst this
    refine (revV_none w).mono ?_
    rintro e w' ⟨rfl, rfl⟩
    exact ⟨rfl, Chg.refl _ _, hr⟩
  · refine (revV_calls Q base g cap l w hm hr).mono ?_
    rintro e w' ⟨rfl, h1, h2⟩
    exact ⟨rfl, h1.then_ (Chg.refl _ _) (fun _ _ h => h) |>.then_ (Chg.refl w' (fun _ => False)) (fun _ _ h => h.elim) |> fun h => (Chg.mk h.os h.tape h.output h.size (fun i hi hn => h.block i hi (fun he => hn (he ▸ hg)))), h2⟩
end Go.Proofs.YtahnelihohmjfaaGreatDoor.V
