import Derived.Test.YtammigfckdgljaaPWitnessSplith4
namespace Go.Proofs.Ytammigfckdgljaa.PWitnessSplit
open Go.RowKit Go.Maps Go.Proofs.YtammigfckdgljaaW.PrintWords Go.Proofs.YtammigfckdgljaaW.PrintLast Go.Proofs.YtammigfckdgljaaW.PrintMore
set_option linter.unusedVariables false
set_option linter.unusedSimpArgs false

theorem heap46 : Kd.Heap k46 := Kd.heap_iso _ (Kd.heap_pair (Kd.heap_int _) (Kd.heap_pair (Kd.heap_int _) (Kd.heap_pair (Kd.heap_int _) (Kd.heap_int _))))
theorem V46 {w : World} {A : Option Addr} {c : Nat} {l : List S46} (hr : Kd.C k46 w A l.length l) (hc : l.length ≤ c) : Kd.V k46 46 w w.heap.size (fun _ => True) (.slice A l.length c) l :=
  Kd.V_mk hc (fun W' hW => Kd.Heap.C heap46 (fun k hk => hW k trivial hk) hr)
def FoundPost (w : World) (r : List S48 × List Bool × Int) (e : Ending) (w' : World) : Prop :=
  ∃ v1 v2 : Value, e = .returned (.tuple #[v1, v2, .int .i64 r.2.2]) ∧ Kd.R k48 48 w' w.heap.size (fun _ => True) v1 r.1 ∧ Kd.R Kd.bool 4 w' w.heap.size (fun _ => True) v2 r.2.1 ∧ Below w.heap.size w w'
set_option maxHeartbeats 4000000 in
set_option maxRecDepth 100000 in
theorem found_calls (A0 : Option Addr) (c0 : Nat) (l : List S46) (id tasks : Int) (w : World) (hr : Kd.C k46 w A0 l.length l) (hc : l.length ≤ c0) (hl : l.length ≤ 4398046510976) :
    Calls Try.prog 30 #[.slice A0 l.length c0, .int .i64 id, .int .i64 tasks] w (FoundPost w (foundP l id tasks)) := by
  have HR := Aside0.mk hr
  have HC := Aside0.mk hc
  have HL := Aside0.mk hl
  have hchk := check_f l tasks (by omega) (l.length + 40) (by omega)
  by_cases hcan : can l tasks = true
  · rw [if_pos hcan] at hchk
    obtain ⟨ht1, ht2, hok⟩ := can_all hcan
    have HK := Aside0.mk hchk
    have hlv := lives_f l hl (l.length + 1) (by omega)
    obtain ⟨ls, hls⟩ : ∃ ls, cutL l 0 [] = ls := ⟨_, rfl⟩
    rw [hls] at hlv
    obtain ⟨ho1, ho2, ho3⟩ := cutL_ok tasks l.length l 0 [] hok (by simp) (by simp)
    rw [hls] at ho1 ho2 ho3
    have hsk := seek_l0 id ls tasks l.length ho1 ho2 (by omega) (by omega) ls.length (ls.length + l.length + 3) (Nat.le_refl _) (by omega)
    have hsk2 : witness_seek.f (ls.length + l.length + 3) ls (ls.length : Int) id = some (seekN id ls ls.length) := by
      unfold witness_seek.f
      rw [wrap_in (by omega) (by omega)]
      exact hsk
    have HV := Aside0.mk hlv
    have HS := Aside0.mk hsk2
    have hsp := seekN_spec id ls ls.length (Nat.le_refl _)
    have HO := Aside0.mk ho1
    have HN := Aside0.mk ho2
    have HCAN := Aside0.mk hcan
    have HLS := Aside0.mk hls
    have HO3 := Aside0.mk ho3
    have HOKL := Aside0.mk hok
    clear hr hc hchk hlv hsk hsk2 hls ho1 ho2 ho3 hcan hok hl
    rcases hsp with ⟨j, hj, hs, e, he⟩ | hs
    · have hz : ls.getD j z72 = ls[j] := by simp [List.getD_eq_getElem?_getD, List.getElem?_eq_getElem hj]
      rw [hz] at he
      have HF := Aside0.mk (foundP_yes HCAN.out HLS.out hj hs he)
      rw [hs] at HS
      have HE := Aside0.mk he
      have HZ := Aside0.mk hz
      clear hs he hz
      have hj0 : (0 : Int) ≤ (j : Int) := by omega
      have hjm : ls[j] ∈ ls := List.getElem_mem hj
      have hrd : Aside0 (rd_T72 ls (j : Int) = ls[j]) := ⟨by simp [rd_T72, List.getD_eq_getElem?_getD, List.getElem?_eq_getElem hj]⟩
      have hxl : ls[j].f1.length * 32 ≤ 140737488351232 := by have := HN.out _ hjm; have := HL.out; omega
      have hel := fst_lt id _ e HE.out
      have hend : witness_life_end.f (l.length + 1) ls[j].f0 ls[j].f1 id = some (e : Int) := by
        have := end_f id ls[j].f0 ls[j].f1 tasks (HO.out _ hjm) (by omega) (l.length + 1) (by have := HN.out _ hjm; omega)
        rw [HE.out] at this
        exact this
      have hokj : ∀ q : Nat, q < e → 0 ≤ (rd_T46 ls[j].f1 q).f1 ∧ (rd_T46 ls[j].f1 q).f1 ≤ 12 := by
        intro q hq
        rw [rd46 _ q (by omega)]
        have := HO.out _ hjm _ (List.getElem_mem (show q < ls[j].f1.length by omega))
        unfold okP at this
        omega
      have HEND := Aside0.mk hend
      have HOKJ := Aside0.mk hokj
      have HXL := Aside0.mk hxl
      have HEL := Aside0.mk hel
      have HHM := Aside0.mk ht1
      clear hend hokj hjm hxl hel
      have hmm := @run_makeMap Try.prog
      obtain ⟨X, hX⟩ : ∃ X, ls[j] = X := ⟨_, rfl⟩
      rw [hX] at HF hrd HEND HOKJ HXL HEL
      clear hX
      go_enter Try.func30, Try.ntmps30
      go_wp2_with (first
        | (go_at_call 36; refine (witness_check.calls _ _ _ l tasks 0 _ HR.out HC.out HK.out).mono ?_; rintro e1 w1 ⟨rfl, hb1⟩)
        | (go_at_call 37; refine (witness_lives.calls _ (fun _ => True) _ _ l ls _ (V46 (Kd.C_below HR.out hb1) HC.out) HV.out).mono ?_; rintro e2 w2 ⟨v2, rfl, hN2, hb2⟩; obtain ⟨A2, c2, hv2, hl2, hC2⟩ := Kd.N_reads hN2; subst hv2)
        | (go_at_call 38; refine (witness_seek.calls _ _ _ ls ls.length id (j : Int) _ hC2 hl2 HS.out).mono ?_; rintro e3 w3 ⟨rfl, hb3⟩; obtain ⟨ad, A1, c1, ea, g0, g1, hl1, hC1⟩ := at_T72 (Kd.C_below hC2 hb3) (j : Int) (by omega) (by omega); rw [hrd.out] at g0 g1 hl1 hC1; rw [Int.toNat_natCast] at g0 g1; replace g0 := pw_cell_below (below_alloc (Below.refl w3.heap.size w3) (.map #[] 0)) g0; replace g1 := pw_cell_below (below_alloc (Below.refl w3.heap.size w3) (.map #[] 0)) g1; subst ea)
        | (go_at_call 39; refine (parts_calls (l.length + 1) w3.heap.size X.f0 A1 c1 X.f1 id tasks e _ (Kd.C_below hC1 (below_alloc (Below.refl _ _) _)) hl1 HXL.out HEND.out (Nat.le_of_lt HEL.out) HOKJ.out ⟨#[], 0, Go.heap_alloc_new _ _⟩ (by omega) ht2).mono ?_; rintro e4 w4 ⟨v4, v5, rfl, hR4, hR5, hg4, _⟩))
      go_ret3
      have hB3 : Below w.heap.size w (w3.alloc (.map #[] 0)) := below_then (below_then hb1 hb1.size hb2) (Nat.le_trans hb1.size hb2.size) (below_alloc hb3 _)
      unfold FoundPost
      rw [HF.out]
      exact ⟨_, _, rfl, Kd.R_lower hR4 hB3.size, Kd.R_lower hR5 hB3.size, pw_below_grown hB3 (some w3.heap.size) hB3.size hg4 (fun k hk => by injection hk with hk; have := hb1.size; have := hb2.size; have := hb3.size; omega)⟩
    · have HF := Aside0.mk (foundP_none (tasks := tasks) HCAN.out (by rw [HLS.out]; exact hs))
      rw [hs] at HS
      clear hs
      go_enter Try.func30, Try.ntmps30
      go_wp2_with (first
        | (go_at_call 36; refine (witness_check.calls _ _ _ l tasks 0 _ HR.out HC.out HK.out).mono ?_; rintro e1 w1 ⟨rfl, hb1⟩)
        | (go_at_call 37; refine (witness_lives.calls _ (fun _ => True) _ _ l ls _ (V46 (Kd.C_below HR.out hb1) HC.out) HV.out).mono ?_; rintro e2 w2 ⟨v2, rfl, hN2, hb2⟩; obtain ⟨A2, c2, hv2, hl2, hC2⟩ := Kd.N_reads hN2; subst hv2)
        | (go_at_call 38; refine (witness_seek.calls _ _ _ ls ls.length id (-1) _ hC2 hl2 HS.out).mono ?_; rintro e3 w3 ⟨rfl, hb3⟩))
      go_ret3
      unfold FoundPost
      rw [HF.out]
      exact ⟨_, _, rfl, Kd.R_nil _ _ _ _ _, Kd.R_nil _ _ _ _ _, below_then (below_then hb1 hb1.size hb2) (Nat.le_trans hb1.size hb2.size) hb3⟩
  · rw [if_neg hcan] at hchk
    have HF := Aside0.mk (foundP_bad (id := id) hcan)
    go_enter Try.func30, Try.ntmps30
    go_wp2_with (go_at_call 36; refine (witness_check.calls _ _ _ l tasks 181 _ HR.out HC.out hchk).mono ?_; rintro e1 w1 ⟨rfl, hb1⟩)
    go_ret3
    unfold FoundPost
    rw [HF.out]
    exact ⟨_, _, rfl, Kd.R_nil _ _ _ _ _, Kd.R_nil _ _ _ _ _, hb1⟩
end Go.Proofs.Ytammigfckdgljaa.PWitnessSplit
