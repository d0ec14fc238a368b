import Derived.Test.YtammigfckdgljaaPWitnessSplitn1
namespace Go.Proofs.Ytammigfckdgljaa.PWitnessSplit
open Go.RowKit Go.Maps Go.Proofs.YtammigfckdgljaaW.PrintWords Go.Proofs.YtammigfckdgljaaW.PrintLast Go.Proofs.YtammigfckdgljaaW.PrintMore
set_option linter.unusedVariables false
set_option linter.unusedSimpArgs false

theorem backP_len (tasks : Int) (ls : List S72) (L : Nat) : ∀ (f n : Nat) (out : List S48), n < ls.length → out.length + off ls n ≤ L → (backP tasks ls f n out).1.length ≤ L
  | 0, n, out, _, h => by
    show out.length ≤ L
    omega
  | f + 1, n, out, hn, h => by
    by_cases hb : (ls.getD n z72).f0 > 0
    · rcases seekN_spec (ls.getD n z72).f0 ls n (by omega) with ⟨j, hj, hs, e, he⟩ | hs
      · by_cases hp : (partsP (ls.getD n z72).f0 tasks (segOf ls (ls.getD n z72).f0 j)).2.2 = 0
        · rw [backP_go hb hs hp]
          exact backP_len tasks ls L f j _ (by omega) (back_bound hj hn _ tasks out L h)
        · rw [backP_bad hb hs hp]; simp
      · rw [backP_none hb hs]; simp
    · rw [backP_end hb]
      show out.length ≤ L
      omega
theorem lineP_len (l : List S46) (tasks : Int) : (lineP l tasks).1.length ≤ l.length := by
  unfold lineP
  by_cases hc : can l tasks = true
  · rw [if_pos hc]
    have hL := laid_l l
    obtain ⟨hp, _⟩ := cut_head l
    obtain ⟨m, hm⟩ : ∃ m, (cutL l 0 []).length = m + 1 := ⟨(cutL l 0 []).length - 1, by omega⟩
    have hlb := last_bound hL hm
    rw [hm, show m + 1 - 1 = m from rfl]
    exact backP_len tasks _ l.length _ m _ (by omega) hlb
  · rw [if_neg hc]; simp
set_option maxHeartbeats 4000000 in
set_option maxRecDepth 100000 in
theorem lawLine_calls (A0 : Option Addr) (c0 : Nat) (l : List S46) (tasks : Int) (w : World) (hr : Kd.C k46 w A0 l.length l) (hc : l.length ≤ c0) (hl : l.length ≤ 4398046510976) :
    Calls Try.prog 10 #[.slice A0 l.length c0, .int .i64 tasks] w fun e w' => e = .returned (.bool true) ∧ Below w.heap.size w w' := by
  have HR := Aside0.mk hr
  have HC := Aside0.mk hc
  have HL := Aside0.mk hl
  have hls := lineP_len l tasks
  have href := refLine_f l tasks hl (l.length * (l.length + 3) + (6 * l.length + 50)) (Nat.le_refl _)
  obtain ⟨⟨s1, er⟩, hs⟩ : ∃ r, lineP l tasks = r := ⟨_, rfl⟩
  rw [hs] at hls href
  have hl1 : s1.length ≤ l.length := hls
  have HREF := Aside0.mk href
  have HSP := Aside0.mk hs
  have HE1 := Aside0.mk (same_f s1 (by omega))
  clear hr hc href hs hls
  go_enter Try.func10, Try.ntmps10
  go_wp2_with (at_builtin; (refine Kd.R_append_rows k46 (Rr := k46.K w) w.heap.size (by rfl) (.const (.slice none 0 0)) (.tmp 10) 23 46 (.agg #[.int .i64 0, .int .i64 0, .int .i64 0, .int .i64 0]) 32 (by rfl) Try.underlying23 info46 rfl (by decide) (by decide) (.slice none 0 0) [] l A0 l.length c0 (fun _ => True) (fun _ => False) (by rfl) (by rfl) (Kd.R_nil _ _ _ _ _) HR.out (fun x cs h => (k46_open h) ▸ k46_mkM _ _ _ x) (fun _ h => h.elim) (fun _ _ => trivial) (Below.refl _ _) (Nat.le_refl _) ?al ?_); (case al => simp; omega); intro v1 w1 hR1 hb1 _ _)
  obtain ⟨A1, c1, hv1, hc1, hC1⟩ := Kd.R_reads hR1
  simp only [List.nil_append] at hv1 hc1 hC1
  subst hv1
  refine (line_calls A1 c1 l tasks w1 hC1 hc1 HL.out).mono ?_
  rw [HSP.out]
  rintro e2 w2 ⟨v2, rfl, hR2, hb2⟩
  obtain ⟨A2, c2, hv2, hc2, hC2⟩ := Kd.R_reads hR2
  simp only at hv2 hc2 hC2
  subst hv2
  go_wp2_with fail
  have hB2 := below_then hb1 hb1.size hb2
  refine (eddyref18_Line.calls _ A0 c0 l tasks s1 er _ (Kd.C_below HR.out hB2) HC.out HREF.out).mono ?_
  rintro e3 w3 ⟨v4, rfl, hR4, hb3⟩
  obtain ⟨A4, c4, hv4, hc4, hC4⟩ := Kd.R_reads hR4
  subst hv4
  have hee : (er == er) = true := by simp
  go_wp2_with fail
  refine (eddylaw18_sameEvents.calls _ A2 c2 s1 A4 c4 s1 true _ (Kd.C_below hC2 hb3) hc2 hC4 hc4 HE1.out).mono ?_
  rintro e4 w4 ⟨rfl, hd4⟩
  go_wp2_with fail
  go_ret
  exact ⟨rfl, below_then (below_then hB2 hB2.size hb3) (Nat.le_trans hB2.size hb3.size) hd4.below⟩
end Go.Proofs.Ytammigfckdgljaa.PWitnessSplit
