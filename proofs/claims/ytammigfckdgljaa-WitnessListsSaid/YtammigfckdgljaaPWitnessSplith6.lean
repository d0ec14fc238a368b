import Derived.Test.YtammigfckdgljaaPWitnessSplith5
namespace Go.Proofs.Ytammigfckdgljaa.PWitnessSplit
open Go.RowKit Go.Maps Go.Proofs.YtammigfckdgljaaW.PrintWords Go.Proofs.YtammigfckdgljaaW.PrintLast Go.Proofs.YtammigfckdgljaaW.PrintMore
set_option linter.unusedVariables false
set_option linter.unusedSimpArgs false

theorem foundP_len (l : List S46) (id tasks : Int) : (foundP l id tasks).1.length ≤ l.length ∧ (foundP l id tasks).2.1.length = (foundP l id tasks).1.length := by
  by_cases hc : can l tasks = true
  · rcases seekN_spec id (cutL l 0 []) _ (Nat.le_refl _) with ⟨j, hj, hs, e, he⟩ | hs
    · have hz : (cutL l 0 []).getD j z72 = (cutL l 0 [])[j] := by simp [List.getD_eq_getElem?_getD, List.getElem?_eq_getElem hj]
      rw [hz] at he
      rw [foundP_yes hc rfl hj hs he]
      obtain ⟨_, h2, _⟩ := cutL_ok tasks l.length l 0 [] (can_all hc).2.2 (by simp) (by simp)
      have := h2 _ (List.getElem_mem hj)
      unfold partsP
      split
      · have h3 := (sc_le id ((cutL l 0 [])[j].f1.take e) 0).2.2.1
        have h4 : ((cutL l 0 [])[j].f1.take e).length ≤ (cutL l 0 [])[j].f1.length := by rw [List.length_take]; omega
        refine ⟨by simp only; omega, ?_⟩
        simp only
        rw [(sc_eq id _).1, (sc_eq id _).2.1]
        simp
      · exact ⟨by simp, rfl⟩
    · rw [foundP_none hc hs]; exact ⟨by simp, rfl⟩
  · rw [foundP_bad hc]; exact ⟨by simp, rfl⟩
def SplitPost (w : World) (r : List S48 × List S48 × Int) (e : Ending) (w' : World) : Prop :=
  ∃ v1 v2 : Value, e = .returned (.tuple #[v1, v2, .int .i64 r.2.2]) ∧ Kd.R k48 48 w' w.heap.size (fun k => some k ≠ v2.ownBlock) v1 r.1 ∧ Kd.R k48 48 w' w.heap.size (fun k => some k ≠ v1.ownBlock) v2 r.2.1 ∧ Below w.heap.size w w'
set_option maxHeartbeats 4000000 in
set_option maxRecDepth 100000 in
theorem split_calls (A0 : Option Addr) (c0 : Nat) (l : List S46) (id tasks : Int) (w : World) (hr : Kd.C k46 w A0 l.length l) (hc : l.length ≤ c0) (hl : l.length ≤ 4398046510976) :
    Calls Try.prog 13 #[.slice A0 l.length c0, .int .i64 id, .int .i64 tasks] w (SplitPost w (splitP l id tasks)) := by
  have hlen := foundP_len l id tasks
  have HF := Aside0.mk (found_calls A0 c0 l id tasks w hr hc hl)
  obtain ⟨⟨ev, bf, er⟩, hf⟩ : ∃ r, foundP l id tasks = r := ⟨_, rfl⟩
  have hsp : splitP l id tasks = if er = 0 then (thoseN true ev bf, thoseN false ev bf, 0) else ([], [], er) := by unfold splitP; rw [hf]
  rw [hf] at HF hlen
  have hle : ev.length ≤ l.length := hlen.1
  have hbl : bf.length = ev.length := hlen.2
  clear hf hlen
  have HB := Aside0.mk hbl
  have h1 := Aside0.mk (those_f ev bf true (by omega) hbl (ev.length + 1) (by omega))
  have h2 := Aside0.mk (those_f ev bf false (by omega) hbl (ev.length + 1) (by omega))
  clear hbl hr hc
  by_cases he : er = 0
  · rw [if_pos he] at hsp
    subst he
    have HS := Aside0.mk hsp
    clear hsp
    go_enter Try.func13, Try.ntmps13
    go_wp2_with (go_at_call 30; refine HF.out.mono ?_; rintro e1 w1 ⟨v1, v2, rfl, hR1, hR2, hb1⟩; obtain ⟨A1, c1, hv1, hl1, hC1⟩ := Kd.R_reads hR1; obtain ⟨A2, c2, hv2, hl2, hC2⟩ := Kd.R_reads hR2; simp only at hv1 hv2 hl1 hl2 hC1 hC2; subst hv1; subst hv2)
    refine (witness_those.calls _ _ _ ev _ _ bf true _ _ hC1 hl1 hC2 hl2 h1.out).mono ?_
    rintro e2 w2 ⟨v3, rfl, hR3, hb2⟩
    go_wp2_with fail
    refine (witness_those.calls _ _ _ ev _ _ bf false _ _ (Kd.C_below hC1 hb2) hl1 (Kd.C_below hC2 hb2) hl2 h2.out).mono ?_
    rintro e3 w3 ⟨v4, rfl, hR4, hb3⟩
    go_wp2_with fail
    go_ret3
    unfold SplitPost
    rw [HS.out]
    obtain ⟨i3, ho3⟩ := Kd.R_own hR3
    obtain ⟨i4, ho4⟩ := Kd.R_own hR4
    refine ⟨v3, v4, rfl, Kd.R_mono (Kd.R_lower (Kd.R_below (Kd.R_bound hR3) hb3) hb1.size) ?_, Kd.R_mono (Kd.R_lower (Kd.R_bound hR4) (Nat.le_trans hb1.size hb2.size)) ?_, below_then (below_then hb1 hb1.size hb2) (Nat.le_trans hb1.size hb2.size) hb3⟩
    · rintro k ⟨_, _, hk, _⟩ he
      have := own_base ho4 k he.symm
      omega
    · rintro k ⟨_, hk, _⟩ he
      have := own_lt ho3 k he.symm
      omega
  · rw [if_neg he] at hsp
    have HS := Aside0.mk hsp
    clear hsp
    have hne : (er != 0) = true := by simp [he]
    clear he
    go_enter Try.func13, Try.ntmps13
    go_wp2_with (go_at_call 30; refine HF.out.mono ?_; rintro e1 w1 ⟨v1, v2, rfl, hR1, hR2, hb1⟩)
    go_ret3
    unfold SplitPost
    rw [HS.out]
    exact ⟨_, _, rfl, Kd.R_nil _ _ _ _ _, Kd.R_nil _ _ _ _ _, hb1⟩
/-- sameEvents of one list with itself -/
theorem same_l0 (es : List S48) (hl : es.length ≤ 4398046510976) (d : Nat) : ∀ (k i : Nat), i + d = es.length → d < k → eddylaw18_sameEvents.l0 k es es (i : Int) = some true := by
  induction d with
  | zero =>
    intro k i hi hk
    obtain ⟨k, rfl⟩ : ∃ m, k = m + 1 := ⟨k - 1, by omega⟩
    rw [eddylaw18_sameEvents.l0, if_neg (by omega)]
  | succ d ih =>
    intro k i hi hk
    obtain ⟨k, rfl⟩ : ∃ m, k = m + 1 := ⟨k - 1, by omega⟩
    rw [eddylaw18_sameEvents.l0, if_pos (by omega), if_pos (by omega), if_pos (by omega), if_neg (by simp), wrap_in (by omega) (by omega), show ((i : Int) + 1) = ((i + 1 : Nat) : Int) by omega]
    exact ih k (i + 1) (by omega) (by omega)
theorem same_f (es : List S48) (hl : es.length ≤ 4398046510976) : eddylaw18_sameEvents.f (es.length + 1) es es = some true := by
  unfold eddylaw18_sameEvents.f
  rw [if_pos rfl]
  exact same_l0 es hl es.length _ 0 (by omega) (by omega)
theorem thoseN_len (want : Bool) : ∀ (es : List S48) (bs : List Bool), (thoseN want es bs).length ≤ es.length
  | [], _ => by simp [thoseN]
  | _ :: _, [] => by simp [thoseN]
  | e :: es, b :: bs => by
    have := thoseN_len want es bs
    unfold thoseN
    split <;> simp <;> omega
theorem splitP_len (l : List S46) (id tasks : Int) : (splitP l id tasks).1.length ≤ l.length ∧ (splitP l id tasks).2.1.length ≤ l.length := by
  have h := (foundP_len l id tasks).1
  have h1 := thoseN_len true (foundP l id tasks).1 (foundP l id tasks).2.1
  have h2 := thoseN_len false (foundP l id tasks).1 (foundP l id tasks).2.1
  unfold splitP
  split
  · exact ⟨by simp only; omega, by simp only; omega⟩
  · simp
set_option maxHeartbeats 4000000 in
set_option maxRecDepth 100000 in
theorem law_calls (A0 : Option Addr) (c0 : Nat) (l : List S46) (id tasks : Int) (w : World) (hr : Kd.C k46 w A0 l.length l) (hc : l.length ≤ c0) (hl : l.length ≤ 4398046510976) :
    Calls Try.prog 8 #[.slice A0 l.length c0, .int .i64 id, .int .i64 tasks] w fun e w' => e = .returned (.bool true) ∧ Below w.heap.size w w' := by
  have HR := Aside0.mk hr
  have HC := Aside0.mk hc
  have HL := Aside0.mk hl
  have hls := splitP_len l id tasks
  have href := refSplit_f l id tasks hl (4 * l.length + 40) (Nat.le_refl _)
  obtain ⟨⟨s1, s2, er⟩, hs⟩ : ∃ r, splitP l id tasks = r := ⟨_, rfl⟩
  rw [hs] at hls href
  have hl1 : s1.length ≤ l.length := hls.1
  have hl2 : s2.length ≤ l.length := hls.2
  have HREF := Aside0.mk href
  have HSP := Aside0.mk hs
  have HE1 := Aside0.mk (same_f s1 (by omega))
  have HE2 := Aside0.mk (same_f s2 (by omega))
  clear hr hc href hs hls
  go_enter Try.func8, Try.ntmps8
  go_wp2_with (at_builtin; (refine Kd.R_append_rows k46 (Rr := k46.K w) w.heap.size (by rfl) (.const (.slice none 0 0)) (.tmp 14) 23 46 (.agg #[.int .i64 0, .int .i64 0, .int .i64 0, .int .i64 0]) 32 (by rfl) Try.underlying23 info46 rfl (by decide) (by decide) (.slice none 0 0) [] l A0 l.length c0 (fun _ => True) (fun _ => False) (by rfl) (by rfl) (Kd.R_nil _ _ _ _ _) HR.out (fun x cs h => (k46_open h) ▸ k46_mkM _ _ _ x) (fun _ h => h.elim) (fun _ _ => trivial) (Below.refl _ _) (Nat.le_refl _) ?al ?_); (case al => simp; omega); intro v1 w1 hR1 hb1 _ _)
  obtain ⟨A1, c1, hv1, hc1, hC1⟩ := Kd.R_reads hR1
  simp only [List.nil_append] at hv1 hc1 hC1
  subst hv1
  refine (split_calls A1 c1 l id tasks w1 hC1 hc1 HL.out).mono ?_
  rw [HSP.out]
  rintro e2 w2 ⟨v2, v3, rfl, hR2, hR3, hb2⟩
  obtain ⟨A2, c2, hv2, hc2, hC2⟩ := Kd.R_reads hR2
  obtain ⟨A3, c3, hv3, hc3, hC3⟩ := Kd.R_reads hR3
  simp only at hv2 hc2 hC2 hv3 hc3 hC3
  subst hv2
  subst hv3
  go_wp2_with fail
  have hB2 := below_then hb1 hb1.size hb2
  refine (eddyref18_Split.calls _ A0 c0 l id tasks s1 s2 er _ (Kd.C_below HR.out hB2) HC.out HREF.out).mono ?_
  rintro e3 w3 ⟨v4, v5, rfl, hR4, hR5, hb3⟩
  obtain ⟨A4, c4, hv4, hc4, hC4⟩ := Kd.R_reads hR4
  obtain ⟨A5, c5, hv5, hc5, hC5⟩ := Kd.R_reads hR5
  subst hv4
  subst hv5
  have hee : (er == er) = true := by simp
  go_wp2_with fail
  refine (eddylaw18_sameEvents.calls _ A2 c2 s1 A4 c4 s1 true _ (Kd.C_below hC2 hb3) hc2 hC4 hc4 HE1.out).mono ?_
  rintro e4 w4 ⟨rfl, hd4⟩
  go_wp2_with fail
  refine (eddylaw18_sameEvents.calls _ A3 c3 s2 A5 c5 s2 true _ (Kd.C_below (Kd.C_below hC3 hb3) hd4.below) hc3 (Kd.C_below hC5 hd4.below) hc5 HE2.out).mono ?_
  rintro e5 w5 ⟨rfl, hd5⟩
  go_wp2_with fail
  go_ret
  exact ⟨rfl, below_then (below_then (below_then hB2 hB2.size hb3) (Nat.le_trans hB2.size hb3.size) hd4.below) (Nat.le_trans (Nat.le_trans hB2.size hb3.size) hd4.below.size) hd5.below⟩
end Go.Proofs.Ytammigfckdgljaa.PWitnessSplit
