import Derived.Test.YtammigfckdgljaaPWitnessSplitp1t
import Derived.Test.YtammigfckdgljaaPWitnessSplitgU2d
namespace Go.Proofs.Ytammigfckdgljaa.PWitnessSplit
open Go.RowKit Go.Maps Go.Proofs.YtammigfckdgljaaW.PrintWords Go.Proofs.YtammigfckdgljaaW.PrintLast Go.Proofs.YtammigfckdgljaaW.PrintMore
set_option linter.unusedVariables false
set_option linter.unusedSimpArgs false

/-! ### life -/
theorem zAt {ls : List S72} {j : Nat} (hj : j < ls.length) : ls.getD j z72 = ls[j] := by
  simp [List.getD_eq_getElem?_getD, List.getElem?_eq_getElem hj]
theorem place_some {id : Int} {ls : List S72} {n e : Nat} (hn : n < ls.length) (h : fst id ls[n].f1 = some e) : place id ls (n + 1) = (((off ls n : Nat) : Int), ((off ls n + e : Nat) : Int)) := by
  unfold place
  rw [seekN, zAt hn, h, if_pos (show (some e).isSome = true from rfl)]
  show (((off ls n : Nat) : Int), ((off ls n + (fst id (ls.getD n z72).f1).getD 0 : Nat) : Int)) = _
  rw [zAt hn, h]
  rfl
theorem place_none {id : Int} {ls : List S72} {n : Nat} (hn : n < ls.length) (h : fst id ls[n].f1 = none) : place id ls (n + 1) = place id ls n := by
  unfold place
  rw [seekN, zAt hn, h, if_neg (by simp)]
theorem lifeT_l0 (l : List S46) (ls : List S72) (id : Int) (hL : Laid l ls) (hl : l.length ≤ 4398046510976) (d : Nat) : ∀ (k i n q : Nat) (x7 x8 : Int) (op : Bool) (hn : n < ls.length), off ls n + q = i → q ≤ ls[n].f1.length → i + d = l.length → d < k →
    ((op = true ∧ fst id (ls[n].f1.take q) = none ∧ (x7, x8) = place id ls n) ∨ (op = false ∧ ∃ e, fst id (ls[n].f1.take q) = some e ∧ (x7, x8) = (((off ls n : Nat) : Int), ((off ls n + e : Nat) : Int)))) →
    eddylaw18_life.l0 k l id ((off ls n : Nat) : Int) x7 x8 op (i : Int) = some (place id ls ls.length) := by
  have hlen := hL.1
  have full : ∀ (n : Nat) (hn : n < ls.length) (x7 x8 : Int) (op : Bool), ((op = true ∧ fst id (ls[n].f1.take ls[n].f1.length) = none ∧ (x7, x8) = place id ls n) ∨ (op = false ∧ ∃ e, fst id (ls[n].f1.take ls[n].f1.length) = some e ∧ (x7, x8) = (((off ls n : Nat) : Int), ((off ls n + e : Nat) : Int)))) → (x7, x8) = place id ls (n + 1) := by
    intro n hn x7 x8 op h
    rw [List.take_length] at h
    rcases h with ⟨_, h1, h2⟩ | ⟨_, e, h1, h2⟩
    · rw [place_none hn h1]; exact h2
    · rw [place_some hn h1]; exact h2
  induction d with
  | zero =>
    intro k i n q x7 x8 op hn hq hq2 hi hk hst
    obtain ⟨k, rfl⟩ : ∃ m, k = m + 1 := ⟨k - 1, by omega⟩
    have h1 := off_succ ls n hn
    rw [eddylaw18_life.l0, if_neg (by omega)]
    by_cases hn1 : n + 1 < ls.length
    · have h2 := off_succ ls (n + 1) hn1
      have h3 := off_mono ls ls.length (n + 1 + 1) (by omega) (Nat.le_refl _)
      omega
    · have hn2 : n + 1 = ls.length := by omega
      rw [← hn2] at hlen
      obtain rfl : q = ls[n].f1.length := by omega
      rw [full n hn x7 x8 op hst, hn2]
  | succ d ih =>
    intro k i n q x7 x8 op hn hq hq2 hi hk hst
    obtain ⟨k, rfl⟩ : ∃ m, k = m + 1 := ⟨k - 1, by omega⟩
    have h1 := off_succ ls n hn
    have hlt : i < l.length := by omega
    rw [eddylaw18_life.l0, if_pos (by omega), if_pos (by omega), rd46 l i hlt, wrap_succ i (by omega)]
    by_cases hqn : q < ls[n].f1.length
    · obtain ⟨h2, h3⟩ := (hL.2 n hn).1 q hqn
      rw [hq, List.getElem?_eq_getElem hlt] at h2
      injection h2 with h2
      have h11 : ¬ l[i].f0 = 11 := by rw [h2]; simpa [up] using h3
      rw [if_neg h11]
      have htk : ls[n].f1.take (q + 1) = ls[n].f1.take q ++ [l[i]] := by rw [List.take_succ_eq_append_getElem hqn, h2]
      have hlq : (ls[n].f1.take q).length = q := by rw [List.length_take]; omega
      have hfa := fst_append id (ls[n].f1.take q) [l[i]]
      rw [← htk, hlq] at hfa
      have stay : ready id l[i] = false → eddylaw18_life.l0 k l id ((off ls n : Nat) : Int) x7 x8 op ((i + 1 : Nat) : Int) = some (place id ls ls.length) := by
        intro hr
        refine ih k (i + 1) n (q + 1) x7 x8 op hn (by omega) (by omega) (by omega) (by omega) ?_
        have hf : fst id [l[i]] = none := by simp [fst, hr]
        rw [hf] at hfa
        rcases hst with ⟨ho, h5, h6⟩ | ⟨ho, e, h5, h6⟩
        · rw [h5] at hfa; exact .inl ⟨ho, by simpa using hfa, h6⟩
        · rw [h5] at hfa; exact .inr ⟨ho, e, by simpa using hfa, h6⟩
      by_cases h6 : l[i].f0 = 6
      · rw [if_pos h6]
        by_cases h3d : l[i].f3 = id
        · rw [if_pos h3d]
          have hr : ready id l[i] = true := by simp [ready, h6, h3d]
          have hf : fst id [l[i]] = some 0 := by simp [fst, hr]
          rw [hf] at hfa
          rcases hst with ⟨ho, h5, h6'⟩ | ⟨ho, e, h5, h6'⟩
          · subst ho
            rw [if_pos rfl]
            rw [h5] at hfa
            refine ih k (i + 1) n (q + 1) _ _ false hn (by omega) (by omega) (by omega) (by omega) (.inr ⟨rfl, q, by simpa using hfa, ?_⟩)
            rw [hq]
          · subst ho
            rw [if_neg (by simp)]
            rw [h5] at hfa
            exact ih k (i + 1) n (q + 1) x7 x8 false hn (by omega) (by omega) (by omega) (by omega) (.inr ⟨rfl, e, by simpa using hfa, h6'⟩)
        · rw [if_neg h3d]; exact stay (by simp [ready, h3d])
      · rw [if_neg h6]; exact stay (by simp [ready, h6])
    · obtain rfl : q = ls[n].f1.length := by omega
      have hn1 : n + 1 < ls.length := by
        rcases Nat.lt_or_ge (n + 1) ls.length with h | h
        · exact h
        · have h2 : n + 1 = ls.length := by omega
          rw [← h2] at hlen
          omega
      obtain ⟨u, hu1, hu2, hu3⟩ := ((hL.2 (n + 1) hn1).2).resolve_left (by omega)
      rw [show off ls (n + 1) - 1 = i by omega, List.getElem?_eq_getElem hlt] at hu1
      injection hu1 with hu1
      have h11 : l[i].f0 = 11 := by rw [hu1]; simpa [up] using hu2
      rw [if_pos h11, if_neg (by omega)]
      have hp := full n hn x7 x8 op hst
      have := ih k (i + 1) (n + 1) 0 x7 x8 true hn1 (by omega) (by omega) (by omega) (by omega) (.inl ⟨rfl, by simp [fst], hp⟩)
      rw [show off ls (n + 1) = i + 1 by omega] at this
      exact this
theorem lifeT_f (l : List S46) (id : Int) (hl : l.length ≤ 4398046510976) (k : Nat) (hk : l.length < k) : eddylaw18_life.f k l id = some (place id (cutL l 0 []) (cutL l 0 []).length) := by
  obtain ⟨_, _, h0⟩ := laid_cut l 0 [] (by simp)
  unfold eddylaw18_life.f
  have := lifeT_l0 l _ id (laid_l l) hl l.length k 0 0 0 (-1) (-1) true h0 (by simp [off]) (by omega) (by omega) hk (.inl ⟨rfl, by simp [fst], rfl⟩)
  simpa [off] using this

/-! ### refusable -/
theorem ite_to {c : Prop} [Decidable c] {a b z : Option Bool} (h1 : c → a = z) (h2 : ¬ c → b = z) : (if c then a else b) = z := by
  by_cases h : c
  · rw [if_pos h]; exact h1 h
  · rw [if_neg h]; exact h2 h
set_option maxHeartbeats 4000000 in
theorem refT_step (l : List S46) (id tasks : Int) (hl : l.length ≤ 4398046510976) (k i : Nat) (hi : i < l.length) :
    eddylaw18_refusable.l0 (k + 2) l id tasks (i : Int) = if okP l[i] tasks then eddylaw18_refusable.l0 k l id tasks ((i + 1 : Nat) : Int) else some true := by
  rw [eddylaw18_refusable.l0, if_pos (by omega), if_pos (by omega), rd46 l i hi]
  simp only [eddylaw18_refusable.j2]
  rw [wrap_succ i (by omega)]
  obtain ⟨Z, hZ⟩ : ∃ Z, eddylaw18_refusable.l0 k l id tasks ((i + 1 : Nat) : Int) = Z := ⟨_, rfl⟩
  rw [hZ]
  obtain ⟨⟨t0, t1, t2, t3⟩, ht⟩ : ∃ t, l[i] = t := ⟨_, rfl⟩
  rw [ht]
  clear hZ ht
  simp only [bne_iff_ne, ne_eq, if_true, Bool.false_eq_true, if_false]
  by_cases h : okP ⟨t0, t1, t2, t3⟩ tasks
  · rw [if_pos h]
    unfold okP at h
    simp only at h
    repeat' (refine ite_to (fun _ => ?_) (fun _ => ?_))
    all_goals first | rfl | (exfalso; omega)
  · rw [if_neg h]
    unfold okP at h
    simp only at h
    repeat' (refine ite_to (fun _ => ?_) (fun _ => ?_))
    all_goals first | rfl | (exfalso; omega)
theorem refT_bad (l : List S46) (id tasks : Int) (hl : l.length ≤ 4398046510976) (d : Nat) : ∀ (k i : Nat), i + d = l.length → 2 * d < k → (∃ q, ∃ h : q < l.length, i ≤ q ∧ ¬ okP l[q] tasks) → eddylaw18_refusable.l0 k l id tasks (i : Int) = some true := by
  induction d with
  | zero =>
    rintro k i hi hk ⟨q, h, h1, _⟩
    omega
  | succ d ih =>
    rintro k i hi hk ⟨q, h, h1, h2⟩
    obtain ⟨k, rfl⟩ : ∃ m, k = m + 2 := ⟨k - 2, by omega⟩
    rw [refT_step l id tasks hl k i (by omega)]
    by_cases hok : okP l[i] tasks
    · rw [if_pos hok]
      refine ih k (i + 1) (by omega) (by omega) ⟨q, h, ?_, h2⟩
      rcases Nat.lt_or_ge i q with h3 | h3
      · omega
      · obtain rfl : i = q := by omega
        exact absurd hok h2
    · rw [if_neg hok]
theorem refT_all (l : List S46) (id tasks : Int) (hl : l.length ≤ 4398046510976) (hok : ∀ t ∈ l, okP t tasks) (d : Nat) : ∀ (k i : Nat), i + d = l.length →
    eddylaw18_refusable.l0 (k + 2 * d + 1) l id tasks (i : Int) = (eddylaw18_life.f k l id).bind fun b => if b.1 < 0 then some true else eddylaw18_refusable.l1 k l id tasks b.1 b.2 0 := by
  induction d with
  | zero =>
    intro k i hi
    rw [eddylaw18_refusable.l0, if_neg (by omega)]
  | succ d ih =>
    intro k i hi
    rw [show k + 2 * (d + 1) + 1 = (k + 2 * d + 1) + 2 by omega, refT_step l id tasks hl _ i (by omega), if_pos (hok _ (List.getElem_mem _)), ih k (i + 1) (by omega)]
theorem refT_l2 (l : List S46) (id tasks : Int) (hl : l.length ≤ 4398046510976) (fr : Int) (en : Nat) (he : en ≤ l.length) (t : Int) (d : Nat) : ∀ (k i n : Nat), i + d = en → n ≤ i →
    eddylaw18_refusable.l2 (k + d + 1) l id tasks fr (en : Int) t (n : Int) (i : Int) = if n + ((l.drop i).take d).countP (cp id t) = 1 then eddylaw18_refusable.l1 k l id tasks fr (en : Int) (wrap64 (t + 1)) else some true := by
  induction d with
  | zero =>
    intro k i n hi hn
    rw [eddylaw18_refusable.l2, if_neg (by omega)]
    have h0 : n + ((l.drop i).take 0).countP (cp id t) = n := by simp
    rw [h0]
    by_cases h1 : n = 1
    · rw [if_pos (by omega), if_pos h1]
    · rw [if_neg (by omega), if_neg h1]
  | succ d ih =>
    intro k i n hi hn
    have hlt : i < l.length := by omega
    rw [show k + (d + 1) + 1 = (k + d + 1) + 1 by omega, eddylaw18_refusable.l2, if_pos (by omega), if_pos (by omega), if_pos (by omega), rd46 l i hlt, wrap_succ i (by omega), List.drop_eq_getElem_cons hlt, List.take_succ_cons, List.countP_cons]
    by_cases hc : cp id t l[i] = true
    · have h1 : l[i].f0 = 3 ∧ l[i].f3 = id ∧ l[i].f1 = t := by simpa [cp] using hc
      rw [if_pos h1.1, if_pos h1.2.1, if_pos h1.2.2, wrap_succ n (by omega), ih k (i + 1) (n + 1) (by omega) (by omega), if_pos hc, show n + 1 + ((l.drop (i + 1)).take d).countP (cp id t) = n + (((l.drop (i + 1)).take d).countP (cp id t) + 1) by omega]
    · have h1 : ¬ (l[i].f0 = 3 ∧ l[i].f3 = id ∧ l[i].f1 = t) := by simpa [cp] using hc
      have := ih k (i + 1) n (by omega) (by omega)
      rw [if_neg hc, show ∀ m : Nat, n + (m + 0) = n + m from fun _ => rfl, ← this]
      split
      · split
        · rw [if_neg (fun h => h1 ⟨by assumption, by assumption, h⟩)]
        · rfl
      · rfl
theorem refT_l1 (l : List S46) (id tasks : Int) (hl : l.length ≤ 4398046510976) (fr en : Nat) (hfe : fr ≤ en) (he : en ≤ l.length) (ht : tasks ≤ 12) (D : Nat) : ∀ t : Nat, ((t + D : Nat) : Int) < tasks → ((l.drop fr).take (en - fr)).countP (cp id ((t + D : Nat) : Int)) ≠ 1 →
    ∃ K, ∀ k, K ≤ k → eddylaw18_refusable.l1 k l id tasks (fr : Int) (en : Int) (t : Int) = some true := by
  induction D with
  | zero =>
    intro t h1 h2
    refine ⟨en - fr + 2, fun k hk => ?_⟩
    obtain ⟨k, rfl⟩ : ∃ m, k = m + (en - fr) + 1 + 1 := ⟨k - (en - fr) - 2, by omega⟩
    have := refT_l2 l id tasks hl (fr : Int) en he (t : Int) (en - fr) k fr 0 (by omega) (by omega)
    rw [eddylaw18_refusable.l1, if_pos (by simpa using h1)]
    rw [show (0 : Int) = ((0 : Nat) : Int) from rfl, this, if_neg (by simpa using h2)]
  | succ D ih =>
    intro t h1 h2
    obtain ⟨K, hK⟩ := ih (t + 1) (by rw [show t + 1 + D = t + (D + 1) by omega]; exact h1) (by rw [show t + 1 + D = t + (D + 1) by omega]; exact h2)
    refine ⟨K + (en - fr) + 2, fun k hk => ?_⟩
    obtain ⟨k, rfl⟩ : ∃ m, k = m + (en - fr) + 1 + 1 := ⟨k - (en - fr) - 2, by omega⟩
    have := refT_l2 l id tasks hl (fr : Int) en he (t : Int) (en - fr) k fr 0 (by omega) (by omega)
    rw [eddylaw18_refusable.l1, if_pos (by omega), show (0 : Int) = ((0 : Nat) : Int) from rfl, this]
    split
    · rw [wrap_succ t (by omega)]; exact hK k (by omega)
    · rfl
/-- a refusal has a reason -/
theorem refT_f (l : List S46) (id tasks : Int) (hl : l.length ≤ 4398046510976) (h : ¬ (foundP l id tasks).2.2 = 0) : ∃ k, eddylaw18_refusable.f k l id tasks = some true := by
  by_cases ht : tasks < 1
  · exact ⟨1, by unfold eddylaw18_refusable.f; rw [if_pos ht]; rfl⟩
  by_cases ht2 : tasks > 12
  · exact ⟨1, by unfold eddylaw18_refusable.f; rw [if_neg ht, decide_eq_true ht2]; rfl⟩
  have hj : ∀ k, eddylaw18_refusable.f (k + 1) l id tasks = eddylaw18_refusable.l0 k l id tasks 0 := by
    intro k
    unfold eddylaw18_refusable.f
    rw [if_neg ht, decide_eq_false ht2, eddylaw18_refusable.j0, if_neg (by simp)]
  by_cases hc : can l tasks = true
  · obtain ⟨_, _, hok⟩ := can_all hc
    have hlf : ∀ k, l.length < k → eddylaw18_life.f k l id = some (place id (cutL l 0 []) (cutL l 0 []).length) := fun k hk => lifeT_f l id hl k hk
    have hall := fun k => refT_all l id tasks hl hok l.length k 0 (by omega)
    have hL := laid_l l
    obtain ⟨ls, hls⟩ : ∃ ls, cutL l 0 [] = ls := ⟨_, rfl⟩
    rw [hls] at hlf hL
    rcases seekN_spec id ls ls.length (Nat.le_refl _) with ⟨j, hj', hs, e, he⟩ | hs
    · have he' := he
      rw [zAt hj'] at he'
      rw [foundP_yes hc hls hj' hs he'] at h
      have hpl : place id ls ls.length = (((off ls j : Nat) : Int), ((off ls j + e : Nat) : Int)) := by
        unfold place
        rw [hs]
        show (((off ls j : Nat) : Int), ((off ls j + (fst id (ls.getD j z72).f1).getD 0 : Nat) : Int)) = _
        rw [he]
        rfl
      have hel := fst_lt id _ e he'
      have hmono := off_mono ls ls.length (j + 1) hj' (Nat.le_refl _)
      have hsucc := off_succ ls j hj'
      have hlen := hL.1
      have htk := laid_take l ls hL j hj' e (by omega)
      have hno : ¬ oncs (sc id (ls[j].f1.take e)).c tasks = true := by
        intro ho
        unfold partsP at h
        rw [if_pos ho] at h
        exact h rfl
      rw [oncs_count] at hno
      have hno2 : ∃ q : Nat, (q : Int) < tasks ∧ (ls[j].f1.take e).countP (cp id q) ≠ 1 := by
        by_cases hex : ∃ q : Nat, (q : Int) < tasks ∧ (ls[j].f1.take e).countP (cp id q) ≠ 1
        · exact hex
        · refine absurd (fun q hq => ?_) hno
          by_cases h1 : (ls[j].f1.take e).countP (cp id q) = 1
          · exact h1
          · exact absurd ⟨q, hq, h1⟩ hex
      obtain ⟨q, hq1, hq2⟩ := hno2
      obtain ⟨K, hK⟩ := refT_l1 l id tasks hl (off ls j) (off ls j + e) (by omega) (by omega) (by omega) q 0 (by simpa using hq1) (by rw [show off ls j + e - off ls j = e by omega, htk]; simpa using hq2)
      refine ⟨(K + l.length + 1) + 2 * l.length + 1 + 1, ?_⟩
      rw [hj, show (0 : Int) = ((0 : Nat) : Int) from rfl, hall, hlf _ (by omega), Option.bind_some, hpl]
      simp only
      rw [if_neg (by omega), show (0 : Int) = ((0 : Nat) : Int) from rfl]
      exact hK _ (by omega)
    · refine ⟨(l.length + 1) + 2 * l.length + 1 + 1, ?_⟩
      have hpl : place id ls ls.length = (-1, -1) := by
        unfold place
        rw [hs]
        rfl
      rw [hj, show (0 : Int) = ((0 : Nat) : Int) from rfl, hall, hlf _ (by omega), Option.bind_some, hpl]
      rfl
  · refine ⟨2 * l.length + 1 + 1, ?_⟩
    rw [hj, show (0 : Int) = ((0 : Nat) : Int) from rfl]
    refine refT_bad l id tasks hl l.length _ 0 (by omega) (by omega) ?_
    by_cases hex : ∃ q, ∃ h : q < l.length, 0 ≤ q ∧ ¬ okP l[q] tasks
    · exact hex
    · refine absurd ?_ hc
      unfold can
      simp only [Bool.and_eq_true, decide_eq_true_eq, List.all_eq_true]
      refine ⟨⟨by omega, by omega⟩, fun t ht => ?_⟩
      obtain ⟨q, hq, rfl⟩ := List.mem_iff_getElem.1 ht
      by_cases ho : okP l[q] tasks
      · exact ho
      · exact absurd ⟨q, hq, Nat.zero_le _, ho⟩ hex

theorem refT_l1_ok (l : List S46) (id tasks : Int) (hl : l.length ≤ 4398046510976) (fr en : Nat) (hfe : fr ≤ en) (he : en ≤ l.length) (ht : tasks ≤ 12) (hall : ∀ q : Nat, (q : Int) < tasks → ((l.drop fr).take (en - fr)).countP (cp id (q : Int)) = 1) (D : Nat) : ∀ t : Nat, (t : Int) + D = tasks →
    ∃ K, ∀ k, K ≤ k → eddylaw18_refusable.l1 k l id tasks (fr : Int) (en : Int) (t : Int) = some false := by
  induction D with
  | zero =>
    intro t h1
    refine ⟨1, fun k hk => ?_⟩
    obtain ⟨k, rfl⟩ : ∃ m, k = m + 1 := ⟨k - 1, by omega⟩
    rw [eddylaw18_refusable.l1, if_neg (by omega)]
  | succ D ih =>
    intro t h1
    obtain ⟨K, hK⟩ := ih (t + 1) (by omega)
    refine ⟨K + (en - fr) + 2, fun k hk => ?_⟩
    obtain ⟨k, rfl⟩ : ∃ m, k = m + (en - fr) + 1 + 1 := ⟨k - (en - fr) - 2, by omega⟩
    have := refT_l2 l id tasks hl (fr : Int) en he (t : Int) (en - fr) k fr 0 (by omega) (by omega)
    rw [eddylaw18_refusable.l1, if_pos (by omega), show (0 : Int) = ((0 : Nat) : Int) from rfl, this, hall t (by omega), if_pos rfl, wrap_succ t (by omega)]
    exact hK k (by omega)
theorem refT_ok (l : List S46) (id tasks : Int) (hl : l.length ≤ 4398046510976) (h : (foundP l id tasks).2.2 = 0) : ∃ k, eddylaw18_refusable.f k l id tasks = some false := by
  by_cases hc : can l tasks = true
  · obtain ⟨ht1, ht2, hok⟩ := can_all hc
    have hlf : ∀ k, l.length < k → eddylaw18_life.f k l id = some (place id (cutL l 0 []) (cutL l 0 []).length) := fun k hk => lifeT_f l id hl k hk
    have hall := fun k => refT_all l id tasks hl hok l.length k 0 (by omega)
    have hL := laid_l l
    obtain ⟨ls, hls⟩ : ∃ ls, cutL l 0 [] = ls := ⟨_, rfl⟩
    rw [hls] at hlf hL
    have hj : ∀ k, eddylaw18_refusable.f (k + 1) l id tasks = eddylaw18_refusable.l0 k l id tasks 0 := by
      intro k
      unfold eddylaw18_refusable.f
      rw [if_neg (by omega), decide_eq_false (by omega), eddylaw18_refusable.j0, if_neg (by simp)]
    rcases seekN_spec id ls ls.length (Nat.le_refl _) with ⟨j, hj', hs, e, he⟩ | hs
    · have he' := he
      rw [zAt hj'] at he'
      rw [foundP_yes hc hls hj' hs he'] at h
      have hpl : place id ls ls.length = (((off ls j : Nat) : Int), ((off ls j + e : Nat) : Int)) := by
        unfold place
        rw [hs]
        show (((off ls j : Nat) : Int), ((off ls j + (fst id (ls.getD j z72).f1).getD 0 : Nat) : Int)) = _
        rw [he]
        rfl
      have hel := fst_lt id _ e he'
      have hmono := off_mono ls ls.length (j + 1) hj' (Nat.le_refl _)
      have hsucc := off_succ ls j hj'
      have hlen := hL.1
      have htk := laid_take l ls hL j hj' e (by omega)
      have hyes : oncs (sc id (ls[j].f1.take e)).c tasks = true := by
        unfold partsP at h
        split at h
        · assumption
        · simp at h
      rw [oncs_count] at hyes
      obtain ⟨K, hK⟩ := refT_l1_ok l id tasks hl (off ls j) (off ls j + e) (by omega) (by omega) (by omega) (by rw [show off ls j + e - off ls j = e by omega, htk]; exact hyes) tasks.toNat 0 (by omega)
      refine ⟨(K + l.length + 1) + 2 * l.length + 1 + 1, ?_⟩
      rw [hj, show (0 : Int) = ((0 : Nat) : Int) from rfl, hall, hlf _ (by omega), Option.bind_some, hpl]
      simp only
      rw [if_neg (by omega), show (0 : Int) = ((0 : Nat) : Int) from rfl]
      exact hK _ (by omega)
    · rw [foundP_none hc (by rw [hls]; exact hs)] at h
      simp at h
  · rw [foundP_bad hc] at h
    simp at h
/-- what refusable tells -/
theorem refT_is (l : List S46) (id tasks : Int) (hl : l.length ≤ 4398046510976) : ∃ k, eddylaw18_refusable.f k l id tasks = some (decide ((splitP l id tasks).2.2 ≠ 0)) := by
  have he : (splitP l id tasks).2.2 = (foundP l id tasks).2.2 := by
    unfold splitP
    split
    · rename_i h; exact h.symm
    · rfl
  rw [he]
  by_cases h : (foundP l id tasks).2.2 = 0
  · obtain ⟨k, hk⟩ := refT_ok l id tasks hl h
    exact ⟨k, by rw [hk, decide_eq_false (by simp [h])]⟩
  · obtain ⟨k, hk⟩ := refT_f l id tasks hl h
    exact ⟨k, by rw [hk, decide_eq_true (by simpa using h)]⟩
end Go.Proofs.Ytammigfckdgljaa.PWitnessSplit
