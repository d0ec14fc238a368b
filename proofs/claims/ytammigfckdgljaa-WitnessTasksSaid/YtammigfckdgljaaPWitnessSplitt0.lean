import Derived.Test.YtammigfckdgljaaPWitnessSplitp1t
import Derived.Test.YtammigfckdgljaaPWitnessSplitgT2d
namespace Go.Proofs.Ytammigfckdgljaa.PWitnessSplit
open Go.RowKit Go.Maps Go.Proofs.YtammigfckdgljaaW.PrintWords Go.Proofs.YtammigfckdgljaaW.PrintLast Go.Proofs.YtammigfckdgljaaW.PrintMore
set_option linter.unusedVariables false
set_option linter.unusedSimpArgs false

/-! ### life -/
theorem zAt {ls : List S72} {j : Nat} (hj : j < ls.length) : ls.getD j z72 = ls[j] := by
  simp [List.getD_eq_getElem?_getD, List.getElem?_eq_getElem hj]
theorem place_some {id : Int} {ls : List S72} {n e : Nat} (hn : n < ls.length) (h : fst id ls[n].f1 = some e) : place id ls (n + 1) = (((off ls n : Nat) : Int), ((off ls n + e : Nat) : Int)) := by
  unfold place
  rw [seekN, zAt hn, h, if_pos (show (some e).isSome = true from rfl)]
  show (((off ls n : Nat) : Int), ((off ls n + (fst id (ls.getD n z72).f1).getD 0 : Nat) : Int)) = _
  rw [zAt hn, h]
  rfl
theorem place_none {id : Int} {ls : List S72} {n : Nat} (hn : n < ls.length) (h : fst id ls[n].f1 = none) : place id ls (n + 1) = place id ls n := by
  unfold place
  rw [seekN, zAt hn, h, if_neg (by simp)]
theorem lifeT_l0 (l : List S46) (ls : List S72) (id : Int) (hL : Laid l ls) (hl : l.length ≤ 4398046510976) (d : Nat) : ∀ (k i n q : Nat) (x7 x8 : Int) (op : Bool) (hn : n < ls.length), off ls n + q = i → q ≤ ls[n].f1.length → i + d = l.length → d < k →
    ((op = true ∧ fst id (ls[n].f1.take q) = none ∧ (x7, x8) = place id ls n) ∨ (op = false ∧ ∃ e, fst id (ls[n].f1.take q) = some e ∧ (x7, x8) = (((off ls n : Nat) : Int), ((off ls n + e : Nat) : Int)))) →
    eddylaw18_life.l0 k l id ((off ls n : Nat) : Int) x7 x8 op (i : Int) = some (place id ls ls.length) := by
  have hlen := hL.1
  have full : ∀ (n : Nat) (hn : n < ls.length) (x7 x8 : Int) (op : Bool), ((op = true ∧ fst id (ls[n].f1.take ls[n].f1.length) = none ∧ (x7, x8) = place id ls n) ∨ (op = false ∧ ∃ e, fst id (ls[n].f1.take ls[n].f1.length) = some e ∧ (x7, x8) = (((off ls n : Nat) : Int), ((off ls n + e : Nat) : Int)))) → (x7, x8) = place id ls (n + 1) := by
    intro n hn x7 x8 op h
    rw [List.take_length] at h
    rcases h with ⟨_, h1, h2⟩ | ⟨_, e, h1, h2⟩
    · rw [place_none hn h1]; exact h2
    · rw [place_some hn h1]; exact h2
  induction d with
  | zero =>
    intro k i n q x7 x8 op hn hq hq2 hi hk hst
    obtain ⟨k, rfl⟩ : ∃ m, k = m + 1 := ⟨k - 1, by omega⟩
    have h1 := off_succ ls n hn
    rw [eddylaw18_life.l0, if_neg (by omega)]
    by_cases hn1 : n + 1 < ls.length
    · have h2 := off_succ ls (n + 1) hn1
      have h3 := off_mono ls ls.length (n + 1 + 1) (by omega) (Nat.le_refl _)
      omega
    · have hn2 : n + 1 = ls.length := by omega
      rw [← hn2] at hlen
      obtain rfl : q = ls[n].f1.length := by omega
      rw [full n hn x7 x8 op hst, hn2]
  | succ d ih =>
    intro k i n q x7 x8 op hn hq hq2 hi hk hst
    obtain ⟨k, rfl⟩ : ∃ m, k = m + 1 := ⟨k - 1, by omega⟩
    have h1 := off_succ ls n hn
    have hlt : i < l.length := by omega
    rw [eddylaw18_life.l0, if_pos (by omega), if_pos (by omega), rd46 l i hlt, wrap_succ i (by omega)]
    by_cases hqn : q < ls[n].f1.length
    · obtain ⟨h2, h3⟩ := (hL.2 n hn).1 q hqn
      rw [hq, List.getElem?_eq_getElem hlt] at h2
      injection h2 with h2
      have h11 : ¬ l[i].f0 = 11 := by rw [h2]; simpa [up] using h3
      rw [if_neg h11]
      have htk : ls[n].f1.take (q + 1) = ls[n].f1.take q ++ [l[i]] := by rw [List.take_succ_eq_append_getElem hqn, h2]
      have hlq : (ls[n].f1.take q).length = q := by rw [List.length_take]; omega
      have hfa := fst_append id (ls[n].f1.take q) [l[i]]
      rw [← htk, hlq] at hfa
      have stay : ready id l[i] = false → eddylaw18_life.l0 k l id ((off ls n : Nat) : Int) x7 x8 op ((i + 1 : Nat) : Int) = some (place id ls ls.length) := by
        intro hr
        refine ih k (i + 1) n (q + 1) x7 x8 op hn (by omega) (by omega) (by omega) (by omega) ?_
        have hf : fst id [l[i]] = none := by simp [fst, hr]
        rw [hf] at hfa
        rcases hst with ⟨ho, h5, h6⟩ | ⟨ho, e, h5, h6⟩
        · rw [h5] at hfa; exact .inl ⟨ho, by simpa using hfa, h6⟩
        · rw [h5] at hfa; exact .inr ⟨ho, e, by simpa using hfa, h6⟩
      by_cases h6 : l[i].f0 = 6
      · rw [if_pos h6]
        by_cases h3d : l[i].f3 = id
        · rw [if_pos h3d]
          have hr : ready id l[i] = true := by simp [ready, h6, h3d]
          have hf : fst id [l[i]] = some 0 := by simp [fst, hr]
          rw [hf] at hfa
          rcases hst with ⟨ho, h5, h6'⟩ | ⟨ho, e, h5, h6'⟩
          · subst ho
            rw [if_pos rfl]
            rw [h5] at hfa
            refine ih k (i + 1) n (q + 1) _ _ false hn (by omega) (by omega) (by omega) (by omega) (.inr ⟨rfl, q, by simpa using hfa, ?_⟩)
            rw [hq]
          · subst ho
            rw [if_neg (by simp)]
            rw [h5] at hfa
            exact ih k (i + 1) n (q + 1) x7 x8 false hn (by omega) (by omega) (by omega) (by omega) (.inr ⟨rfl, e, by simpa using hfa, h6'⟩)
        · rw [if_neg h3d]; exact stay (by simp [ready, h3d])
      · rw [if_neg h6]; exact stay (by simp [ready, h6])
    · obtain rfl : q = ls[n].f1.length := by omega
      have hn1 : n + 1 < ls.length := by
        rcases Nat.lt_or_ge (n + 1) ls.length with h | h
        · exact h
        · have h2 : n + 1 = ls.length := by omega
          rw [← h2] at hlen
          omega
      obtain ⟨u, hu1, hu2, hu3⟩ := ((hL.2 (n + 1) hn1).2).resolve_left (by omega)
      rw [show off ls (n + 1) - 1 = i by omega, List.getElem?_eq_getElem hlt] at hu1
      injection hu1 with hu1
      have h11 : l[i].f0 = 11 := by rw [hu1]; simpa [up] using hu2
      rw [if_pos h11, if_neg (by omega)]
      have hp := full n hn x7 x8 op hst
      have := ih k (i + 1) (n + 1) 0 x7 x8 true hn1 (by omega) (by omega) (by omega) (by omega) (.inl ⟨rfl, by simp [fst], hp⟩)
      rw [show off ls (n + 1) = i + 1 by omega] at this
      exact this
theorem lifeT_f (l : List S46) (id : Int) (hl : l.length ≤ 4398046510976) (k : Nat) (hk : l.length < k) : eddylaw18_life.f k l id = some (place id (cutL l 0 []) (cutL l 0 []).length) := by
  obtain ⟨_, _, h0⟩ := laid_cut l 0 [] (by simp)
  unfold eddylaw18_life.f
  have := lifeT_l0 l _ id (laid_l l) hl l.length k 0 0 0 (-1) (-1) true h0 (by simp [off]) (by omega) (by omega) hk (.inl ⟨rfl, by simp [fst], rfl⟩)
  simpa [off] using this

/-! ### refusable -/
theorem ite_to {c : Prop} [Decidable c] {a b z : Option Bool} (h1 : c → a = z) (h2 : ¬ c → b = z) : (if c then a else b) = z := by
  by_cases h : c
  · rw [if_pos h]; exact h1 h
  · rw [if_neg h]; exact h2 h
set_option maxHeartbeats 4000000 in
theorem refT_step (l : List S46) (id tasks : Int) (hl : l.length ≤ 4398046510976) (k i : Nat) (hi : i < l.length) :
    eddylaw18_refusable.l0 (k + 2) l id tasks (i : Int) = if okP l[i] tasks then eddylaw18_refusable.l0 k l id tasks ((i + 1 : Nat) : Int) else some true := by
  rw [eddylaw18_refusable.l0, if_pos (by omega), if_pos (by omega), rd46 l i hi]
  simp only [eddylaw18_refusable.j2]
  rw [wrap_succ i (by omega)]
  obtain ⟨Z, hZ⟩ : ∃ Z, eddylaw18_refusable.l0 k l id tasks ((i + 1 : Nat) : Int) = Z := ⟨_, rfl⟩
  rw [hZ]
  obtain ⟨⟨t0, t1, t2, t3⟩, ht⟩ : ∃ t, l[i] = t := ⟨_, rfl⟩
  rw [ht]
  clear hZ ht
  simp only [bne_iff_ne, ne_eq, if_true, Bool.false_eq_true, if_false]
  by_cases h : okP ⟨t0, t1, t2, t3⟩ tasks
  · rw [if_pos h]
    unfold okP at h
    simp only at h
    repeat' (refine ite_to (fun _ => ?_) (fun _ => ?_))
    all_goals first | rfl | (exfalso; omega)
  · rw [if_neg h]
    unfold okP at h
    simp only at h
    repeat' (refine ite_to (fun _ => ?_) (fun _ => ?_))
    all_goals first | rfl | (exfalso; omega)
theorem refT_bad (l : List S46) (id tasks : Int) (hl : l.length ≤ 4398046510976) (d : Nat) : ∀ (k i : Nat), i + d = l.length → 2 * d < k → (∃ q, ∃ h : q < l.length, i ≤ q ∧ ¬ okP l[q] tasks) → eddylaw18_refusable.l0 k l id tasks (i : Int) = some true := by
  induction d with
  | zero =>
    rintro k i hi hk ⟨q, h, h1, _⟩
    omega
  | succ d ih =>
    rintro k i hi hk ⟨q, h, h1, h2⟩
    obtain ⟨k, rfl⟩ : ∃ m, k = m + 2 := ⟨k - 2, by omega⟩
    rw [refT_step l id tasks hl k i (by omega)]
    by_cases hok : okP l[i] tasks
    · rw [if_pos hok]
      refine ih k (i + 1) (by omega) (by omega) ⟨q, h, ?_, h2⟩
      rcases Nat.lt_or_ge i q with h3 | h3
      · omega
      · obtain rfl : i = q := by omega
        exact absurd hok h2
    · rw [if_neg hok]
theorem refT_all (l : List S46) (id tasks : Int) (hl : l.length ≤ 4398046510976) (hok : ∀ t ∈ l, okP t tasks) (d : Nat) : ∀ (k i : Nat), i + d = l.length →
    eddylaw18_refusable.l0 (k + 2 * d + 1) l id tasks (i : Int) = (eddylaw18_life.f k l id).bind fun b => if b.1 < 0 then some true else eddylaw18_refusable.l1 k l id tasks b.1 b.2 0 := by
  induction d with
  | zero =>
    intro k i hi
    rw [eddylaw18_refusable.l0, if_neg (by omega)]
  | succ d ih =>
    intro k i hi
    rw [show k + 2 * (d + 1) + 1 = (k + 2 * d + 1) + 2 by omega, refT_step l id tasks hl _ i (by omega), if_pos (hok _ (List.getElem_mem _)), ih k (i + 1) (by omega)]
theorem refT_l2 (l : List S46) (id tasks : Int) (hl : l.length ≤ 4398046510976) (fr : Int) (en : Nat) (he : en ≤ l.length) (t : Int) (d : Nat) : ∀ (k i n : Nat), i + d = en → n ≤ i →
    eddylaw18_refusable.l2 (k + d + 1) l id tasks fr (en : Int) t (n : Int) (i : Int) = if n + ((l.drop i).take d).countP (cp id t) = 1 then eddylaw18_refusable.l1 k l id tasks fr (en : Int) (wrap64 (t + 1)) else some true := by
  induction d with
  | zero =>
    intro k i n hi hn
    rw [eddylaw18_refusable.l2, if_neg (by omega)]
    have h0 : n + ((l.drop i).take 0).countP (cp id t) = n := by simp
    rw [h0]
    by_cases h1 : n = 1
    · rw [if_pos (by omega), if_pos h1]
    · rw [if_neg (by omega), if_neg h1]
  | succ d ih =>
    intro k i n hi hn
    have hlt : i < l.length := by omega
    rw [show k + (d + 1) + 1 = (k + d + 1) + 1 by omega, eddylaw18_refusable.l2, if_pos (by omega), if_pos (by omega), if_pos (by omega), rd46 l i hlt, wrap_succ i (by omega), List.drop_eq_getElem_cons hlt, List.take_succ_cons, List.countP_cons]
    by_cases hc : cp id t l[i] = true
    · have h1 : l[i].f0 = 3 ∧ l[i].f3 = id ∧ l[i].f1 = t := by simpa [cp] using hc
      rw [if_pos h1.1, if_pos h1.2.1, if_pos h1.2.2, wrap_succ n (by omega), ih k (i + 1) (n + 1) (by omega) (by omega), if_pos hc, show n + 1 + ((l.drop (i + 1)).take d).countP (cp id t) = n + (((l.drop (i + 1)).take d).countP (cp id t) + 1) by omega]
    · have h1 : ¬ (l[i].f0 = 3 ∧ l[i].f3 = id ∧ l[i].f1 = t) := by simpa [cp] using hc
      have := ih k (i + 1) n (by omega) (by omega)
      rw [if_neg hc, show ∀ m : Nat, n + (m + 0) = n + m from fun _ => rfl, ← this]
      split
      · split
        · rw [if_neg (fun h => h1 ⟨by assumption, by assumption, h⟩)]
        · rfl
      · rfl
theorem refT_l1 (l : List S46) (id tasks : Int) (hl : l.length ≤ 4398046510976) (fr en : Nat) (hfe : fr ≤ en) (he : en ≤ l.length) (ht : tasks ≤ 12) (D : Nat) : ∀ t : Nat, ((t + D : Nat) : Int) < tasks → ((l.drop fr).take (en - fr)).countP (cp id ((t + D : Nat) : Int)) ≠ 1 →
    ∃ K, ∀ k, K ≤ k → eddylaw18_refusable.l1 k l id tasks (fr : Int) (en : Int) (t : Int) = some true := by
  induction D with
  | zero =>
    intro t h1 h2
    refine ⟨en - fr + 2, fun k hk => ?_⟩
    obtain ⟨k, rfl⟩ : ∃ m, k = m + (en - fr) + 1 + 1 := ⟨k - (en - fr) - 2, by omega⟩
    have := refT_l2 l id tasks hl (fr : Int) en he (t : Int) (en - fr) k fr 0 (by omega) (by omega)
    rw [eddylaw18_refusable.l1, if_pos (by simpa using h1)]
    rw [show (0 : Int) = ((0 : Nat) : Int) from rfl, this, if_neg (by simpa using h2)]
  | succ D ih =>
    intro t h1 h2
    obtain ⟨K, hK⟩ := ih (t + 1) (by rw [show t + 1 + D = t + (D + 1) by omega]; exact h1) (by rw [show t + 1 + D = t + (D + 1) by omega]; exact h2)
    refine ⟨K + (en - fr) + 2, fun k hk => ?_⟩
    obtain ⟨k, rfl⟩ : ∃ m, k = m + (en - fr) + 1 + 1 := ⟨k - (en - fr) - 2, by omega⟩
    have := refT_l2 l id tasks hl (fr : Int) en he (t : Int) (en - fr) k fr 0 (by omega) (by omega)
    rw [eddylaw18_refusable.l1, if_pos (by omega), show (0 : Int) = ((0 : Nat) : Int) from rfl, this]
    split
    · rw [wrap_succ t (by omega)]; exact hK k (by omega)
    · rfl
/-- a refusal has a reason -/
theorem refT_f (l : List S46) (id tasks : Int) (hl : l.length ≤ 4398046510976) (h : ¬ (foundP l id tasks).2.2 = 0) : ∃ k, eddylaw18_refusable.f k l id tasks = some true := by
  by_cases ht : tasks < 1
  · exact ⟨1, by unfold eddylaw18_refusable.f; rw [if_pos ht]; rfl⟩
  by_cases ht2 : tasks > 12
  · exact ⟨1, by unfold eddylaw18_refusable.f; rw [if_neg ht, decide_eq_true ht2]; rfl⟩
  have hj : ∀ k, eddylaw18_refusable.f (k + 1) l id tasks = eddylaw18_refusable.l0 k l id tasks 0 := by
    intro k
    unfold eddylaw18_refusable.f
    rw [if_neg ht, decide_eq_false ht2, eddylaw18_refusable.j0, if_neg (by simp)]
  by_cases hc : can l tasks = true
  · obtain ⟨_, _, hok⟩ := can_all hc
    have hlf : ∀ k, l.length < k → eddylaw18_life.f k l id = some (place id (cutL l 0 []) (cutL l 0 []).length) := fun k hk => lifeT_f l id hl k hk
    have hall := fun k => refT_all l id tasks hl hok l.length k 0 (by omega)
    have hL := laid_l l
    obtain ⟨ls, hls⟩ : ∃ ls, cutL l 0 [] = ls := ⟨_, rfl⟩
    rw [hls] at hlf hL
    rcases seekN_spec id ls ls.length (Nat.le_refl _) with ⟨j, hj', hs, e, he⟩ | hs
    · have he' := he
      rw [zAt hj'] at he'
      rw [foundP_yes hc hls hj' hs he'] at h
      have hpl : place id ls ls.length = (((off ls j : Nat) : Int), ((off ls j + e : Nat) : Int)) := by
        unfold place
        rw [hs]
        show (((off ls j : Nat) : Int), ((off ls j + (fst id (ls.getD j z72).f1).getD 0 : Nat) : Int)) = _
        rw [he]
        rfl
      have hel := fst_lt id _ e he'
      have hmono := off_mono ls ls.length (j + 1) hj' (Nat.le_refl _)
      have hsucc := off_succ ls j hj'
      have hlen := hL.1
      have htk := laid_take l ls hL j hj' e (by omega)
      have hno : ¬ oncs (sc id (ls[j].f1.take e)).c tasks = true := by
        intro ho
        unfold partsP at h
        rw [if_pos ho] at h
        exact h rfl
      rw [oncs_count] at hno
      have hno2 : ∃ q : Nat, (q : Int) < tasks ∧ (ls[j].f1.take e).countP (cp id q) ≠ 1 := by
        by_cases hex : ∃ q : Nat, (q : Int) < tasks ∧ (ls[j].f1.take e).countP (cp id q) ≠ 1
        · exact hex
        · refine absurd (fun q hq => ?_) hno
          by_cases h1 : (ls[j].f1.take e).countP (cp id q) = 1
          · exact h1
          · exact absurd ⟨q, hq, h1⟩ hex
      obtain ⟨q, hq1, hq2⟩ := hno2
      obtain ⟨K, hK⟩ := refT_l1 l id tasks hl (off ls j) (off ls j + e) (by omega) (by omega) (by omega) q 0 (by simpa using hq1) (by rw [show off ls j + e - off ls j = e by omega, htk]; simpa using hq2)
      refine ⟨(K + l.length + 1) + 2 * l.length + 1 + 1, ?_⟩
      rw [hj, show (0 : Int) = ((0 : Nat) : Int) from rfl, hall, hlf _ (by omega), Option.bind_some, hpl]
      simp only
      rw [if_neg (by omega), show (0 : Int) = ((0 : Nat) : Int) from rfl]
      exact hK _ (by omega)
    · refine ⟨(l.length + 1) + 2 * l.length + 1 + 1, ?_⟩
      have hpl : place id ls ls.length = (-1, -1) := by
        unfold place
        rw [hs]
        rfl
      rw [hj, show (0 : Int) = ((0 : Nat) : Int) from rfl, hall, hlf _ (by omega), Option.bind_some, hpl]
      rfl
  · refine ⟨2 * l.length + 1 + 1, ?_⟩
    rw [hj, show (0 : Int) = ((0 : Nat) : Int) from rfl]
    refine refT_bad l id tasks hl l.length _ 0 (by omega) (by omega) ?_
    by_cases hex : ∃ q, ∃ h : q < l.length, 0 ≤ q ∧ ¬ okP l[q] tasks
    · exact hex
    · refine absurd ?_ hc
      unfold can
      simp only [Bool.and_eq_true, decide_eq_true_eq, List.all_eq_true]
      refine ⟨⟨by omega, by omega⟩, fun t ht => ?_⟩
      obtain ⟨q, hq, rfl⟩ := List.mem_iff_getElem.1 ht
      by_cases ho : okP l[q] tasks
      · exact ho
      · exact absurd ⟨q, hq, Nat.zero_le _, ho⟩ hex

/-! ### of -/
def ofN (t : Int) (l : List S48) : List S48 := l.filter fun x => decide (x.f0 = t)
theorem ofT_l0 (es : List S48) (t : Int) (hl : es.length ≤ 4398046510976) (d : Nat) : ∀ (k i : Nat) (acc : List S48), i + d = es.length → acc.length ≤ i → d < k →
    eddylaw18_of.l0 k es t acc (i : Int) = some (acc ++ ofN t (es.drop i)) := by
  induction d with
  | zero =>
    intro k i acc hi ha hk
    obtain ⟨k, rfl⟩ : ∃ m, k = m + 1 := ⟨k - 1, by omega⟩
    rw [eddylaw18_of.l0, if_neg (by omega), List.drop_eq_nil_of_le (by omega)]
    simp [ofN]
  | succ d ih =>
    intro k i acc hi ha hk
    obtain ⟨k, rfl⟩ : ∃ m, k = m + 1 := ⟨k - 1, by omega⟩
    have hlt : i < es.length := by omega
    have hr : rd_T48 es (i : Int) = es[i] := by simp [rd_T48, List.getD_eq_getElem?_getD, List.getElem?_eq_getElem hlt]
    rw [eddylaw18_of.l0, if_pos (by omega), if_pos (by omega), hr, wrap_succ i (by omega), List.drop_eq_getElem_cons hlt]
    unfold ofN
    rw [List.filter_cons]
    by_cases h : es[i].f0 = t
    · rw [if_pos h, if_pos (by omega), ih k (i + 1) _ (by omega) (by simp; omega) (by omega), if_pos (by simpa using h), List.append_assoc]
      rfl
    · rw [if_neg h, ih k (i + 1) _ (by omega) (by omega) (by omega), if_neg (by simpa using h)]
      rfl
theorem ofT_f (es : List S48) (t : Int) (hl : es.length ≤ 4398046510976) : eddylaw18_of.f (es.length + 1) es t = some (ofN t es) := by
  unfold eddylaw18_of.f
  have := ofT_l0 es t hl es.length (es.length + 1) 0 [] (by omega) (by simp) (by omega)
  simpa using this
/-- a later event of the same task is after as well -/
def Mono (x y : S48 × Bool) : Prop := x.2 = false → y.2 = true → x.1.f0 ≠ y.1.f0
theorem scR_after (id q : Int) : ∀ (seg : List S46) (c : Int → Int), (∀ q, 0 ≤ c q) → 0 < c q → ∀ y ∈ scR id c seg, y.1.f0 = q → y.2 = false
  | [], c, _, _, y, hy, _ => by simp [scR] at hy
  | t :: r, c, h0, h1, y, hy, hq => by
    have hb : ∀ q, 0 ≤ bump c t.f1 q := by
      intro q
      unfold bump
      split
      · have := h0 t.f1; omega
      · exact h0 q
    rw [scR_cons] at hy
    split at hy
    · refine scR_after id q r _ hb ?_ y hy hq
      unfold bump
      split
      · have := h0 t.f1; omega
      · exact h1
    · split at hy
      · rcases List.mem_cons.1 hy with rfl | hy
        · have hq' : t.f1 = q := hq
          show (c t.f1 == 0) = false
          rw [hq']
          exact beq_eq_false_iff_ne.2 (by omega)
        · exact scR_after id q r c h0 h1 y hy hq
      · exact scR_after id q r c h0 h1 y hy hq
theorem scR_pair (id : Int) : ∀ (seg : List S46) (c : Int → Int), (∀ q, 0 ≤ c q) → (scR id c seg).Pairwise Mono
  | [], c, _ => by simp [scR]
  | t :: r, c, h0 => by
    have hb : ∀ q, 0 ≤ bump c t.f1 q := by
      intro q
      unfold bump
      split
      · have := h0 t.f1; omega
      · exact h0 q
    rw [scR_cons]
    split
    · exact scR_pair id r _ hb
    · split
      · refine List.pairwise_cons.2 ⟨fun y hy hx hy2 he => ?_, scR_pair id r c h0⟩
        have hc : ¬ c t.f1 = 0 := beq_eq_false_iff_ne.1 hx
        have hz := h0 t.f1
        have := scR_after id t.f1 r c h0 (by omega) y hy he.symm
        rw [this] at hy2
        cases hy2
      · exact scR_pair id r c h0
def bef (L : List (S48 × Bool)) : List S48 := (L.filter fun x => x.2 == true).map Prod.fst
def aft (L : List (S48 × Bool)) : List S48 := (L.filter fun x => x.2 == false).map Prod.fst
theorem bef_cons (e : S48) (b : Bool) (r : List (S48 × Bool)) : bef ((e, b) :: r) = if b = true then e :: bef r else bef r := by
  cases b <;> simp [bef]
theorem aft_cons (e : S48) (b : Bool) (r : List (S48 × Bool)) : aft ((e, b) :: r) = if b = true then aft r else e :: aft r := by
  cases b <;> simp [aft]
theorem bef_aft_len : ∀ L : List (S48 × Bool), L.length = (bef L).length + (aft L).length
  | [] => rfl
  | (e, b) :: r => by
    have := bef_aft_len r
    rw [bef_cons, aft_cons]
    cases b <;> simp <;> omega
theorem ofN_cons (t : Int) (e : S48) (l : List S48) : ofN t (e :: l) = if e.f0 = t then e :: ofN t l else ofN t l := by
  unfold ofN
  rw [List.filter_cons]
  by_cases h : e.f0 = t <;> simp [h]
theorem pair_of (t : Int) : ∀ L : List (S48 × Bool), L.Pairwise Mono → ofN t (L.map Prod.fst) = ofN t (bef L) ++ ofN t (aft L)
  | [], _ => rfl
  | (e, b) :: r, h => by
    obtain ⟨h1, h2⟩ := List.pairwise_cons.1 h
    have ih := pair_of t r h2
    rw [List.map_cons, ofN_cons, ih, bef_cons, aft_cons]
    cases b with
    | true =>
      rw [if_pos rfl, if_pos rfl, ofN_cons]
      split <;> rfl
    | false =>
      simp only [Bool.false_eq_true, if_false]
      rw [ofN_cons]
      by_cases he : e.f0 = t
      · rw [if_pos he, if_pos he]
        have : ofN t (bef r) = [] := by
          unfold ofN
          rw [List.filter_eq_nil_iff]
          intro x hx hx2
          unfold bef at hx
          obtain ⟨y, hy, rfl⟩ := List.mem_map.1 hx
          obtain ⟨hy1, hy2⟩ := List.mem_filter.1 hy
          exact h1 y hy1 rfl (by simpa using hy2) (by show e.f0 = y.1.f0; rw [he]; exact (of_decide_eq_true hx2).symm)
        rw [this]
        rfl
      · rw [if_neg he, if_neg he]

/-! ### exchanged -/
theorem sameT (es : List S48) (hl : es.length ≤ 4398046510976) (k : Nat) (hk : es.length < k) : eddylaw18_sameEvents.f k es es = some true := by
  unfold eddylaw18_sameEvents.f
  rw [if_pos rfl]
  exact same_l0 es hl es.length k 0 (by omega) hk
theorem exT_down (p : List Int) (a b : List S48) (hp : p.length ≤ 4398046510976) : ∀ (c : Nat) (A B R : List S48) (y : S48) (k idx : Nat) (more : List Int), B.length = c → A.length + c + R.length ≤ 4398046510976 → (∀ x ∈ B, x.f0 ≠ y.f0) → p.drop idx = down c (((A.length + c : Nat) : Int) - 1) ++ more →
    eddylaw18_exchanged.l0 (k + c) (A ++ B ++ y :: R) p a b (idx : Int) = eddylaw18_exchanged.l0 k (A ++ y :: (B ++ R)) p a b ((idx + c : Nat) : Int)
  | 0, A, B, R, y, k, idx, more, hB, _, _, _ => by
    obtain rfl := List.eq_nil_of_length_eq_zero hB
    simp
  | c + 1, A, B, R, y, k, idx, more, hB, hn, hne, hd => by
    obtain ⟨B, x, rfl⟩ : ∃ B' x, B = B' ++ [x] := by
      rcases List.eq_nil_or_concat B with h | ⟨B', x, h⟩
      · subst h; simp at hB
      · exact ⟨B', x, by simpa using h⟩
    have hB' : B.length = c := by simpa using hB
    have hs : ((A.length + (c + 1) : Nat) : Int) - 1 = ((A.length + c : Nat) : Int) := by omega
    rw [hs] at hd
    have hlt : idx < p.length := by
      rcases Nat.lt_or_ge idx p.length with h | h
      · exact h
      · rw [List.drop_eq_nil_of_le h] at hd; simp [down] at hd
    have hc := List.drop_eq_getElem_cons hlt
    rw [hc] at hd
    simp only [down, List.cons_append] at hd
    injection hd with hd1 hd2
    have hr : rd p (idx : Int) = ((A.length + c : Nat) : Int) := by rw [← hd1]; simp [rd, List.getD_eq_getElem?_getD, List.getElem?_eq_getElem hlt]
    have hAB : (A ++ B).length = A.length + c := by simp [hB']
    have e0 : A ++ (B ++ [x]) ++ y :: R = (A ++ B) ++ x :: y :: R := by simp
    have g0 : rd_T48 ((A ++ B) ++ x :: y :: R) ((A.length + c : Nat) : Int) = x := by
      unfold rd_T48
      rw [Int.toNat_natCast, List.getD_eq_getElem?_getD, ← hAB, List.getElem?_append_right (Nat.le_refl _)]
      simp
    have g1 : rd_T48 ((A ++ B) ++ x :: y :: R) ((A.length + c + 1 : Nat) : Int) = y := by
      unfold rd_T48
      rw [Int.toNat_natCast, List.getD_eq_getElem?_getD, ← hAB, List.getElem?_append_right (Nat.le_succ _)]
      simp
    have hlen : ((A ++ B) ++ x :: y :: R).length = A.length + c + 1 + 1 + R.length := by simp [hB']; omega
    have hset : (((A ++ B) ++ x :: y :: R).set (A.length + c) y).set (A.length + c + 1) x = (A ++ B) ++ y :: x :: R := by
      rw [List.set_append_right _ _ (by omega), hAB, Nat.sub_self, List.set_cons_zero, List.set_append_right _ _ (by omega), hAB, show A.length + c + 1 - (A.length + c) = 1 by omega]
      rfl
    rw [e0, show k + (c + 1) = (k + c) + 1 by omega, eddylaw18_exchanged.l0, if_pos (by omega), if_pos (by omega), hr, wrap_succ (A.length + c) (by omega), g0, g1, if_neg (by omega), if_neg (by rw [hlen]; omega), if_pos (by omega), if_pos (by rw [hlen]; omega), if_pos (by omega), if_pos (by rw [hlen]; omega), if_neg (hne x (by simp)), wrap_succ idx (by omega), Int.toNat_natCast, Int.toNat_natCast, hset]
    have ih := exT_down p a b hp c A B (x :: R) y k (idx + 1) more hB' (by simp; omega) (fun z hz => hne z (by simp [hz])) hd2.symm.symm
    rw [ih, show idx + 1 + c = idx + (c + 1) by omega]
    simp
theorem exT (p : List Int) (a b : List S48) (hp : p.length ≤ 4398046510976) : ∀ (L : List (S48 × Bool)) (A B : List S48) (k idx : Nat), idx ≤ p.length → p.drop idx = placesN (L.map Prod.snd) (A.length + B.length) A.length → L.Pairwise Mono → (∀ x ∈ B, ∀ y ∈ L, y.2 = true → x.f0 ≠ y.1.f0) → A.length + B.length + L.length ≤ 4398046510976 →
    eddylaw18_exchanged.l0 (k + (p.length - idx)) (A ++ B ++ L.map Prod.fst) p a b (idx : Int) = eddylaw18_exchanged.l0 k (A ++ bef L ++ (B ++ aft L)) p a b (p.length : Int)
  | [], A, B, k, idx, hi, hd, _, _, _ => by
    simp only [List.map_nil, placesN] at hd
    have : p.length ≤ idx := by
      have := congrArg List.length hd
      rw [List.length_drop] at this
      simp at this
      omega
    obtain rfl : idx = p.length := by omega
    simp [bef, aft]
  | (y, bb) :: r, A, B, k, idx, hi, hd, hpw, hne, hn => by
    obtain ⟨h1, h2⟩ := List.pairwise_cons.1 hpw
    simp only [List.length_cons] at hn
    rw [List.map_cons, placesN_cons] at hd
    rw [List.map_cons, bef_cons, aft_cons]
    cases bb with
    | true =>
      simp only [if_true] at hd ⊢
      rw [show A.length + B.length - A.length = B.length by omega] at hd
      have hle : B.length ≤ p.length - idx := by
        have := congrArg List.length hd
        rw [List.length_drop, List.length_append, down_len] at this
        omega
      have hd2 : p.drop (idx + B.length) = placesN (r.map Prod.snd) (A.length + B.length + 1) (A.length + 1) := by
        rw [← List.drop_drop, hd, List.drop_append_of_le_length (by rw [down_len]; exact Nat.le_refl _), List.drop_eq_nil_of_le (by rw [down_len]; exact Nat.le_refl _), List.nil_append]
      have e1 := exT_down p a b hp B.length A B (r.map Prod.fst) y (k + (p.length - (idx + B.length))) idx _ rfl (by simp; omega) (fun x hx => hne x hx _ List.mem_cons_self rfl) hd
      rw [show k + (p.length - idx) = k + (p.length - (idx + B.length)) + B.length by omega, e1]
      have e2 := exT p a b hp r (A ++ [y]) B k (idx + B.length) (by omega) (by rw [hd2]; simp; congr 1; omega) h2 (fun x hx z hz => hne x hx z (List.mem_cons_of_mem _ hz)) (by simp; omega)
      simp only [List.append_assoc, List.singleton_append] at e2 ⊢
      simpa using e2
    | false =>
      simp only [Bool.false_eq_true, if_false] at hd ⊢
      have e2 := exT p a b hp r A (B ++ [y]) k idx hi (by rw [hd]; simp; congr 1) h2 (fun x hx z hz hz2 => by
        rcases List.mem_append.1 hx with hx | hx
        · exact hne x hx z (List.mem_cons_of_mem _ hz) hz2
        · rw [List.mem_singleton.1 hx]; exact h1 z hz rfl hz2) (by simp; omega)
      simp only [List.append_assoc, List.singleton_append] at e2 ⊢
      simpa using e2
theorem exT_f (L : List (S48 × Bool)) (hpw : L.Pairwise Mono) (hn : L.length ≤ 4398046510976) (hp : (placesN (L.map Prod.snd) 0 0).length ≤ 4398046510976) :
    ∃ k, eddylaw18_exchanged.f k (L.map Prod.fst) (placesN (L.map Prod.snd) 0 0) (bef L) (aft L) = some (true, bef L ++ aft L) := by
  have hba := bef_aft_len L
  refine ⟨(L.length + 2) + ((placesN (L.map Prod.snd) 0 0).length - 0), ?_⟩
  unfold eddylaw18_exchanged.f
  have := exT (placesN (L.map Prod.snd) 0 0) (bef L) (aft L) hp L [] [] (L.length + 2) 0 (Nat.zero_le _) rfl hpw (by simp) (by simpa using hn)
  simp only [List.nil_append] at this
  rw [show (0 : Int) = ((0 : Nat) : Int) from rfl, this, eddylaw18_exchanged.l0, if_neg (by omega), if_pos (by omega), if_pos (by rw [List.length_append]; omega), Int.toNat_natCast, List.take_left' rfl, List.drop_left' rfl, sameT _ (by omega) _ (by omega), Option.bind_some, if_pos rfl, sameT _ (by omega) _ (by omega), Option.bind_some]

/-! ### the run -/
def stT (l : List S46) : List S48 := (l.filter fun t => decide (t.f0 = 1)).map evOf
theorem stT_snoc (r : List S46) (t : S46) : stT (r ++ [t]) = if t.f0 = 1 then stT r ++ [evOf t] else stT r := by
  unfold stT
  rw [List.filter_append, List.map_append]
  by_cases h : t.f0 = 1
  · simp [h]
  · simp [h]
theorem stT_len (l : List S46) : (stT l).length ≤ l.length := by
  unfold stT
  rw [List.length_map]
  exact List.length_filter_le _ _
theorem stT_scR (id : Int) : ∀ (seg : List S46) (c : Int → Int), (scR id c seg).map Prod.fst = stT seg
  | [], c => rfl
  | t :: r, c => by
    rw [scR_cons]
    by_cases c3 : t.f0 = 3 ∧ t.f3 = id
    · rw [if_pos c3, stT_scR id r]
      unfold stT
      rw [List.filter_cons, if_neg (by simp [c3.1])]
    · rw [if_neg c3]
      by_cases c1 : t.f0 = 1
      · rw [if_pos c1, List.map_cons, stT_scR id r]
        unfold stT
        rw [List.filter_cons, if_pos (by simp [c1])]
        rfl
      · rw [if_neg c1, stT_scR id r]
        unfold stT
        rw [List.filter_cons, if_neg (by simp [c1])]
/-- what stands where a split is answered -/
theorem okT (l : List S46) (id tasks : Int) (hl : l.length ≤ 4398046510976) (h : (foundP l id tasks).2.2 = 0) : 1 ≤ tasks ∧ tasks ≤ 12 ∧ ∃ (fr en : Nat) (L : List (S48 × Bool)), fr ≤ en ∧ en ≤ l.length ∧ eddylaw18_life.f (l.length + 1) l id = some ((fr : Int), (en : Int)) ∧ L.Pairwise Mono ∧ L.map Prod.fst = stT ((l.drop fr).take (en - fr)) ∧
    foundP l id tasks = (L.map Prod.fst, L.map Prod.snd, 0) ∧ splitP l id tasks = (bef L, aft L, 0) := by
  by_cases hc : can l tasks = true
  · obtain ⟨ht0, ht, hok⟩ := can_all hc
    have hlf := lifeT_f l id hl (l.length + 1) (by omega)
    have hL := laid_l l
    obtain ⟨ls, hls⟩ : ∃ ls, cutL l 0 [] = ls := ⟨_, rfl⟩
    rw [hls] at hlf hL
    rcases seekN_spec id ls ls.length (Nat.le_refl _) with ⟨j, hj', hs, e, he⟩ | hs
    · have he' := he
      rw [zAt hj'] at he'
      have hfy := foundP_yes (tasks := tasks) hc hls hj' hs he'
      rw [hfy] at h
      have hpl : place id ls ls.length = (((off ls j : Nat) : Int), ((off ls j + e : Nat) : Int)) := by
        unfold place
        rw [hs]
        show (((off ls j : Nat) : Int), ((off ls j + (fst id (ls.getD j z72).f1).getD 0 : Nat) : Int)) = _
        rw [he]
        rfl
      have hel := fst_lt id _ e he'
      have hmono := off_mono ls ls.length (j + 1) hj' (Nat.le_refl _)
      have hsucc := off_succ ls j hj'
      have hlen := hL.1
      have htk := laid_take l ls hL j hj' e (by omega)
      rw [hpl] at hlf
      have hfe : foundP l id tasks = ((scR id (fun _ => 0) (ls[j].f1.take e)).map Prod.fst, (scR id (fun _ => 0) (ls[j].f1.take e)).map Prod.snd, 0) := by
        rw [hfy]
        unfold partsP at h ⊢
        split at h
        · rename_i ho
          rw [if_pos ho, (sc_eq id _).1, (sc_eq id _).2.1]
        · simp at h
      refine ⟨ht0, ht, off ls j, off ls j + e, scR id (fun _ => 0) (ls[j].f1.take e), by omega, by omega, hlf, scR_pair id _ _ (fun _ => Int.le_refl 0), ?_, hfe, ?_⟩
      · rw [stT_scR, show off ls j + e - off ls j = e by omega, htk]
      · unfold splitP
        rw [hfe, if_pos rfl]
        simp only [thoseN_pairs]
        rfl
    · rw [foundP_none hc (by rw [hls]; exact hs)] at h
      simp at h
  · rw [foundP_bad hc] at h
    simp at h
end Go.Proofs.Ytammigfckdgljaa.PWitnessSplit
