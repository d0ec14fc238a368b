import Derived.Test.YtammigfckdgljaaPWitnessSplith3
namespace Go.Proofs.Ytammigfckdgljaa.PWitnessSplit
open Go.RowKit Go.Proofs.YtammigfckdgljaaW.PrintWords Go.Proofs.YtammigfckdgljaaW.PrintLast Go.Proofs.YtammigfckdgljaaW.PrintMore
set_option linter.unusedVariables false
set_option linter.unusedSimpArgs false

/-! ### events with their flags -/
def bump (c : Int → Int) (t : Int) : Int → Int := fun q => if q = t then c t + 1 else c q
def scR (id : Int) (c : Int → Int) : List S46 → List (S48 × Bool)
  | [] => []
  | t :: r => if t.f0 = 3 ∧ t.f3 = id then scR id (bump c t.f1) r else if t.f0 = 1 then (evOf t, c t.f1 == 0) :: scR id c r else scR id c r
theorem scR_cons (id : Int) (c : Int → Int) (t : S46) (r : List S46) : scR id c (t :: r) = if t.f0 = 3 ∧ t.f3 = id then scR id (bump c t.f1) r else if t.f0 = 1 then (evOf t, c t.f1 == 0) :: scR id c r else scR id c r := rfl
theorem sidesN_cons (at_ : List Int) (first : Bool) (t : S46) (r : List S46) (i : Nat) : sidesN at_ first (t :: r) i = if t.f0 = 1 ∧ (decide ((i : Int) < rd at_ t.f1) == first) = true then evOf t :: sidesN at_ first r (i + 1) else sidesN at_ first r (i + 1) := rfl
theorem sc_fold (id : Int) : ∀ (seg : List S46) (s : Sc), (seg.foldl (sc1 id) s).ev = s.ev ++ (scR id s.c seg).map Prod.fst ∧ (seg.foldl (sc1 id) s).bf = s.bf ++ (scR id s.c seg).map Prod.snd ∧ ∀ q, (seg.foldl (sc1 id) s).c q = s.c q + (seg.countP (cp id q) : Int)
  | [], s => by simp [scR]
  | t :: r, s => by
    obtain ⟨h1, h2, h3⟩ := sc_fold id r (sc1 id s t)
    simp only [List.foldl_cons]
    rw [h1, h2, scR_cons]
    by_cases c3 : t.f0 = 3 ∧ t.f3 = id
    · have e : sc1 id s t = ⟨bump s.c t.f1, s.ev, s.bf⟩ := by simp [sc1, c3]; rfl
      rw [if_pos c3, e]
      refine ⟨rfl, rfl, fun q => ?_⟩
      rw [e] at h3
      rw [h3 q, List.countP_cons]
      by_cases hq : q = t.f1
      · subst hq; simp [bump, cp, c3]; omega
      · simp [bump, cp, hq, Ne.symm hq]
    · rw [if_neg c3]
      by_cases c1 : t.f0 = 1
      · have e : sc1 id s t = ⟨s.c, s.ev ++ [evOf t], s.bf ++ [s.c t.f1 == 0]⟩ := by simp [sc1, c1, evOf]
        rw [if_pos c1, e]
        refine ⟨by simp, by simp, fun q => ?_⟩
        rw [e] at h3
        rw [h3 q, List.countP_cons]
        simp [cp, c1]
      · have e : sc1 id s t = s := by simp [sc1, c1, c3]
        rw [if_neg c1, e]
        refine ⟨rfl, rfl, fun q => ?_⟩
        rw [e] at h3
        rw [h3 q, List.countP_cons]
        have : cp id q t = false := by
          rw [Bool.eq_false_iff]
          intro h
          simp [cp] at h
          exact c3 ⟨h.1, h.2.1⟩
        simp [this]
theorem sc_eq (id : Int) (seg : List S46) : (sc id seg).ev = (scR id (fun _ => 0) seg).map Prod.fst ∧ (sc id seg).bf = (scR id (fun _ => 0) seg).map Prod.snd ∧ ∀ q, (sc id seg).c q = (seg.countP (cp id q) : Int) := by
  obtain ⟨h1, h2, h3⟩ := sc_fold id seg ⟨fun _ => 0, [], []⟩
  unfold sc
  exact ⟨by simpa using h1, by simpa using h2, fun q => by simpa using h3 q⟩
theorem pl_count (p : S46 → Bool) : ∀ seg : List S46, match pl p seg with
    | none => seg.countP p = 0
    | some j => j < seg.length ∧ (seg.take j).countP p = 0 ∧ seg.countP p = 1 + (seg.drop (j + 1)).countP p
  | [] => by simp [pl]
  | t :: r => by
    have ih := pl_count p r
    unfold pl
    by_cases h : p t = true
    · rw [if_pos h]; simp [h]; omega
    · rw [if_neg h]
      cases hp : pl p r with
      | none => rw [hp] at ih; simpa [h] using ih
      | some j =>
        rw [hp] at ih
        simp only [Option.map_some, List.length_cons, List.take_succ_cons, List.drop_succ_cons]
        refine ⟨by omega, ?_, ?_⟩
        · rw [List.countP_cons_of_neg (by simpa using h)]; exact ih.2.1
        · rw [List.countP_cons_of_neg (by simpa using h)]; exact ih.2.2
theorem any_count (p : S46 → Bool) (l : List S46) : l.any p = true ↔ 0 < l.countP p := by
  rw [List.countP_pos_iff, List.any_eq_true]
theorem one_count (p : S46 → Bool) (seg : List S46) : match one p seg with
    | none => seg.countP p ≠ 1
    | some j => seg.countP p = 1 ∧ j < seg.length ∧ (seg.take j).countP p = 0 ∧ (seg.drop (j + 1)).countP p = 0 := by
  have := pl_count p seg
  unfold one
  cases hp : pl p seg with
  | none => rw [hp] at this; simp only at this ⊢; omega
  | some j =>
    rw [hp] at this
    simp only at this ⊢
    by_cases h : (seg.drop (j + 1)).any p = true
    · rw [if_pos h]
      have := (any_count p _).1 h
      simp only
      omega
    · rw [if_neg h]
      have : ¬ 0 < (seg.drop (j + 1)).countP p := fun h2 => h ((any_count p _).2 h2)
      simp only
      exact ⟨by omega, by omega, by omega, by omega⟩
/-- An entry that is no copy stands ahead of the one copy, if no copy stands ahead of it. -/
theorem ahead (p : S46 → Bool) (pre r : List S46) (t : S46) (hp : p t = false) (j : Nat) (h : one p (pre ++ t :: r) = some j) : pre.length < j ↔ pre.countP p = 0 := by
  have := one_count p (pre ++ t :: r)
  rw [h] at this
  obtain ⟨h1, h2, h3, h4⟩ := this
  constructor
  · intro hlt
    have e : (pre ++ t :: r).take j = pre ++ (t :: r).take (j - pre.length) := by
      rw [List.take_append, List.take_of_length_le (by omega)]
    rw [e, List.countP_append] at h3
    omega
  · intro h0
    rcases Nat.lt_or_ge pre.length j with hlt | hge
    · exact hlt
    · exfalso
      rcases Nat.eq_or_lt_of_le hge with he | hlt
      · subst he
        have e : (pre ++ t :: r).drop (pre.length + 1) = r := by simp
        rw [e] at h4
        rw [List.countP_append, List.countP_cons, hp, h0, h4] at h1
        simp at h1
      · have e : (pre ++ t :: r).drop (j + 1) = pre.drop (j + 1) ++ t :: r := by rw [List.drop_append_of_le_length (by omega)]
        rw [e, List.countP_append] at h4
        rw [List.countP_append, h0] at h1
        omega
theorem ones_spec (id : Int) (seg : List S46) (fr : Nat) : ∀ (d t : Nat), match ones id seg fr t d with
    | none => ∃ q : Nat, t ≤ q ∧ q < t + d ∧ seg.countP (cp id q) ≠ 1
    | some at_ => at_.length = d ∧ ∀ q : Nat, t ≤ q → q < t + d → ∃ j, one (cp id q) seg = some j ∧ at_[q - t]? = some ((fr + j : Nat) : Int)
  | 0, t => by simp [ones]
  | d + 1, t => by
    have ih := ones_spec id seg fr d (t + 1)
    have h1 := one_count (cp id t) seg
    unfold ones
    cases ho : one (cp id t) seg with
    | none => rw [ho] at h1; exact ⟨t, Nat.le_refl _, by omega, h1⟩
    | some j =>
      simp only
      cases hn : ones id seg fr (t + 1) d with
      | none =>
        rw [hn] at ih
        obtain ⟨q, h2, h3, h4⟩ := ih
        exact ⟨q, by omega, by omega, h4⟩
      | some at_ =>
        rw [hn] at ih
        obtain ⟨h2, h3⟩ := ih
        refine ⟨by simp [h2], fun q hq1 hq2 => ?_⟩
        rcases Nat.eq_or_lt_of_le hq1 with he | hlt
        · subst he; exact ⟨j, ho, by simp⟩
        · obtain ⟨j', h5, h6⟩ := h3 q (by omega) (by omega)
          exact ⟨j', h5, by rw [show q - t = (q - (t + 1)) + 1 by omega, List.getElem?_cons_succ]; exact h6⟩
theorem oncs_count (id tasks : Int) (seg : List S46) : oncs (sc id seg).c tasks = true ↔ ∀ q : Nat, (q : Int) < tasks → seg.countP (cp id q) = 1 := by
  constructor
  · intro h q hq
    unfold oncs at h
    rw [List.all_eq_true] at h
    have := h q (List.mem_range.2 (by omega))
    rw [(sc_eq id seg).2.2 q] at this
    simp at this
    omega
  · intro h
    exact oncs_yes _ _ (fun q hq => by rw [(sc_eq id seg).2.2 q, h q hq]; rfl)
theorem sides_scR (id : Int) (at_ : List Int) (first : Bool) (fr : Nat) (tasks : Nat) (seg : List S46) (hat : ∀ q : Nat, q < tasks → ∃ j, one (cp id q) seg = some j ∧ at_[q]? = some ((fr + j : Nat) : Int)) : ∀ (r pre : List S46), pre ++ r = seg → (∀ t ∈ r, 0 ≤ t.f1 ∧ t.f1 < tasks) →
    sidesN at_ first r (fr + pre.length) = ((scR id (fun q => (pre.countP (cp id q) : Int)) r).filter fun x => x.2 == first).map Prod.fst
  | [], pre, h1, h2 => by simp [sidesN, scR]
  | t :: r, pre, h1, h2 => by
    have ho := h2 t List.mem_cons_self
    have ih := sides_scR id at_ first fr tasks seg hat r (pre ++ [t]) (by simpa using h1) (fun x hx => h2 x (List.mem_cons_of_mem _ hx))
    rw [show fr + (pre ++ [t]).length = fr + pre.length + 1 by simp; omega] at ih
    rw [sidesN_cons, scR_cons, ih]
    by_cases c3 : t.f0 = 3 ∧ t.f3 = id
    · rw [if_pos c3, if_neg (by intro h; omega)]
      congr 3
      funext q
      rw [List.countP_append, List.countP_singleton]
      unfold bump
      by_cases hq : q = t.f1
      · subst hq; simp [cp, c3]
      · simp [cp, hq, Ne.symm hq]
    · rw [if_neg c3]
      have hnc : ∀ q, cp id q t = false := by
        intro q
        rw [Bool.eq_false_iff]
        intro h
        simp [cp] at h
        exact c3 ⟨h.1, h.2.1⟩
      have hc : (fun q => ((pre ++ [t]).countP (cp id q) : Int)) = fun q => (pre.countP (cp id q) : Int) := by
        funext q
        rw [List.countP_append, List.countP_singleton, hnc q]
        simp
      rw [hc]
      by_cases c1 : t.f0 = 1
      · rw [if_pos c1]
        obtain ⟨q, hq⟩ : ∃ q : Nat, t.f1 = q := ⟨t.f1.toNat, by omega⟩
        obtain ⟨j, hj1, hj2⟩ := hat q (by omega)
        have hrd : rd at_ t.f1 = ((fr + j : Nat) : Int) := by
          rw [hq]
          simp [rd, List.getD_eq_getElem?_getD, hj2]
        have ha := ahead (cp id q) pre r t (hnc q) j (by rw [h1]; exact hj1)
        have hb : decide (((fr + pre.length : Nat) : Int) < rd at_ t.f1) = ((pre.countP (cp id t.f1) : Int) == 0) := by
          rw [hrd, hq, Bool.eq_iff_iff]
          simp only [decide_eq_true_eq, beq_iff_eq]
          constructor
          · intro h; have := ha.1 (by omega); omega
          · intro h; have := ha.2 (by omega); omega
        rw [hb]
        by_cases hf : (((pre.countP (cp id t.f1) : Int) == 0) == first) = true
        · rw [if_pos ⟨c1, hf⟩]; simp [hf]
        · rw [if_neg (fun h => hf h.2)]; simp [hf]
      · rw [if_neg c1, if_neg (fun h => c1 h.1)]
/-! ### Split -/
def thoseN (want : Bool) : List S48 → List Bool → List S48
  | e :: es, b :: bs => if (b == want) = true then e :: thoseN want es bs else thoseN want es bs
  | _, _ => []
theorem thoseN_pairs (want : Bool) : ∀ L : List (S48 × Bool), thoseN want (L.map Prod.fst) (L.map Prod.snd) = (L.filter fun x => x.2 == want).map Prod.fst
  | [] => rfl
  | (e, b) :: r => by
    simp only [List.map_cons, thoseN]
    rw [thoseN_pairs want r]
    by_cases h : (b == want) = true
    · rw [if_pos h]; simp [h]
    · rw [if_neg h]; simp [h]
theorem those_l0 (es : List S48) (bs : List Bool) (want : Bool) (hl : es.length ≤ 4398046510976) (hb : bs.length = es.length) (d : Nat) : ∀ (k i : Nat) (acc : List S48), i + d = es.length → acc.length ≤ i → d < k →
    witness_those.l0 k bs want acc es (es.length : Int) (i : Int) = some (acc ++ thoseN want (es.drop i) (bs.drop i)) := by
  induction d with
  | zero =>
    intro k i acc hi ha hk
    obtain ⟨k, rfl⟩ : ∃ m, k = m + 1 := ⟨k - 1, by omega⟩
    rw [witness_those.l0, if_neg (by omega), List.drop_eq_nil_of_le (show es.length ≤ i by omega)]
    simp [thoseN]
  | succ d ih =>
    intro k i acc hi ha hk
    obtain ⟨k, rfl⟩ : ∃ m, k = m + 1 := ⟨k - 1, by omega⟩
    have h1 : i < es.length := by omega
    have h2 : i < bs.length := by omega
    have hw : wrap64 ((i : Int) + 1) = ((i + 1 : Nat) : Int) := by rw [wrap_in (by omega) (by omega)]; omega
    have e1 : rd_T48 es (i : Int) = es[i] := by simp [rd_T48, List.getD_eq_getElem?_getD, List.getElem?_eq_getElem h1]
    have e2 : rdOf false bs (i : Int) = bs[i] := by simp [rdOf, List.getD_eq_getElem?_getD, List.getElem?_eq_getElem h2]
    rw [witness_those.l0, if_pos (by omega), if_pos (by omega), if_pos (by omega), if_pos (by omega), e1, e2, List.drop_eq_getElem_cons h1, List.drop_eq_getElem_cons h2, hw]
    simp only [thoseN]
    by_cases h : (bs[i] == want) = true
    · rw [if_pos h, if_pos (by omega), ih k (i + 1) _ (by omega) (by simp; omega) (by omega), if_pos h]
      simp
    · rw [if_neg h, ih k (i + 1) _ (by omega) (by omega) (by omega), if_neg h]
theorem those_f (es : List S48) (bs : List Bool) (want : Bool) (hl : es.length ≤ 4398046510976) (hb : bs.length = es.length) (k : Nat) (hk : es.length < k) : witness_those.f k es bs want = some (thoseN want es bs) := by
  unfold witness_those.f
  rw [show (0 : Int) = ((0 : Nat) : Int) from rfl, those_l0 es bs want hl hb es.length k 0 [] (by omega) (by simp) hk]
  rfl
/-- what the call found tells -/
def foundP (l : List S46) (id tasks : Int) : List S48 × List Bool × Int :=
  if can l tasks = true then
    match seekN id (cutL l 0 []) (cutL l 0 []).length with
    | .negSucc _ => ([], [], 180)
    | .ofNat j => partsP id tasks (((cutL l 0 []).getD j z72).f1.take ((fst id ((cutL l 0 []).getD j z72).f1).getD 0))
  else ([], [], 181)
def splitP (l : List S46) (id tasks : Int) : List S48 × List S48 × Int :=
  if (foundP l id tasks).2.2 = 0 then (thoseN true (foundP l id tasks).1 (foundP l id tasks).2.1, thoseN false (foundP l id tasks).1 (foundP l id tasks).2.1, 0) else ([], [], (foundP l id tasks).2.2)
theorem seekN_spec (id : Int) (ls : List S72) : ∀ n, n ≤ ls.length → (∃ j, j < n ∧ seekN id ls n = (j : Int) ∧ ∃ e, fst id (ls.getD j z72).f1 = some e) ∨ seekN id ls n = -1
  | 0, _ => .inr rfl
  | n + 1, h => by
    unfold seekN
    by_cases hs : (fst id (ls.getD n z72).f1).isSome = true
    · rw [if_pos hs]
      exact .inl ⟨n, by omega, rfl, Option.isSome_iff_exists.1 hs⟩
    · rw [if_neg hs]
      rcases seekN_spec id ls n (by omega) with ⟨j, h1, h2, h3⟩ | h1
      · exact .inl ⟨j, by omega, h2, h3⟩
      · exact .inr h1
theorem laid_take (l : List S46) (ls : List S72) (hL : Laid l ls) (n : Nat) (hn : n < ls.length) (e : Nat) (he : e ≤ ls[n].f1.length) : (l.drop (off ls n)).take e = ls[n].f1.take e := by
  apply List.ext_getElem?
  intro q
  rw [List.getElem?_take, List.getElem?_take, List.getElem?_drop]
  by_cases hq : q < e
  · rw [if_pos hq, if_pos hq, ((hL.2 n hn).1 q (by omega)).1, List.getElem?_eq_getElem (by omega)]
  · rw [if_neg hq, if_neg hq]
theorem can_all {l : List S46} {tasks : Int} (h : can l tasks = true) : 1 ≤ tasks ∧ tasks ≤ 12 ∧ ∀ t ∈ l, okP t tasks := by
  unfold can at h
  simp only [Bool.and_eq_true, decide_eq_true_eq, List.all_eq_true] at h
  exact ⟨h.1.1, h.1.2, h.2⟩
theorem laid_l (l : List S46) : Laid l (cutL l 0 []) := by
  have := (laid_cut l 0 [] (by simp)).1
  simpa using this
theorem foundP_yes {l : List S46} {id tasks : Int} (hc : can l tasks = true) {ls : List S72} (hls : cutL l 0 [] = ls) {j e : Nat} (hj : j < ls.length) (hs : seekN id ls ls.length = (j : Int)) (he : fst id ls[j].f1 = some e) : foundP l id tasks = partsP id tasks (ls[j].f1.take e) := by
  unfold foundP
  have hz : ls.getD j z72 = ls[j] := by simp [List.getD_eq_getElem?_getD, List.getElem?_eq_getElem hj]
  rw [if_pos hc, hls, hs]
  show partsP id tasks ((ls.getD j z72).f1.take ((fst id (ls.getD j z72).f1).getD 0)) = _
  rw [hz, he]
  rfl
theorem foundP_none {l : List S46} {id tasks : Int} (hc : can l tasks = true) (hs : seekN id (cutL l 0 []) (cutL l 0 []).length = -1) : foundP l id tasks = ([], [], 180) := by
  unfold foundP
  rw [if_pos hc, hs]
  rfl
theorem foundP_bad {l : List S46} {id tasks : Int} (hc : ¬ can l tasks = true) : foundP l id tasks = ([], [], 181) := by
  unfold foundP
  rw [if_neg hc]
theorem refSplit_f (l : List S46) (id tasks : Int) (hl : l.length ≤ 4398046510976) (k : Nat) (hk : 4 * l.length + 40 ≤ k) : eddyref18_Split.f k l id tasks = some (splitP l id tasks) := by
  unfold eddyref18_Split.f splitP
  rw [can_f l tasks (by omega) k (by omega), Option.bind_some]
  by_cases hc : can l tasks = true
  · rw [if_pos hc]
    obtain ⟨ht1, ht2, hok⟩ := can_all hc
    have hL := laid_l l
    obtain ⟨ls, hls⟩ : ∃ ls, cutL l 0 [] = ls := ⟨_, rfl⟩
    rw [hls] at hL
    rw [life_f l ls id hL hl ls.length _ (Nat.le_refl _) (by have := hL.1; omega) (by omega) k (by have := hL.1; omega), Option.bind_some]
    unfold place
    rcases seekN_spec id ls ls.length (Nat.le_refl _) with ⟨j, hj, hs, e, he⟩ | hs
    · rw [hs]
      have hz : ls.getD j z72 = ls[j] := by simp [List.getD_eq_getElem?_getD, List.getElem?_eq_getElem hj]
      have hel := fst_lt id _ e he
      rw [hz] at he hel
      show (if ((off ls j : Nat) : Int) < 0 then _ else (eddyref18_copies.f k l ((off ls j : Nat) : Int) ((off ls j + (fst id (ls.getD j z72).f1).getD 0 : Nat) : Int) id tasks).bind _) = _
      have hmono := off_mono ls ls.length (j + 1) hj (Nat.le_refl _)
      have hsucc := off_succ ls j hj
      have hlen := hL.1
      rw [foundP_yes hc hls hj hs he, if_neg (by omega), hz, he, Option.getD_some]
      have htk := laid_take l ls hL j hj e (by omega)
      have hcf : eddyref18_copies.f k l ((off ls j : Nat) : Int) ((off ls j + e : Nat) : Int) id tasks = some (match ones id (ls[j].f1.take e) (off ls j) 0 tasks.toNat with | none => ([], false) | some at_ => (at_, true)) := by
        unfold eddyref18_copies.f
        rw [show (0 : Int) = ((0 : Nat) : Int) from rfl, copies_l0 l id tasks hl (off ls j) (off ls j + e) (by omega) (by omega) ht2 tasks.toNat k 0 [] (by omega) (by simp) (by omega), show off ls j + e - off ls j = e by omega, htk]
        cases ones id (ls[j].f1.take e) (off ls j) 0 tasks.toNat <;> rfl
      rw [hcf, Option.bind_some]
      have hon := ones_spec id (ls[j].f1.take e) (off ls j) tasks.toNat 0
      unfold partsP
      cases ho : ones id (ls[j].f1.take e) (off ls j) 0 tasks.toNat with
      | none =>
        rw [ho] at hon
        obtain ⟨q, _, hq1, hq2⟩ := hon
        have : ¬ oncs (sc id (ls[j].f1.take e)).c tasks = true := fun h => hq2 ((oncs_count id tasks _).1 h q (by omega))
        simp [this]
      | some at_ =>
        rw [ho] at hon
        obtain ⟨hal, hat⟩ := hon
        have hon2 : oncs (sc id (ls[j].f1.take e)).c tasks = true := (oncs_count id tasks _).2 (fun q hq => by
          obtain ⟨j', h1, h2⟩ := hat q (by omega) (by omega)
          have := one_count (cp id q) (ls[j].f1.take e)
          rw [h1] at this
          exact this.1)
        have hokl : ∀ t ∈ l, 0 ≤ t.f1 ∧ t.f1 < at_.length := fun t ht => by
          have := hok t ht
          unfold okP at this
          omega
        have hseg : ∀ t ∈ ls[j].f1.take e, 0 ≤ t.f1 ∧ t.f1 < tasks.toNat := fun t ht => by
          rw [← htk] at ht
          have := hok t (List.mem_of_mem_drop (List.mem_of_mem_take ht))
          unfold okP at this
          omega
        have hsd : ∀ first, eddyref18_sides.f k l ((off ls j : Nat) : Int) ((off ls j + e : Nat) : Int) at_ first = some (((scR id (fun _ => 0) (ls[j].f1.take e)).filter fun x => x.2 == first).map Prod.fst) := by
          intro first
          rw [sides_f l hl (off ls j) (off ls j + e) (by omega) (by omega) at_ first hokl k (by omega), show off ls j + e - off ls j = e by omega, htk]
          have := sides_scR id at_ first (off ls j) tasks.toNat (ls[j].f1.take e) (fun q hq => by
            obtain ⟨j', h1, h2⟩ := hat q (by omega) (by omega)
            exact ⟨j', h1, by simpa using h2⟩) (ls[j].f1.take e) [] rfl hseg
          simp at this
          rw [this]
        rw [if_pos hon2]
        simp only [if_true, hz, he, Option.getD_some]
        rw [hsd true, hsd false, (sc_eq id _).1, (sc_eq id _).2.1, thoseN_pairs, thoseN_pairs]
        rfl
    · rw [foundP_none hc (by rw [hls]; exact hs), hs]
      rfl
  · rw [foundP_bad hc, if_neg hc]
    rfl
end Go.Proofs.Ytammigfckdgljaa.PWitnessSplit
