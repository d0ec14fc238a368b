import Derived.Test.YtammigfckdgljaaPWitnessSplith2
namespace Go.Proofs.Ytammigfckdgljaa.PWitnessSplit
open Go.RowKit Go.Proofs.YtammigfckdgljaaW.PrintWords Go.Proofs.YtammigfckdgljaaW.PrintLast Go.Proofs.YtammigfckdgljaaW.PrintMore
set_option linter.unusedVariables false
set_option linter.unusedSimpArgs false

/-- The scan of one life, from its end down: q entries are left. -/
theorem scan_life (l : List S46) (ls : List S72) (id : Int) (hL : Laid l ls) (hl : l.length ≤ 4398046510976) (n : Nat) (hn : n < ls.length) : ∀ (q k : Nat) (E : Int), q ≤ ls[n].f1.length →
    eddyref18_lifeOf.l0 (k + 2 * q) l id E (((off ls n + q : Nat) : Int) - 1) = eddyref18_lifeOf.l0 k l id (match fst id (ls[n].f1.take q) with | some e => ((off ls n + e : Nat) : Int) | none => E) ((off ls n : Int) - 1)
  | 0, k, E, _ => by simp [fst]
  | q + 1, k, E, hq => by
    obtain ⟨hi, hu⟩ := (hL.2 n hn).1 q (by omega)
    have hlt : off ls n + q < l.length := (List.getElem?_eq_some_iff.1 hi).1
    have hr : rd_T46 l ((off ls n + q : Nat) : Int) = ls[n].f1[q] := by
      rw [rd46 l _ hlt]
      exact (List.getElem?_eq_some_iff.1 hi).2
    have hk : k + 2 * (q + 1) = (k + 2 * q + 1) + 1 := by omega
    have hx : ((off ls n + (q + 1) : Nat) : Int) - 1 = ((off ls n + q : Nat) : Int) := by omega
    have hu' : ¬ ls[n].f1[q].f0 = 11 := by
      intro h
      simp [up, h] at hu
    have hf : fst id (ls[n].f1.take (q + 1)) = match fst id (ls[n].f1.take q) with | some e => some e | none => if ready id ls[n].f1[q] = true then some q else none := by
      rw [List.take_succ_eq_append_getElem (by omega), fst_append]
      cases fst id (ls[n].f1.take q) with
      | some e => rfl
      | none =>
        simp only [fst]
        split
        · simp; omega
        · simp
    rw [hk, hx]
    rw [eddyref18_lifeOf.l0, if_pos (by omega), if_pos (by omega), if_pos (by omega), hr]
    have hw : wrap64 (((off ls n + q : Nat) : Int) - 1) = ((off ls n + q : Nat) : Int) - 1 := wrap_in (by omega) (by omega)
    have step : ∀ (b : Bool), b = ready id ls[n].f1[q] → eddyref18_lifeOf.j1 (k + 2 * q + 1) l id E ((off ls n + q : Nat) : Int) b = eddyref18_lifeOf.l0 k l id (match fst id (ls[n].f1.take (q + 1)) with | some e => ((off ls n + e : Nat) : Int) | none => E) ((off ls n : Int) - 1) := by
      intro b hb
      rw [eddyref18_lifeOf.j1, hf]
      cases b with
      | true =>
        rw [if_pos rfl, if_pos (by omega), if_pos (by omega), hr, if_neg hu', hw, scan_life l ls id hL hl n hn q k _ (by omega)]
        cases fst id (ls[n].f1.take q) with
        | some e => rfl
        | none => simp only; rw [if_pos hb.symm]
      | false =>
        rw [if_neg (by simp), if_pos (by omega), if_pos (by omega), hr, if_neg hu', hw, scan_life l ls id hL hl n hn q k _ (by omega)]
        cases fst id (ls[n].f1.take q) with
        | some e => rfl
        | none => simp only; rw [if_neg (by rw [← hb]; simp)]
    by_cases h6 : ls[n].f1[q].f0 = 6
    · rw [if_pos h6]
      exact step _ (by rw [Bool.eq_iff_iff]; simp [ready, h6])
    · rw [if_neg h6]
      exact step _ (by rw [Bool.eq_iff_iff]; simp [ready, h6])
/-- where the reference finds the last of the first n lives that has a shot of id -/
def place (id : Int) (ls : List S72) (n : Nat) : Int × Int :=
  match seekN id ls n with
  | .ofNat j => ((off ls j : Int), ((off ls j + (fst id (ls.getD j z72).f1).getD 0 : Nat) : Int))
  | .negSucc _ => (-1, -1)
theorem life_l0 (l : List S46) (ls : List S72) (id : Int) (hL : Laid l ls) (hl : l.length ≤ 4398046510976) : ∀ (n k : Nat), n ≤ ls.length → 2 * off ls n + 4 ≤ k →
    eddyref18_lifeOf.l0 k l id (-1) ((off ls n : Int) - 2) = some (place id ls n)
  | 0, k, _, hk => by
    obtain ⟨k, rfl⟩ : ∃ m, k = m + 1 := ⟨k - 1, by omega⟩
    rw [eddyref18_lifeOf.l0, if_neg (by simp [off]), if_pos (by omega)]
    rfl
  | n + 1, k, hn, hk => by
    have hlen := hL.1
    have hmono := off_mono ls ls.length (n + 1) hn (Nat.le_refl _)
    have hs := off_succ ls n (by omega)
    have hz : ls.getD n z72 = ls[n] := by simp [List.getD_eq_getElem?_getD, List.getElem?_eq_getElem (show n < ls.length by omega)]
    have h1 : ((off ls (n + 1) : Int) - 2) = ((off ls n + ls[n].f1.length : Nat) : Int) - 1 := by omega
    obtain ⟨k', rfl⟩ : ∃ m, k = m + 2 * ls[n].f1.length := ⟨k - 2 * ls[n].f1.length, by omega⟩
    rw [h1, scan_life l ls id hL hl n (by omega) _ k' _ (Nat.le_refl _), List.take_length]
    unfold place
    rw [seekN, hz]
    rcases Nat.eq_zero_or_pos n with h0 | h0
    · subst h0
      obtain ⟨k, rfl⟩ : ∃ m, k' = m + 1 := ⟨k' - 1, by omega⟩
      rw [eddyref18_lifeOf.l0, if_neg (by simp [off])]
      cases hf : fst id ls[0].f1 with
      | none => simp [seekN]; rfl
      | some e =>
        simp only [Option.isSome_some, if_true]
        rw [if_neg (by omega)]
        show some ((0 : Int), ((off ls 0 + e : Nat) : Int)) = some (((off ls 0 : Nat) : Int), ((off ls 0 + (fst id (ls.getD 0 z72).f1).getD 0 : Nat) : Int))
        rw [hz, hf]
        simp [off]
    · have hnb := (hL.2 n (by omega)).2
      rcases hnb with hnb | ⟨u, hu1, hu2, _⟩
      · omega
      have hpos : 0 < off ls n := by
        have := off_pos ls (n - 1) (by omega)
        rw [show n - 1 + 1 = n by omega] at this
        omega
      have hlt : off ls n - 1 < l.length := (List.getElem?_eq_some_iff.1 hu1).1
      have hx : ((off ls n : Int) - 1) = ((off ls n - 1 : Nat) : Int) := by omega
      have hr : rd_T46 l ((off ls n - 1 : Nat) : Int) = u := by
        rw [rd46 l _ hlt]
        exact (List.getElem?_eq_some_iff.1 hu1).2
      have hu11 : u.f0 = 11 := by simpa [up] using hu2
      obtain ⟨k, rfl⟩ : ∃ m, k' = m + 2 := ⟨k' - 2, by omega⟩
      rw [hx, eddyref18_lifeOf.l0, if_pos (by omega), if_pos (by omega), if_pos (by omega), hr, if_neg (by omega), eddyref18_lifeOf.j1, if_neg (by simp), if_pos (by omega), if_pos (by omega), hr, if_pos hu11]
      cases hf : fst id ls[n].f1 with
      | some e =>
        simp only [Option.isSome_some, if_true]
        rw [if_pos (by omega), wrap_in (by omega) (by omega), show ((off ls n - 1 : Nat) : Int) + 1 = ((off ls n : Nat) : Int) by omega]
        show _ = some (((off ls n : Nat) : Int), ((off ls n + (fst id (ls.getD n z72).f1).getD 0 : Nat) : Int))
        rw [hz, hf]
        rfl
      | none =>
        simp only
        rw [if_neg (by omega), wrap_in (by omega) (by omega), show ((off ls n - 1 : Nat) : Int) - 1 = (off ls n : Int) - 2 by omega, life_l0 l ls id hL hl n _ (by omega) (by omega)]
        unfold place
        simp
theorem life_f (l : List S46) (ls : List S72) (id : Int) (hL : Laid l ls) (hl : l.length ≤ 4398046510976) (n : Nat) (m : Int) (hn : n ≤ ls.length) (hm : m = (off ls n : Int) - 1) (hm0 : -9223372036854775808 ≤ m - 1) (k : Nat) (hk : 2 * off ls n + 4 ≤ k) : eddyref18_lifeOf.f k l m id = some (place id ls n) := by
  have hmono := off_mono ls ls.length n hn (Nat.le_refl _)
  have hlen := hL.1
  unfold eddyref18_lifeOf.f
  rw [wrap_in (by omega) (by omega), hm, show (off ls n : Int) - 1 - 1 = (off ls n : Int) - 2 by omega, life_l0 l ls id hL hl n k hn hk]

/-! ### copies -/
def cp (id task : Int) (t : S46) : Bool := decide (t.f0 = 3 ∧ t.f3 = id ∧ t.f1 = task)
/-- the place of the one entry that p tells, or -1 -/
def pl (p : S46 → Bool) : List S46 → Option Nat
  | [] => none
  | t :: r => if p t = true then some 0 else (pl p r).map (· + 1)
theorem copyAt_on (l : List S46) (id task : Int) (hl : l.length ≤ 4398046510976) (en : Nat) (he : en ≤ l.length) (d : Nat) : ∀ (k i : Nat) (at_ : Nat), i + d = en → 2 * d < k →
    eddyref18_copyAt.l0 k l (en : Int) id task (at_ : Int) (i : Int) = some (if ((l.drop i).take d).any (cp id task) = true then -1 else (at_ : Int)) := by
  induction d with
  | zero =>
    intro k i a hi hk
    obtain ⟨k, rfl⟩ : ∃ m, k = m + 1 := ⟨k - 1, by omega⟩
    rw [eddyref18_copyAt.l0, if_neg (by omega)]
    simp
  | succ d ih =>
    intro k i a hi hk
    obtain ⟨k, rfl⟩ : ∃ m, k = m + 2 := ⟨k - 2, by omega⟩
    have hlt : i < l.length := by omega
    rw [List.drop_eq_getElem_cons hlt, List.take_succ_cons, List.any_cons]
    rw [eddyref18_copyAt.l0, if_pos (by omega), if_pos (by omega), if_pos (by omega), rd46 l i hlt]
    have step : ∀ b : Bool, b = cp id task l[i] → eddyref18_copyAt.j1 (k + 1) l (en : Int) id task (a : Int) (i : Int) b = some (if (cp id task l[i] || ((l.drop (i + 1)).take d).any (cp id task)) = true then -1 else (a : Int)) := by
      intro b hb
      rw [← hb, eddyref18_copyAt.j1, wrap_in (by omega) (by omega), show ((i : Int) + 1) = ((i + 1 : Nat) : Int) by omega]
      cases b with
      | true => rw [if_pos rfl, if_pos (by omega)]; simp
      | false => rw [if_neg (by simp), ih k (i + 1) a (by omega) (by omega)]; simp
    by_cases h3 : l[i].f0 = 3
    · rw [if_pos h3]
      by_cases h4 : l[i].f3 = id
      · rw [if_pos h4]; exact step _ (by rw [Bool.eq_iff_iff]; simp [cp, h3, h4])
      · rw [if_neg h4]; exact step _ (by simp [cp, h4])
    · rw [if_neg h3]; exact step _ (by simp [cp, h3])
def one (p : S46 → Bool) (seg : List S46) : Option Nat :=
  match pl p seg with
  | none => none
  | some j => if (seg.drop (j + 1)).any p = true then none else some j
theorem copyAt_l0 (l : List S46) (id task : Int) (hl : l.length ≤ 4398046510976) (en : Nat) (he : en ≤ l.length) (d : Nat) : ∀ (k i : Nat), i + d = en → 2 * d < k →
    eddyref18_copyAt.l0 k l (en : Int) id task (-1) (i : Int) = some (match one (cp id task) ((l.drop i).take d) with | none => -1 | some j => ((i + j : Nat) : Int)) := by
  induction d with
  | zero =>
    intro k i hi hk
    obtain ⟨k, rfl⟩ : ∃ m, k = m + 1 := ⟨k - 1, by omega⟩
    rw [eddyref18_copyAt.l0, if_neg (by omega)]
    simp [one, pl]
  | succ d ih =>
    intro k i hi hk
    obtain ⟨k, rfl⟩ : ∃ m, k = m + 2 := ⟨k - 2, by omega⟩
    have hlt : i < l.length := by omega
    rw [List.drop_eq_getElem_cons hlt, List.take_succ_cons]
    rw [eddyref18_copyAt.l0, if_pos (by omega), if_pos (by omega), if_pos (by omega), rd46 l i hlt]
    have step : ∀ b : Bool, b = cp id task l[i] → eddyref18_copyAt.j1 (k + 1) l (en : Int) id task (-1) (i : Int) b = some (match one (cp id task) (l[i] :: (l.drop (i + 1)).take d) with | none => -1 | some j => ((i + j : Nat) : Int)) := by
      intro b hb
      rw [eddyref18_copyAt.j1, wrap_in (by omega) (by omega), show ((i : Int) + 1) = ((i + 1 : Nat) : Int) by omega]
      unfold one pl
      cases b with
      | true =>
        rw [if_pos rfl, if_neg (by omega), copyAt_on l id task hl en he d k (i + 1) i (by omega) (by omega), if_pos hb.symm]
        simp only [List.drop_succ_cons, List.drop_zero]
        split <;> simp_all
      | false =>
        rw [if_neg (by simp), ih k (i + 1) (by omega) (by omega), if_neg (by rw [← hb]; simp)]
        unfold one
        cases pl (cp id task) ((l.drop (i + 1)).take d) with
        | none => rfl
        | some j =>
          simp only [Option.map_some, List.drop_succ_cons]
          by_cases hq : (List.drop (j + 1) (List.take d (List.drop (i + 1) l))).any (cp id task) = true
          · rw [if_pos hq, if_pos hq]
          · rw [if_neg hq, if_neg hq]
            exact congrArg some (show (((i + 1) + j : Nat) : Int) = ((i + (j + 1) : Nat) : Int) by omega)
    by_cases h3 : l[i].f0 = 3
    · rw [if_pos h3]
      by_cases h4 : l[i].f3 = id
      · rw [if_pos h4]; exact step _ (by rw [Bool.eq_iff_iff]; simp [cp, h3, h4])
      · rw [if_neg h4]; exact step _ (by simp [cp, h4])
    · rw [if_neg h3]; exact step _ (by simp [cp, h3])
theorem copyAt_f (l : List S46) (id task : Int) (hl : l.length ≤ 4398046510976) (fr en : Nat) (hfe : fr ≤ en) (he : en ≤ l.length) (k : Nat) (hk : 2 * l.length < k) :
    eddyref18_copyAt.f k l (fr : Int) (en : Int) id task = some (match one (cp id task) ((l.drop fr).take (en - fr)) with | none => -1 | some j => ((fr + j : Nat) : Int)) := by
  unfold eddyref18_copyAt.f
  exact copyAt_l0 l id task hl en he (en - fr) k fr (by omega) (by omega)
/-- all tasks' places from t on, if each has one -/
def ones (id : Int) (seg : List S46) (fr : Nat) : Nat → Nat → Option (List Int)
  | _, 0 => some []
  | t, d + 1 => match one (cp id t) seg with
    | none => none
    | some j => (ones id seg fr (t + 1) d).map (((fr + j : Nat) : Int) :: ·)
theorem copies_l0 (l : List S46) (id tasks : Int) (hl : l.length ≤ 4398046510976) (fr en : Nat) (hfe : fr ≤ en) (he : en ≤ l.length) (ht : tasks ≤ 12) (d : Nat) : ∀ (k t : Nat) (acc : List Int), (t : Int) + d = tasks → acc.length ≤ t → d + 2 * l.length + 1 < k →
    eddyref18_copies.l0 k l (fr : Int) (en : Int) id tasks acc (t : Int) = some (match ones id ((l.drop fr).take (en - fr)) fr t d with | none => ([], false) | some at_ => (acc ++ at_, true)) := by
  induction d with
  | zero =>
    intro k t acc h1 h2 hk
    obtain ⟨k, rfl⟩ : ∃ m, k = m + 1 := ⟨k - 1, by omega⟩
    rw [eddyref18_copies.l0, if_neg (by omega)]
    simp [ones]
  | succ d ih =>
    intro k t acc h1 h2 hk
    obtain ⟨k, rfl⟩ : ∃ m, k = m + 1 := ⟨k - 1, by omega⟩
    rw [eddyref18_copies.l0, if_pos (by omega), copyAt_f l id t hl fr en hfe he k (by omega), Option.bind_some]
    unfold ones
    cases one (cp id t) ((l.drop fr).take (en - fr)) with
    | none => simp
    | some j =>
      simp only
      rw [if_neg (by omega), if_pos (by omega), wrap_in (by omega) (by omega), show ((t : Int) + 1) = ((t + 1 : Nat) : Int) by omega, ih k (t + 1) _ (by omega) (by simp; omega) (by omega)]
      cases ones id ((l.drop fr).take (en - fr)) fr (t + 1) d with
      | none => rfl
      | some a => simp

/-! ### the two lists -/
def evOf (t : S46) : S48 := ⟨t.f1, t.f2⟩
/-- the steps of seg (which begins at place i) ahead of their task's copy, or behind it -/
def sidesN (at_ : List Int) (first : Bool) : List S46 → Nat → List S48
  | [], _ => []
  | t :: r, i => if t.f0 = 1 ∧ (decide ((i : Int) < rd at_ t.f1) == first) = true then evOf t :: sidesN at_ first r (i + 1) else sidesN at_ first r (i + 1)
theorem sides_l0 (l : List S46) (hl : l.length ≤ 4398046510976) (en : Nat) (he : en ≤ l.length) (at_ : List Int) (first : Bool) (hok : ∀ t ∈ l, 0 ≤ t.f1 ∧ t.f1 < at_.length) (d : Nat) : ∀ (k i : Nat) (acc : List S48), i + d = en → acc.length ≤ i → d < k →
    eddyref18_sides.l0 k l (en : Int) at_ first acc (i : Int) = some (acc ++ sidesN at_ first ((l.drop i).take d) i) := by
  induction d with
  | zero =>
    intro k i acc hi ha hk
    obtain ⟨k, rfl⟩ : ∃ m, k = m + 1 := ⟨k - 1, by omega⟩
    rw [eddyref18_sides.l0, if_neg (by omega)]
    simp [sidesN]
  | succ d ih =>
    intro k i acc hi ha hk
    obtain ⟨k, rfl⟩ : ∃ m, k = m + 1 := ⟨k - 1, by omega⟩
    have hlt : i < l.length := by omega
    have ho := hok _ (List.getElem_mem hlt)
    rw [List.drop_eq_getElem_cons hlt, List.take_succ_cons]
    rw [eddyref18_sides.l0, if_pos (by omega), if_pos (by omega), if_pos (by omega), rd46 l i hlt]
    unfold sidesN
    have hw : wrap64 ((i : Int) + 1) = ((i + 1 : Nat) : Int) := by rw [wrap_in (by omega) (by omega)]; omega
    by_cases h1 : l[i].f0 = 1
    · rw [if_pos h1, if_pos ho.1, if_pos ho.2]
      by_cases h2 : (decide ((i : Int) < rd at_ l[i].f1) == first) = true
      · rw [if_pos h2, if_pos (by omega), hw, ih k (i + 1) _ (by omega) (by simp; omega) (by omega), if_pos ⟨h1, h2⟩]
        simp [evOf]
      · rw [if_neg h2, hw, ih k (i + 1) _ (by omega) (by omega) (by omega), if_neg (fun h => h2 h.2)]
    · rw [if_neg h1, hw, ih k (i + 1) _ (by omega) (by omega) (by omega), if_neg (fun h => h1 h.1)]
theorem sides_f (l : List S46) (hl : l.length ≤ 4398046510976) (fr en : Nat) (hfe : fr ≤ en) (he : en ≤ l.length) (at_ : List Int) (first : Bool) (hok : ∀ t ∈ l, 0 ≤ t.f1 ∧ t.f1 < at_.length) (k : Nat) (hk : l.length < k) :
    eddyref18_sides.f k l (fr : Int) (en : Int) at_ first = some (sidesN at_ first ((l.drop fr).take (en - fr)) fr) := by
  unfold eddyref18_sides.f
  rw [sides_l0 l hl en he at_ first hok (en - fr) k fr [] (by omega) (by simp) (by omega)]
  rfl
end Go.Proofs.Ytammigfckdgljaa.PWitnessSplit
