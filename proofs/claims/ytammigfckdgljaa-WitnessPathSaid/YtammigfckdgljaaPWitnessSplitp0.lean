import Derived.Test.YtammigfckdgljaaPWitnessSplith6
import Derived.Test.YtammigfckdgljaaPWitnessSplitgPath
namespace Go.Proofs.Ytammigfckdgljaa.PWitnessSplit
open Go.RowKit Go.Maps Go.Proofs.YtammigfckdgljaaW.PrintWords Go.Proofs.YtammigfckdgljaaW.PrintLast Go.Proofs.YtammigfckdgljaaW.PrintMore
set_option linter.unusedVariables false
set_option linter.unusedSimpArgs false

/-! ### Path, plain -/
def isS (t : S46) : Bool := decide (t.f0 = 1)
def down : Nat → Int → List Int
  | 0, _ => []
  | n + 1, s => s :: down n (s - 1)
theorem down_len : ∀ (n : Nat) (s : Int), (down n s).length = n
  | 0, _ => rfl
  | n + 1, s => by simp [down, down_len n]
def placesN : List Bool → Nat → Nat → List Int
  | [], _, _ => []
  | b :: r, i, d => if b = true then down (i - d) ((i : Int) - 1) ++ placesN r (i + 1) (d + 1) else placesN r (i + 1) d
theorem placesN_cons (b : Bool) (r : List Bool) (i d : Nat) : placesN (b :: r) i d = if b = true then down (i - d) ((i : Int) - 1) ++ placesN r (i + 1) (d + 1) else placesN r (i + 1) d := rfl
def flagsN (at_ : List Int) : List S46 → Nat → List Bool
  | [], _ => []
  | t :: r, i => if t.f0 = 1 then decide ((i : Int) < rd at_ t.f1) :: flagsN at_ r (i + 1) else flagsN at_ r (i + 1)
theorem flagsN_cons (at_ : List Int) (t : S46) (r : List S46) (i : Nat) : flagsN at_ (t :: r) i = if t.f0 = 1 then decide ((i : Int) < rd at_ t.f1) :: flagsN at_ r (i + 1) else flagsN at_ r (i + 1) := rfl
theorem flags_scR (id : Int) (at_ : List Int) (fr : Nat) (tasks : Nat) (seg : List S46) (hat : ∀ q : Nat, q < tasks → ∃ j, one (cp id q) seg = some j ∧ at_[q]? = some ((fr + j : Nat) : Int)) : ∀ (r pre : List S46), pre ++ r = seg → (∀ t ∈ r, 0 ≤ t.f1 ∧ t.f1 < tasks) →
    flagsN at_ r (fr + pre.length) = (scR id (fun q => (pre.countP (cp id q) : Int)) r).map Prod.snd
  | [], pre, h1, h2 => by simp [flagsN, scR]
  | t :: r, pre, h1, h2 => by
    have ho := h2 t List.mem_cons_self
    have ih := flags_scR id at_ fr tasks seg hat r (pre ++ [t]) (by simpa using h1) (fun x hx => h2 x (List.mem_cons_of_mem _ hx))
    rw [show fr + (pre ++ [t]).length = fr + pre.length + 1 by simp; omega] at ih
    rw [flagsN_cons, scR_cons, ih]
    by_cases c3 : t.f0 = 3 ∧ t.f3 = id
    · rw [if_pos c3, if_neg (by omega)]
      congr 2
      funext q
      rw [List.countP_append, List.countP_singleton]
      unfold bump
      by_cases hq : q = t.f1
      · subst hq; simp [cp, c3]
      · simp [cp, hq, Ne.symm hq]
    · rw [if_neg c3]
      have hnc : ∀ q, cp id q t = false := by
        intro q
        rw [Bool.eq_false_iff]
        intro h
        simp [cp] at h
        exact c3 ⟨h.1, h.2.1⟩
      have hc : (fun q => ((pre ++ [t]).countP (cp id q) : Int)) = fun q => (pre.countP (cp id q) : Int) := by
        funext q
        rw [List.countP_append, List.countP_singleton, hnc q]
        simp
      rw [hc]
      by_cases c1 : t.f0 = 1
      · rw [if_pos c1, if_pos c1]
        obtain ⟨q, hq⟩ : ∃ q : Nat, t.f1 = q := ⟨t.f1.toNat, by omega⟩
        obtain ⟨j, hj1, hj2⟩ := hat q (by omega)
        have hrd : rd at_ t.f1 = ((fr + j : Nat) : Int) := by
          rw [hq]
          simp [rd, List.getD_eq_getElem?_getD, hj2]
        have ha := ahead (cp id q) pre r t (hnc q) j (by rw [h1]; exact hj1)
        have hb : decide (((fr + pre.length : Nat) : Int) < rd at_ t.f1) = ((pre.countP (cp id t.f1) : Int) == 0) := by
          rw [hrd, hq, Bool.eq_iff_iff]
          simp only [decide_eq_true_eq, beq_iff_eq]
          constructor
          · intro h; have := ha.1 (by omega); omega
          · intro h; have := ha.2 (by omega); omega
        rw [hb]
        rfl
      · rw [if_neg c1, if_neg c1]
theorem wrap_succ (n : Nat) (h : n ≤ 4611686018427387904) : wrap64 ((n : Int) + 1) = ((n + 1 : Nat) : Int) := by
  rw [wrap_in (by omega) (by omega)]
  omega
theorem path_l2 (l : List S46) (en : Int) (at_ : List Int) (n kk i : Int) : ∀ (c k : Nat) (acc : List Int) (p : Int), p = kk + c - 1 → acc.length + c < 17592186044416 → -4611686018427387904 ≤ kk → p ≤ 4611686018427387904 →
    eddyref18_Path.l2 (k + c + 1) l en at_ acc n kk i p = eddyref18_Path.l1 k l en at_ (acc ++ down c p) (wrap64 (n + 1)) (wrap64 (kk + 1)) (wrap64 (i + 1))
  | 0, k, acc, p, hp, _, _, _ => by
    rw [eddyref18_Path.l2, if_neg (by omega)]
    simp [down]
  | c + 1, k, acc, p, hp, h1, h2, h3 => by
    rw [show k + (c + 1) + 1 = (k + c + 1) + 1 by omega, eddyref18_Path.l2, if_pos (by omega), if_pos (by omega), wrap_in (by omega) (by omega), path_l2 l en at_ n kk i c k (acc ++ [p]) (p - 1) (by omega) (by simp; omega) h2 (by omega)]
    simp [down]
theorem path_l1 (l : List S46) (hl : l.length ≤ 4398046510976) (en : Nat) (he : en ≤ l.length) (at_ : List Int) (hok : ∀ t ∈ l, 0 ≤ t.f1 ∧ t.f1 < at_.length) (d : Nat) : ∀ (k i n kk : Nat) (acc : List Int), i + d = en → kk ≤ n → n + ((l.drop i).take d).countP isS ≤ 2000 → acc.length ≤ 2000 * n → 2010 * d < k →
    eddyref18_Path.l1 k l (en : Int) at_ acc (n : Int) (kk : Int) (i : Int) = some (acc ++ placesN (flagsN at_ ((l.drop i).take d) i) n kk, 0) := by
  induction d with
  | zero =>
    intro k i n kk acc hi h1 h2 h3 hk
    obtain ⟨k, rfl⟩ : ∃ m, k = m + 1 := ⟨k - 1, by omega⟩
    rw [eddyref18_Path.l1, if_neg (by omega)]
    simp [flagsN, placesN]
  | succ d ih =>
    intro k i n kk acc hi h1 h2 h3 hk
    obtain ⟨k, rfl⟩ : ∃ m, k = m + 1 := ⟨k - 1, by omega⟩
    have hlt : i < l.length := by omega
    have ho := hok _ (List.getElem_mem hlt)
    rw [List.drop_eq_getElem_cons hlt, List.take_succ_cons] at h2 ⊢
    have hi1 : (i : Int) < (en : Int) := by omega
    have hi2 : (i : Int) < (l.length : Int) := by omega
    rw [eddyref18_Path.l1, if_pos hi1, if_pos (Int.natCast_nonneg i), if_pos hi2, rd46 l i hlt, flagsN_cons]
    by_cases c1 : l[i].f0 = 1
    · rw [List.countP_cons_of_pos (show isS l[i] = true by simp [isS, c1])] at h2
      have h2' : n + 1 + ((l.drop (i + 1)).take d).countP isS ≤ 2000 := by omega
      clear h2
      rw [if_pos c1, if_pos ho.1, if_pos ho.2, if_pos c1, placesN_cons]
      by_cases hb : (i : Int) < rd at_ l[i].f1
      · have hn2 : n ≤ 2000 := by omega
        have hkk : n - kk + 1 ≤ 2001 := by omega
        obtain ⟨k', rfl⟩ : ∃ m, k = m + (n - kk) + 1 := ⟨k - (n - kk) - 1, by omega⟩
        have hk' : 2010 * d < k' := by omega
        have hacc : acc.length + (n - kk) ≤ 2000 * (n + 1) := by omega
        clear hk
        rw [if_pos hb, if_pos (by simpa using hb), wrap_in (by omega) (by omega), path_l2 l en at_ n kk i (n - kk) k' acc _ (by omega) (by omega) (by omega) (by omega), wrap_succ n (by omega), wrap_succ kk (by omega), wrap_succ i (by omega),
          ih k' (i + 1) (n + 1) (kk + 1) _ (by omega) (by omega) h2' (by rw [List.length_append, down_len]; exact hacc) hk']
        rw [List.append_assoc]
      · rw [if_neg hb, if_neg (by simpa using hb), wrap_succ n (by omega), wrap_succ i (by omega), ih k (i + 1) (n + 1) kk _ (by omega) (by omega) h2' (by omega) (by omega)]
    · rw [List.countP_cons_of_neg (show ¬ isS l[i] = true by simp [isS, c1])] at h2
      rw [if_neg c1, if_neg c1, wrap_succ i (by omega), ih k (i + 1) n kk _ (by omega) h1 h2 h3 (by omega)]
theorem path_l0 (l : List S46) (hl : l.length ≤ 4398046510976) (fr en : Nat) (hfe : fr ≤ en) (he : en ≤ l.length) (at_ : List Int) (hok : ∀ t ∈ l, 0 ≤ t.f1 ∧ t.f1 < at_.length) (d : Nat) : ∀ (k i n : Nat), i + d = en → n ≤ i → n + ((l.drop i).take d).countP isS = ((l.drop fr).take (en - fr)).countP isS → d + 1 + 2010 * (en - fr) < k →
    eddyref18_Path.l0 k l (fr : Int) (en : Int) at_ (n : Int) 0 (i : Int) = some (if ((l.drop fr).take (en - fr)).countP isS > 2000 then ([], 182) else (placesN (flagsN at_ ((l.drop fr).take (en - fr)) fr) 0 0, 0)) := by
  induction d with
  | zero =>
    intro k i n hi h1 h2 hk
    obtain ⟨k, rfl⟩ : ∃ m, k = m + 1 := ⟨k - 1, by omega⟩
    rw [eddyref18_Path.l0, if_neg (by omega)]
    simp at h2
    by_cases hc : ((l.drop fr).take (en - fr)).countP isS > 2000
    · rw [if_pos (by omega), if_pos hc]
    · rw [if_neg (by omega), if_neg hc]
      have := path_l1 l hl en he at_ hok (en - fr) k fr 0 0 [] (by omega) (Nat.le_refl _) (by omega) (by simp) (by omega)
      simpa using this
  | succ d ih =>
    intro k i n hi h1 h2 hk
    obtain ⟨k, rfl⟩ : ∃ m, k = m + 1 := ⟨k - 1, by omega⟩
    have hlt : i < l.length := by omega
    rw [List.drop_eq_getElem_cons hlt, List.take_succ_cons] at h2
    rw [eddyref18_Path.l0, if_pos (by omega), if_pos (by omega), if_pos (by omega), rd46 l i hlt]
    by_cases c1 : l[i].f0 = 1
    · rw [if_pos c1, wrap_succ n (by omega), wrap_succ i (by omega)]
      exact ih k (i + 1) (n + 1) (by omega) (by omega) (by rw [List.countP_cons_of_pos (show isS l[i] = true by simp [isS, c1])] at h2; omega) (by omega)
    · rw [if_neg c1, wrap_succ i (by omega)]
      exact ih k (i + 1) n (by omega) (by omega) (by rw [List.countP_cons_of_neg (show ¬ isS l[i] = true by simp [isS, c1])] at h2; omega) (by omega)
theorem scR_len (id : Int) : ∀ (seg : List S46) (c : Int → Int), (scR id c seg).length = seg.countP isS
  | [], c => rfl
  | t :: r, c => by
    rw [scR_cons, List.countP_cons]
    by_cases c3 : t.f0 = 3 ∧ t.f3 = id
    · rw [if_pos c3, scR_len id r]; simp [isS, c3.1]
    · rw [if_neg c3]
      by_cases c1 : t.f0 = 1
      · rw [if_pos c1]; simp [isS, c1, scR_len id r]
      · rw [if_neg c1, scR_len id r]; simp [isS, c1]
def pathP (l : List S46) (id tasks : Int) : List Int × Int :=
  if (foundP l id tasks).2.2 = 0 then (if (foundP l id tasks).1.length > 2000 then ([], 182) else (placesN (foundP l id tasks).2.1 0 0, 0)) else ([], (foundP l id tasks).2.2)
theorem refPath_f (l : List S46) (id tasks : Int) (hl : l.length ≤ 4398046510976) (k : Nat) (hk : 2020 * l.length + 40 ≤ k) : eddyref18_Path.f k l id tasks = some (pathP l id tasks) := by
  unfold eddyref18_Path.f pathP
  rw [can_f l tasks (by omega) k (by omega), Option.bind_some]
  by_cases hc : can l tasks = true
  · rw [if_pos hc]
    obtain ⟨ht1, ht2, hok⟩ := can_all hc
    have hL := laid_l l
    obtain ⟨ls, hls⟩ : ∃ ls, cutL l 0 [] = ls := ⟨_, rfl⟩
    rw [hls] at hL
    rw [life_f l ls id hL hl ls.length _ (Nat.le_refl _) (by have := hL.1; omega) (by omega) k (by have := hL.1; omega), Option.bind_some]
    unfold place
    rcases seekN_spec id ls ls.length (Nat.le_refl _) with ⟨j, hj, hs, e, he⟩ | hs
    · rw [hs]
      have hz : ls.getD j z72 = ls[j] := by simp [List.getD_eq_getElem?_getD, List.getElem?_eq_getElem hj]
      have hel := fst_lt id _ e he
      rw [hz] at he hel
      show (if ((off ls j : Nat) : Int) < 0 then _ else (eddyref18_copies.f k l ((off ls j : Nat) : Int) ((off ls j + (fst id (ls.getD j z72).f1).getD 0 : Nat) : Int) id tasks).bind _) = _
      have hmono := off_mono ls ls.length (j + 1) hj (Nat.le_refl _)
      have hsucc := off_succ ls j hj
      have hlen := hL.1
      rw [foundP_yes hc hls hj hs he, if_neg (by omega), hz, he, Option.getD_some]
      have htk := laid_take l ls hL j hj e (by omega)
      have hcf : eddyref18_copies.f k l ((off ls j : Nat) : Int) ((off ls j + e : Nat) : Int) id tasks = some (match ones id (ls[j].f1.take e) (off ls j) 0 tasks.toNat with | none => ([], false) | some at_ => (at_, true)) := by
        unfold eddyref18_copies.f
        rw [show (0 : Int) = ((0 : Nat) : Int) from rfl, copies_l0 l id tasks hl (off ls j) (off ls j + e) (by omega) (by omega) ht2 tasks.toNat k 0 [] (by omega) (by simp) (by omega), show off ls j + e - off ls j = e by omega, htk]
        cases ones id (ls[j].f1.take e) (off ls j) 0 tasks.toNat <;> rfl
      rw [hcf, Option.bind_some]
      have hon := ones_spec id (ls[j].f1.take e) (off ls j) tasks.toNat 0
      unfold partsP
      cases ho : ones id (ls[j].f1.take e) (off ls j) 0 tasks.toNat with
      | none =>
        rw [ho] at hon
        obtain ⟨q, _, hq1, hq2⟩ := hon
        have : ¬ oncs (sc id (ls[j].f1.take e)).c tasks = true := fun h => hq2 ((oncs_count id tasks _).1 h q (by omega))
        simp [this]
      | some at_ =>
        rw [ho] at hon
        obtain ⟨hal, hat⟩ := hon
        have hon2 : oncs (sc id (ls[j].f1.take e)).c tasks = true := (oncs_count id tasks _).2 (fun q hq => by
          obtain ⟨j', h1, h2⟩ := hat q (by omega) (by omega)
          have := one_count (cp id q) (ls[j].f1.take e)
          rw [h1] at this
          exact this.1)
        have hokl : ∀ t ∈ l, 0 ≤ t.f1 ∧ t.f1 < at_.length := fun t ht => by
          have := hok t ht
          unfold okP at this
          omega
        have hseg : ∀ t ∈ ls[j].f1.take e, 0 ≤ t.f1 ∧ t.f1 < tasks.toNat := fun t ht => by
          rw [← htk] at ht
          have := hok t (List.mem_of_mem_drop (List.mem_of_mem_take ht))
          unfold okP at this
          omega
        have hfl := flags_scR id at_ (off ls j) tasks.toNat (ls[j].f1.take e) (fun q hq => by
            obtain ⟨j', h1, h2⟩ := hat q (by omega) (by omega)
            exact ⟨j', h1, by simpa using h2⟩) (ls[j].f1.take e) [] rfl hseg
        simp at hfl
        have hp0 := path_l0 l hl (off ls j) (off ls j + e) (by omega) (by omega) at_ hokl e k (off ls j) 0 rfl (by omega) (by rw [show off ls j + e - off ls j = e by omega]; omega) (by omega)
        rw [show off ls j + e - off ls j = e by omega, htk, hfl] at hp0
        rw [if_pos hon2]
        simp only [if_true, hz, he, Option.getD_some]
        rw [(sc_eq id _).1, (sc_eq id _).2.1, List.length_map, scR_len]
        exact hp0
    · rw [foundP_none hc (by rw [hls]; exact hs), hs]
      rfl
  · rw [foundP_bad hc, if_neg hc]
    rfl
end Go.Proofs.Ytammigfckdgljaa.PWitnessSplit
