import Derived.Test.YtammigfckdgljaaPWitnessSplith1
namespace Go.Proofs.Ytammigfckdgljaa.PWitnessSplit
open Go.RowKit Go.Proofs.YtammigfckdgljaaW.PrintWords Go.Proofs.YtammigfckdgljaaW.PrintLast Go.Proofs.YtammigfckdgljaaW.PrintMore
set_option linter.unusedVariables false
set_option linter.unusedSimpArgs false

/-! ### entries -/
def okP (t : S46) (tasks : Int) : Prop := 1 ≤ t.f0 ∧ t.f0 ≤ 11 ∧ 0 ≤ t.f1 ∧ t.f1 < tasks ∧ 0 ≤ t.f2 ∧ t.f2 ≤ 3 ∧ 0 ≤ t.f3 ∧ (t.f0 > 2 → t.f2 = 0) ∧ (t.f0 = 1 → t.f3 = 0) ∧ (2 ≤ t.f0 ∧ t.f0 ≤ 8 → 1 ≤ t.f3 ∧ t.f3 ≤ 9999) ∧ (5 ≤ t.f0 ∧ t.f0 ≠ 9 → t.f1 = 0) ∧ (t.f0 = 10 → t.f3 = 0) ∧ (t.f0 = 11 → t.f3 ≤ 9999)
instance (t : S46) (tasks : Int) : Decidable (okP t tasks) := by unfold okP; infer_instance
def can (l : List S46) (tasks : Int) : Bool := decide (1 ≤ tasks) && decide (tasks ≤ 12) && l.all fun t => decide (okP t tasks)
theorem wrap_in {i : Int} (h0 : -9223372036854775808 ≤ i) (h : i ≤ 9223372036854775807) : wrap64 i = i := by
  unfold wrap64
  omega
theorem ite_dec {c : Prop} [Decidable c] {a b : Option Bool} {p : Prop} [Decidable p] (h1 : c → a = some (decide p)) (h2 : ¬ c → b = some (decide p)) : (if c then a else b) = some (decide p) := by
  by_cases h : c
  · rw [if_pos h]; exact h1 h
  · rw [if_neg h]; exact h2 h
theorem dec_iff {b : Bool} {p : Prop} [Decidable p] (h : b = true ↔ p) : some b = some (decide p) := by
  congr 1
  rw [Bool.eq_iff_iff]
  simpa using h
set_option maxHeartbeats 2000000 in
theorem fits_f (k : Nat) (hk : 6 ≤ k) (t : S46) (tasks : Int) (h : 1 ≤ tasks) : witness_fits.f k t.f0 t.f1 t.f2 t.f3 tasks = some (decide (okP t tasks)) := by
  obtain ⟨k, rfl⟩ : ∃ m, k = m + 6 := ⟨k - 6, by omega⟩
  unfold witness_fits.f
  simp only [witness_fits.j0, witness_fits.j1, witness_fits.j2, witness_fits.j3, witness_fits.j4]
  repeat' (refine ite_dec (fun _ => ?_) (fun _ => ?_))
  all_goals (refine dec_iff ?_; unfold okP; simp only [decide_eq_true_eq, beq_iff_eq, Bool.and_eq_true, Bool.false_eq_true, reduceCtorEq, not_true_eq_false, not_false_eq_true] at *)
  all_goals (try (first | omega | (rw [true_iff]; refine ⟨?_, ?_, ?_, ?_, ?_, ?_, ?_, ?_, ?_, ?_, ?_, ?_, ?_⟩ <;> omega) | (constructor <;> intro hh <;> (first | exact hh.elim | omega | (exfalso; omega) | (refine ⟨?_, ?_, ?_, ?_, ?_, ?_, ?_, ?_, ?_, ?_, ?_, ?_, ?_⟩ <;> omega)))))
set_option maxHeartbeats 2000000 in
theorem entry_f (k : Nat) (hk : 6 ≤ k) (t : S46) (tasks : Int) : eddyref18_entry.f k t.f0 t.f1 t.f2 t.f3 tasks = some (decide (okP t tasks)) := by
  obtain ⟨k, rfl⟩ : ∃ m, k = m + 6 := ⟨k - 6, by omega⟩
  unfold eddyref18_entry.f
  simp only [eddyref18_entry.j0, eddyref18_entry.j1, eddyref18_entry.j2]
  repeat' (refine ite_dec (fun _ => ?_) (fun _ => ?_))
  all_goals (refine dec_iff ?_; unfold okP; simp only [decide_eq_true_eq, beq_iff_eq, Bool.and_eq_true, Bool.false_eq_true, reduceCtorEq, not_true_eq_false, not_false_eq_true] at *)
  all_goals (try (first | omega | (rw [true_iff]; refine ⟨?_, ?_, ?_, ?_, ?_, ?_, ?_, ?_, ?_, ?_, ?_, ?_, ?_⟩ <;> omega) | (constructor <;> intro hh <;> (first | exact hh.elim | omega | (exfalso; omega) | (refine ⟨?_, ?_, ?_, ?_, ?_, ?_, ?_, ?_, ?_, ?_, ?_, ?_, ?_⟩ <;> omega)))))
theorem rd46 (l : List S46) (i : Nat) (h : i < l.length) : rd_T46 l i = l[i] := by
  simp [rd_T46, List.getD_eq_getElem?_getD, List.getElem?_eq_getElem h]
theorem all_drop {p : S46 → Bool} (l : List S46) (i : Nat) (h : i < l.length) : (l.drop i).all p = (p (rd_T46 l i) && (l.drop (i + 1)).all p) := by
  rw [List.drop_eq_getElem_cons h, List.all_cons, rd46 l i h]
theorem check_l0 (l : List S46) (tasks : Int) (h : 1 ≤ tasks) (hl : l.length ≤ 4611686018427387904) (d : Nat) : ∀ (k i : Nat), i + d = l.length → d + 8 < k →
    witness_check.l0 k tasks l (l.length : Int) (i : Int) = some (if (l.drop i).all (fun t => decide (okP t tasks)) = true then 0 else 181) := by
  induction d with
  | zero =>
    intro k i hi hk
    obtain ⟨k, rfl⟩ : ∃ m, k = m + 1 := ⟨k - 1, by omega⟩
    simp only [witness_check.l0]
    rw [if_neg (by omega), List.drop_eq_nil_of_le (by omega)]
    rfl
  | succ d ih =>
    intro k i hi hk
    obtain ⟨k, rfl⟩ : ∃ m, k = m + 1 := ⟨k - 1, by omega⟩
    simp only [witness_check.l0]
    rw [if_pos (by omega), if_pos (by omega), if_pos (by omega), fits_f k (by omega) _ _ h, Option.bind_some, all_drop l i (by omega)]
    by_cases hp : okP (rd_T46 l i) tasks
    · rw [if_pos (by simpa using hp), wrap_in (by omega) (by omega), show ((i : Int) + 1) = ((i + 1 : Nat) : Int) by omega, ih _ (i + 1) (by omega) (by omega)]
      simp [hp]
    · rw [if_neg (by simpa using hp)]
      simp [hp]
theorem check_f (l : List S46) (tasks : Int) (hl : l.length ≤ 4611686018427387904) (k : Nat) (hk : l.length + 12 < k) : witness_check.f k l tasks = some (if can l tasks = true then 0 else 181) := by
  obtain ⟨k, rfl⟩ : ∃ m, k = m + 1 := ⟨k - 1, by omega⟩
  unfold witness_check.f can
  simp only [witness_check.j0]
  by_cases h1 : tasks < 1
  · simp [h1, show ¬ (1 ≤ tasks) by omega]
  · by_cases h2 : tasks > 12
    · simp [h1, h2, show ¬ (tasks ≤ 12) by omega]
    · rw [if_neg h1, if_neg (by simpa using h2), show (0 : Int) = ((0 : Nat) : Int) from rfl, check_l0 l tasks (by omega) hl l.length k 0 (by omega) (by omega)]
      simp [show 1 ≤ tasks by omega, show tasks ≤ 12 by omega]
theorem can_l0 (l : List S46) (tasks : Int) (hl : l.length ≤ 4611686018427387904) (d : Nat) : ∀ (k i : Nat), i + d = l.length → d + 8 < k →
    eddyref18_Can.l0 k l tasks (i : Int) = some ((l.drop i).all (fun t => decide (okP t tasks))) := by
  induction d with
  | zero =>
    intro k i hi hk
    obtain ⟨k, rfl⟩ : ∃ m, k = m + 1 := ⟨k - 1, by omega⟩
    simp only [eddyref18_Can.l0]
    rw [if_neg (by omega), List.drop_eq_nil_of_le (by omega)]
    rfl
  | succ d ih =>
    intro k i hi hk
    obtain ⟨k, rfl⟩ : ∃ m, k = m + 1 := ⟨k - 1, by omega⟩
    simp only [eddyref18_Can.l0]
    rw [if_pos (by omega), if_pos (by omega), entry_f k (by omega), Option.bind_some, all_drop l i (by omega)]
    by_cases hp : okP (rd_T46 l i) tasks
    · rw [if_pos (by simpa using hp), wrap_in (by omega) (by omega), show ((i : Int) + 1) = ((i + 1 : Nat) : Int) by omega, ih _ (i + 1) (by omega) (by omega)]
      simp [hp]
    · rw [if_neg (by simpa using hp)]
      simp [hp]
theorem can_f (l : List S46) (tasks : Int) (hl : l.length ≤ 4611686018427387904) (k : Nat) (hk : l.length + 12 < k) : eddyref18_Can.f k l tasks = some (can l tasks) := by
  obtain ⟨k, rfl⟩ : ∃ m, k = m + 1 := ⟨k - 1, by omega⟩
  unfold eddyref18_Can.f can
  simp only [eddyref18_Can.j0]
  by_cases h1 : tasks < 1
  · simp [h1, show ¬ (1 ≤ tasks) by omega]
  · by_cases h2 : tasks > 12
    · simp [h1, h2, show ¬ (tasks ≤ 12) by omega]
    · rw [if_neg h1, if_neg (by simpa using h2), show (0 : Int) = ((0 : Nat) : Int) from rfl, can_l0 l tasks hl l.length k 0 (by omega) (by omega)]
      simp [show 1 ≤ tasks by omega, show tasks ≤ 12 by omega]

/-! ### lives -/
/-- the first place of an entry 'ready' of id -/
def ready (id : Int) (t : S46) : Bool := decide (t.f0 = 6 ∧ t.f3 = id)
def up (t : S46) : Bool := decide (t.f0 = 11)
def fst (id : Int) : List S46 → Option Nat
  | [] => none
  | t :: r => if ready id t = true then some 0 else (fst id r).map (· + 1)
theorem fst_lt (id : Int) : ∀ (l : List S46) (e : Nat), fst id l = some e → e < l.length
  | [], e, h => by simp [fst] at h
  | t :: r, e, h => by
    unfold fst at h
    split at h
    · simp at h; simp; omega
    · obtain ⟨e', h1, rfl⟩ := Option.map_eq_some_iff.1 h
      have := fst_lt id r e' h1
      simp; omega
theorem fst_append (id : Int) : ∀ (a b : List S46), fst id (a ++ b) = match fst id a with | some e => some e | none => (fst id b).map (· + a.length)
  | [], b => by simp [fst]
  | t :: r, b => by
    simp only [List.cons_append, fst]
    split
    · rfl
    · rw [fst_append id r b]
      cases fst id r with
      | some e => rfl
      | none => cases fst id b <;> simp; omega
def toI : Option Nat → Int
  | none => -1
  | some e => e
theorem end_l0 (id : Int) (l : List S46) (tasks : Int) (hok : ∀ t ∈ l, okP t tasks) (hl : l.length ≤ 4611686018427387904) (d : Nat) : ∀ (k i : Nat), i + d = l.length → d < k →
    witness_life_end.l0 k l (l.length : Int) (i : Int) 6 0 0 id = some (toI ((fst id (l.drop i)).map (· + i))) := by
  induction d with
  | zero =>
    intro k i hi hk
    obtain ⟨k, rfl⟩ : ∃ m, k = m + 1 := ⟨k - 1, by omega⟩
    simp only [witness_life_end.l0]
    rw [if_neg (by omega), List.drop_eq_nil_of_le (by omega)]
    rfl
  | succ d ih =>
    intro k i hi hk
    obtain ⟨k, rfl⟩ : ∃ m, k = m + 1 := ⟨k - 1, by omega⟩
    simp only [witness_life_end.l0]
    rw [if_pos (by omega), if_pos (by omega), if_pos (by omega), List.drop_eq_getElem_cons (show i < l.length by omega), rd46 l i (by omega)]
    have ho := hok _ (List.getElem_mem (show i < l.length by omega))
    have hb : (l[i].f0 == 6 && (l[i].f1 == 0 && (l[i].f2 == 0 && (l[i].f3 == id)))) = ready id l[i] := by
      rw [Bool.eq_iff_iff]
      simp [ready]
      intro h1
      unfold okP at ho
      omega
    rw [hb]
    unfold fst
    by_cases hr : ready id l[i] = true
    · rw [if_pos hr, if_pos hr]; simp [toI]
    · rw [if_neg hr, if_neg hr, wrap_in (by omega) (by omega), show ((i : Int) + 1) = ((i + 1 : Nat) : Int) by omega, ih _ (i + 1) (by omega) (by omega)]
      cases fst id (l.drop (i + 1)) <;> simp [toI]; omega
theorem end_f (id bg : Int) (l : List S46) (tasks : Int) (hok : ∀ t ∈ l, okP t tasks) (hl : l.length ≤ 4611686018427387904) (k : Nat) (hk : l.length < k) : witness_life_end.f k bg l id = some (toI (fst id l)) := by
  unfold witness_life_end.f
  have := end_l0 id l tasks hok hl l.length k 0 (by omega) hk
  simpa using this
def cutL : List S46 → Int → List S46 → List S72
  | [], b, cur => [⟨b, cur⟩]
  | t :: r, b, cur => if up t = true then ⟨b, cur⟩ :: cutL r t.f3 [] else cutL r b (cur ++ [t])
theorem lives_l0 (l : List S46) (hl : l.length ≤ 4398046510976) (d : Nat) : ∀ (k i fr : Nat) (acc : List S72) (bg : Int), i + d = l.length → d < k → fr ≤ i → acc.length ≤ i →
    witness_lives.l0 k l acc bg (fr : Int) l (l.length : Int) (i : Int) = some (acc ++ cutL (l.drop i) bg ((l.take i).drop fr)) := by
  induction d with
  | zero =>
    intro k i fr acc bg hi hk hf ha
    obtain ⟨k, rfl⟩ : ∃ m, k = m + 1 := ⟨k - 1, by omega⟩
    simp only [witness_lives.l0]
    rw [if_neg (by omega), if_pos (by omega), if_pos (by omega), if_pos (by omega), List.drop_eq_nil_of_le (show l.length ≤ i by omega), List.take_of_length_le (show l.length ≤ i by omega)]
    simp [cutL]
  | succ d ih =>
    intro k i fr acc bg hi hk hf ha
    obtain ⟨k, rfl⟩ : ∃ m, k = m + 1 := ⟨k - 1, by omega⟩
    simp only [witness_lives.l0]
    rw [if_pos (by omega), if_pos (by omega), if_pos (by omega), List.drop_eq_getElem_cons (show i < l.length by omega), rd46 l i (by omega)]
    unfold cutL
    by_cases hu : l[i].f0 = 11
    · rw [if_pos hu, if_pos (by omega), if_pos (by omega), if_pos (by omega), if_pos (by omega), if_pos (by simp [up, hu]), wrap_in (by omega) (by omega), show ((i : Int) + 1) = ((i + 1 : Nat) : Int) by omega,
        ih _ (i + 1) (i + 1) _ _ (by omega) (by omega) (by omega) (by simp; omega)]
      simp [List.drop_take]
    · rw [if_neg hu, if_neg (by simp [up, hu]), wrap_in (by omega) (by omega), show ((i : Int) + 1) = ((i + 1 : Nat) : Int) by omega, ih _ (i + 1) fr _ _ (by omega) (by omega) (by omega) (by omega)]
      rw [List.take_succ_eq_append_getElem (show i < l.length by omega), List.drop_append_of_le_length (by simp; omega)]
theorem lives_f (l : List S46) (hl : l.length ≤ 4398046510976) (k : Nat) (hk : l.length < k) : witness_lives.f k l = some (cutL l 0 []) := by
  unfold witness_lives.f
  have := lives_l0 l hl l.length k 0 0 [] 0 (by omega) hk (by omega) (by simp)
  simpa using this
def seekN (id : Int) (ls : List S72) : Nat → Int
  | 0 => -1
  | n + 1 => if (fst id (ls.getD n z72).f1).isSome = true then n else seekN id ls n
theorem seek_l0 (id : Int) (ls : List S72) (tasks : Int) (N : Nat) (hok : ∀ x ∈ ls, ∀ t ∈ x.f1, okP t tasks) (hN : ∀ x ∈ ls, x.f1.length ≤ N) (hb : N ≤ 4611686018427387904) (hb2 : ls.length ≤ 4611686018427387904) : ∀ (n k : Nat), n ≤ ls.length → n + N + 2 < k →
    witness_seek.l0 k ls id ((n : Int) - 1) = some (seekN id ls n)
  | 0, k, h1, h2 => by
    obtain ⟨k, rfl⟩ : ∃ m, k = m + 1 := ⟨k - 1, by omega⟩
    simp only [witness_seek.l0]
    rw [if_neg (by omega)]
    rfl
  | n + 1, k, h1, h2 => by
    obtain ⟨k, rfl⟩ : ∃ m, k = m + 1 := ⟨k - 1, by omega⟩
    simp only [witness_seek.l0]
    have e : ((n + 1 : Nat) : Int) - 1 = (n : Int) := by omega
    rw [e, if_pos (by omega), if_pos (by omega), if_pos (by omega)]
    have hm : ls[n] ∈ ls := List.getElem_mem _
    have er : rd_T72 ls n = ls[n] := by simp [rd_T72, List.getD_eq_getElem?_getD, List.getElem?_eq_getElem (show n < ls.length by omega)]
    have ed : ls.getD n z72 = ls[n] := by simp [List.getD_eq_getElem?_getD, List.getElem?_eq_getElem (show n < ls.length by omega)]
    rw [er, end_f id _ _ tasks (hok _ hm) (by have := hN _ hm; omega) k (by have := hN _ hm; omega), Option.bind_some]
    unfold seekN
    rw [ed]
    cases hf : fst id ls[n].f1 with
    | none =>
      rw [if_neg (show ¬ toI none ≥ 0 by decide), if_neg (by simp), wrap_in (by omega) (by omega), seek_l0 id ls tasks N hok hN hb hb2 n k (by omega) (by omega)]
    | some e =>
      rw [if_pos (show toI (some e) ≥ 0 by simp [toI]), if_pos (by simp)]
theorem cutL_ok (tasks : Int) (N : Nat) : ∀ (r : List S46) (b : Int) (cur : List S46), (∀ t ∈ r, okP t tasks) → (∀ t ∈ cur, okP t tasks) → r.length + cur.length ≤ N →
    (∀ x ∈ cutL r b cur, ∀ t ∈ x.f1, okP t tasks) ∧ (∀ x ∈ cutL r b cur, x.f1.length ≤ N) ∧ (cutL r b cur).length ≤ r.length + 1
  | [], b, cur, h1, h2, h3 => by
    simp only [cutL, List.mem_singleton, forall_eq, List.length_singleton]
    simp at h3
    exact ⟨h2, h3, by simp⟩
  | t :: r, b, cur, h1, h2, h3 => by
    unfold cutL
    simp at h3
    split
    · obtain ⟨a1, a2, a3⟩ := cutL_ok tasks N r t.f3 [] (fun x hx => h1 x (List.mem_cons_of_mem _ hx)) (by simp) (by simp; omega)
      refine ⟨?_, ?_, by simp; omega⟩
      · intro x hx
        rcases List.mem_cons.1 hx with rfl | hx
        · exact h2
        · exact a1 x hx
      · intro x hx
        rcases List.mem_cons.1 hx with rfl | hx
        · simp; omega
        · exact a2 x hx
    · obtain ⟨a1, a2, a3⟩ := cutL_ok tasks N r b (cur ++ [t]) (fun x hx => h1 x (List.mem_cons_of_mem _ hx)) (by
        intro x hx
        rcases List.mem_append.1 hx with hx | hx
        · exact h2 x hx
        · rw [List.mem_singleton.1 hx]; exact h1 t List.mem_cons_self) (by simp; omega)
      exact ⟨a1, a2, by simp; omega⟩

/-! ### the reference's places -/
/-- where life n begins -/
def off (ls : List S72) (n : Nat) : Nat := ((ls.take n).map fun x => x.f1.length + 1).sum
theorem off_succ (ls : List S72) (n : Nat) (h : n < ls.length) : off ls (n + 1) = off ls n + ls[n].f1.length + 1 := by
  unfold off
  rw [List.take_succ_eq_append_getElem h, List.map_append, List.sum_append]
  simp [Nat.add_assoc]
/-- l is the lives ls, with entries up between them. -/
def Laid (l : List S46) (ls : List S72) : Prop := l.length + 1 = off ls ls.length ∧
  ∀ (n : Nat) (h : n < ls.length), (∀ (q : Nat) (hq : q < ls[n].f1.length), l[off ls n + q]? = some ls[n].f1[q] ∧ up ls[n].f1[q] = false) ∧
    (n = 0 ∨ ∃ t, l[off ls n - 1]? = some t ∧ up t = true ∧ t.f3 = ls[n].f0)
theorem laid_cut : ∀ (r : List S46) (b : Int) (cur : List S46), (∀ t ∈ cur, up t = false) → Laid (cur ++ r) (cutL r b cur) ∧ (cutL r b cur).head?.map S72.f0 = some b ∧ 0 < (cutL r b cur).length
  | [], b, cur, hc => by
    refine ⟨⟨by simp [cutL, off], ?_⟩, by simp [cutL], by simp [cutL]⟩
    intro n hn
    simp [cutL] at hn
    subst hn
    refine ⟨?_, .inl rfl⟩
    intro q hq
    simp only [cutL, List.getElem_cons_zero] at hq ⊢
    exact ⟨by simp [off, List.getElem?_eq_getElem hq], hc _ (List.getElem_mem _)⟩
  | t :: r, b, cur, hc => by
    unfold cutL
    split
    · rename_i hu
      obtain ⟨⟨h1, h2⟩, h3, h4⟩ := laid_cut r t.f3 [] (by simp)
      have hoff : ∀ n, off ((⟨b, cur⟩ : S72) :: cutL r t.f3 []) (n + 1) = cur.length + 1 + off (cutL r t.f3 []) n := by
        intro n
        simp [off]
      refine ⟨⟨?_, ?_⟩, by simp, by simp⟩
      · rw [List.length_cons, hoff, ← h1]
        simp
        omega
      · intro n hn
        cases n with
        | zero =>
          refine ⟨?_, .inl rfl⟩
          intro q hq
          simp only [List.getElem_cons_zero] at hq ⊢
          refine ⟨?_, hc _ (List.getElem_mem _)⟩
          rw [show off ((⟨b, cur⟩ : S72) :: cutL r t.f3 []) 0 + q = q by simp [off], List.getElem?_append_left hq, List.getElem?_eq_getElem hq]
        | succ n =>
          have hn' : n < (cutL r t.f3 []).length := by simp at hn; omega
          obtain ⟨a1, a2⟩ := h2 n hn'
          simp only [List.getElem_cons_succ]
          refine ⟨?_, .inr ?_⟩
          · intro q hq
            obtain ⟨b1, b2⟩ := a1 q hq
            refine ⟨?_, b2⟩
            rw [hoff, List.getElem?_append_right (by omega), show cur.length + 1 + off (cutL r t.f3 []) n + q - cur.length = (off (cutL r t.f3 []) n + q) + 1 by omega, List.getElem?_cons_succ]
            simpa using b1
          · rcases Nat.eq_zero_or_pos n with h0 | h0
            · subst h0
              refine ⟨t, ?_, hu, ?_⟩
              · rw [hoff, show cur.length + 1 + off (cutL r t.f3 []) 0 - 1 = cur.length by simp [off], List.getElem?_append_right (by omega)]
                simp
              · rw [List.head?_eq_getElem?, List.getElem?_eq_getElem hn'] at h3
                simpa using h3.symm
            · rcases a2 with a2 | ⟨u, b1, b2, b3⟩
              · omega
              · refine ⟨u, ?_, b2, b3⟩
                have hpos : 0 < off (cutL r t.f3 []) n := by
                  obtain ⟨m, rfl⟩ : ∃ m, n = m + 1 := ⟨n - 1, by omega⟩
                  rw [off_succ _ _ (by omega)]
                  omega
                rw [hoff, List.getElem?_append_right (by omega), show cur.length + 1 + off (cutL r t.f3 []) n - 1 - cur.length = (off (cutL r t.f3 []) n - 1) + 1 by omega, List.getElem?_cons_succ]
                simpa using b1
    · rename_i hu
      have := laid_cut r b (cur ++ [t]) (by
        intro x hx
        rcases List.mem_append.1 hx with hx | hx
        · exact hc x hx
        · rw [List.mem_singleton.1 hx]; simpa using hu)
      rw [List.append_assoc] at this
      exact this
theorem off_pos (ls : List S72) (n : Nat) (h : n < ls.length) : n < off ls (n + 1) := by
  induction n with
  | zero => rw [off_succ _ _ h]; omega
  | succ n ih => rw [off_succ _ _ h]; have := ih (by omega); omega
theorem off_mono (ls : List S72) : ∀ (m n : Nat), n ≤ m → m ≤ ls.length → off ls n ≤ off ls m
  | 0, n, h, _ => by obtain rfl : n = 0 := by omega
                     exact Nat.le_refl _
  | m + 1, n, h, h2 => by
    rcases Nat.eq_or_lt_of_le h with h | h
    · rw [h]; exact Nat.le_refl _
    · have := off_mono ls m n (by omega) (by omega)
      rw [off_succ _ _ (by omega)]
      omega
end Go.Proofs.Ytammigfckdgljaa.PWitnessSplit
