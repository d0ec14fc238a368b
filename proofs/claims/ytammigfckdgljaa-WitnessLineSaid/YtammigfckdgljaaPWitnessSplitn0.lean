import Derived.Test.YtammigfckdgljaaPWitnessSplitgLine
import Derived.Test.YtammigfckdgljaaPWitnessSplith6
namespace Go.Proofs.Ytammigfckdgljaa.PWitnessSplit
open Go.RowKit Go.Proofs.YtammigfckdgljaaW.PrintWords Go.Proofs.YtammigfckdgljaaW.PrintLast Go.Proofs.YtammigfckdgljaaW.PrintMore
set_option linter.unusedVariables false
set_option linter.unusedSimpArgs false

/-! ### Line: what it tells -/
def stp (l : List S46) : List S48 := (l.filter fun t => decide (t.f0 = 1)).map evOf
theorem stp_cons (t : S46) (r : List S46) : stp (t :: r) = if t.f0 = 1 then evOf t :: stp r else stp r := by
  unfold stp
  rw [List.filter_cons]
  by_cases h : t.f0 = 1
  · simp [h]
  · simp [h]
theorem stp_snoc (r : List S46) (t : S46) : stp (r ++ [t]) = if t.f0 = 1 then stp r ++ [evOf t] else stp r := by
  unfold stp
  rw [List.filter_append, List.map_append]
  by_cases h : t.f0 = 1
  · simp [h]
  · simp [h]
theorem stp_len (l : List S46) : (stp l).length ≤ l.length := by
  unfold stp
  rw [List.length_map]
  exact List.length_filter_le _ _
def segOf (ls : List S72) (id : Int) (j : Nat) : List S46 := (ls.getD j z72).f1.take ((fst id (ls.getD j z72).f1).getD 0)
/-- the pieces of the lives ahead, laid ahead of out -/
def backP (tasks : Int) (ls : List S72) : Nat → Nat → List S48 → List S48 × Int
  | 0, _, out => (out, 0)
  | f + 1, n, out =>
    if (ls.getD n z72).f0 > 0 then
      match seekN (ls.getD n z72).f0 ls n with
      | .negSucc _ => ([], 180)
      | .ofNat j =>
        if (partsP (ls.getD n z72).f0 tasks (segOf ls (ls.getD n z72).f0 j)).2.2 = 0 then
          backP tasks ls f j (thoseN true (partsP (ls.getD n z72).f0 tasks (segOf ls (ls.getD n z72).f0 j)).1 (partsP (ls.getD n z72).f0 tasks (segOf ls (ls.getD n z72).f0 j)).2.1 ++ out)
        else ([], 181)
    else (out, 0)
theorem backP_end {tasks : Int} {ls : List S72} {f n : Nat} {out : List S48} (h : ¬ (ls.getD n z72).f0 > 0) : backP tasks ls (f + 1) n out = (out, 0) := by
  rw [backP, if_neg h]
theorem backP_none {tasks : Int} {ls : List S72} {f n : Nat} {out : List S48} (h : (ls.getD n z72).f0 > 0) (hs : seekN (ls.getD n z72).f0 ls n = -1) : backP tasks ls (f + 1) n out = ([], 180) := by
  rw [backP, if_pos h, hs]
  rfl
theorem backP_bad {tasks : Int} {ls : List S72} {f n j : Nat} {out : List S48} (h : (ls.getD n z72).f0 > 0) (hs : seekN (ls.getD n z72).f0 ls n = (j : Int)) (hp : ¬ (partsP (ls.getD n z72).f0 tasks (segOf ls (ls.getD n z72).f0 j)).2.2 = 0) : backP tasks ls (f + 1) n out = ([], 181) := by
  rw [backP, if_pos h, hs]
  exact if_neg hp
theorem backP_go {tasks : Int} {ls : List S72} {f n j : Nat} {out : List S48} (h : (ls.getD n z72).f0 > 0) (hs : seekN (ls.getD n z72).f0 ls n = (j : Int)) (hp : (partsP (ls.getD n z72).f0 tasks (segOf ls (ls.getD n z72).f0 j)).2.2 = 0) :
    backP tasks ls (f + 1) n out = backP tasks ls f j (thoseN true (partsP (ls.getD n z72).f0 tasks (segOf ls (ls.getD n z72).f0 j)).1 (partsP (ls.getD n z72).f0 tasks (segOf ls (ls.getD n z72).f0 j)).2.1 ++ out) := by
  rw [backP, if_pos h, hs]
  exact if_pos hp
def lineP (l : List S46) (tasks : Int) : List S48 × Int :=
  if can l tasks = true then backP tasks (cutL l 0 []) (cutL l 0 []).length ((cutL l 0 []).length - 1) (stp ((cutL l 0 []).getD ((cutL l 0 []).length - 1) z72).f1) else ([], 181)
theorem partsP_err (id tasks : Int) (seg : List S46) (h : ¬ (partsP id tasks seg).2.2 = 0) : partsP id tasks seg = ([], [], 181) := by
  unfold partsP at h ⊢
  split at h
  · exact absurd rfl h
  · rename_i hh; rw [if_neg hh]
theorem partsP_len (id tasks : Int) (seg : List S46) : (partsP id tasks seg).1.length ≤ seg.length ∧ (partsP id tasks seg).2.1.length = (partsP id tasks seg).1.length := by
  unfold partsP
  split
  · refine ⟨(sc_le id seg 0).2.2.1, ?_⟩
    simp only
    rw [(sc_eq id seg).1, (sc_eq id seg).2.1]
    simp
  · exact ⟨by simp, rfl⟩
theorem getD72 {ls : List S72} {j : Nat} (hj : j < ls.length) : ls.getD j z72 = ls[j] := by
  simp [List.getD_eq_getElem?_getD, List.getElem?_eq_getElem hj]
theorem segOf_eq {ls : List S72} {id : Int} {j e : Nat} (hj : j < ls.length) (he : fst id (ls.getD j z72).f1 = some e) : segOf ls id j = ls[j].f1.take e := by
  unfold segOf
  rw [he, getD72 hj]
  rfl
theorem piece_len (id tasks : Int) (ls : List S72) (j : Nat) : (thoseN true (partsP id tasks (segOf ls id j)).1 (partsP id tasks (segOf ls id j)).2.1).length ≤ (ls.getD j z72).f1.length := by
  have h1 := thoseN_len true (partsP id tasks (segOf ls id j)).1 (partsP id tasks (segOf ls id j)).2.1
  have h2 := (partsP_len id tasks (segOf ls id j)).1
  have h3 : (segOf ls id j).length ≤ (ls.getD j z72).f1.length := by unfold segOf; rw [List.length_take]; omega
  omega
/-- the bound that the loops keep -/
theorem back_bound {ls : List S72} {j n : Nat} (hj : j < n) (hn : n < ls.length) (id tasks : Int) (out : List S48) (L : Nat) (h : out.length + off ls n ≤ L) :
    (thoseN true (partsP id tasks (segOf ls id j)).1 (partsP id tasks (segOf ls id j)).2.1 ++ out).length + off ls j ≤ L := by
  have h1 := piece_len id tasks ls j
  rw [getD72 (show j < ls.length by omega)] at h1
  have h2 := off_succ ls j (by omega)
  have h3 := off_mono ls n (j + 1) (by omega) (by omega)
  rw [List.length_append]
  omega

/-! ### the reference -/
theorem refPiece (l : List S46) (ls : List S72) (id tasks : Int) (hL : Laid l ls) (hl : l.length ≤ 4398046510976) (ht2 : tasks ≤ 12) (ht1 : 1 ≤ tasks) (hok : ∀ t ∈ l, okP t tasks) {j e : Nat} (hj : j < ls.length) (he : fst id ls[j].f1 = some e) (k : Nat) (hk : 2 * l.length + 20 ≤ k) {β : Type} (g : List S48 → Option β) (x : Option β) :
    ((eddyref18_copies.f k l ((off ls j : Nat) : Int) ((off ls j + e : Nat) : Int) id tasks).bind fun b => if b.2 = true then (eddyref18_sides.f k l ((off ls j : Nat) : Int) ((off ls j + e : Nat) : Int) b.1 true).bind g else x) =
      if (partsP id tasks (ls[j].f1.take e)).2.2 = 0 then g (thoseN true (partsP id tasks (ls[j].f1.take e)).1 (partsP id tasks (ls[j].f1.take e)).2.1) else x := by
  have hel := fst_lt id _ e he
  have hmono := off_mono ls ls.length (j + 1) hj (Nat.le_refl _)
  have hsucc := off_succ ls j hj
  have hlen := hL.1
  have htk := laid_take l ls hL j hj e (by omega)
  have hcf : eddyref18_copies.f k l ((off ls j : Nat) : Int) ((off ls j + e : Nat) : Int) id tasks = some (match ones id (ls[j].f1.take e) (off ls j) 0 tasks.toNat with | none => ([], false) | some at_ => (at_, true)) := by
    unfold eddyref18_copies.f
    rw [show (0 : Int) = ((0 : Nat) : Int) from rfl, copies_l0 l id tasks hl (off ls j) (off ls j + e) (by omega) (by omega) ht2 tasks.toNat k 0 [] (by omega) (by simp) (by omega), show off ls j + e - off ls j = e by omega, htk]
    cases ones id (ls[j].f1.take e) (off ls j) 0 tasks.toNat <;> rfl
  rw [hcf, Option.bind_some]
  have hon := ones_spec id (ls[j].f1.take e) (off ls j) tasks.toNat 0
  unfold partsP
  cases ho : ones id (ls[j].f1.take e) (off ls j) 0 tasks.toNat with
  | none =>
    rw [ho] at hon
    obtain ⟨q, _, hq1, hq2⟩ := hon
    have : ¬ oncs (sc id (ls[j].f1.take e)).c tasks = true := fun h => hq2 ((oncs_count id tasks _).1 h q (by omega))
    simp [this]
  | some at_ =>
    rw [ho] at hon
    obtain ⟨hal, hat⟩ := hon
    have hon2 : oncs (sc id (ls[j].f1.take e)).c tasks = true := (oncs_count id tasks _).2 (fun q hq => by
      obtain ⟨j', h1, h2⟩ := hat q (by omega) (by omega)
      have := one_count (cp id q) (ls[j].f1.take e)
      rw [h1] at this
      exact this.1)
    have hokl : ∀ t ∈ l, 0 ≤ t.f1 ∧ t.f1 < at_.length := fun t ht => by
      have := hok t ht
      unfold okP at this
      omega
    have hseg : ∀ t ∈ ls[j].f1.take e, 0 ≤ t.f1 ∧ t.f1 < tasks.toNat := fun t ht => by
      rw [← htk] at ht
      have := hok t (List.mem_of_mem_drop (List.mem_of_mem_take ht))
      unfold okP at this
      omega
    have hsd : eddyref18_sides.f k l ((off ls j : Nat) : Int) ((off ls j + e : Nat) : Int) at_ true = some (((scR id (fun _ => 0) (ls[j].f1.take e)).filter fun x => x.2 == true).map Prod.fst) := by
      rw [sides_f l hl (off ls j) (off ls j + e) (by omega) (by omega) at_ true hokl k (by omega), show off ls j + e - off ls j = e by omega, htk]
      have := sides_scR id at_ true (off ls j) tasks.toNat (ls[j].f1.take e) (fun q hq => by
        obtain ⟨j', h1, h2⟩ := hat q (by omega) (by omega)
        exact ⟨j', h1, by simpa using h2⟩) (ls[j].f1.take e) [] rfl hseg
      simp at this
      rw [this]
      simp
    rw [if_pos hon2]
    simp only [if_true]
    rw [hsd, Option.bind_some, (sc_eq id _).1, (sc_eq id _).2.1, thoseN_pairs]
theorem line_l3 (l : List S46) (tasks fr : Int) (out : List S48) (ho : out.length ≤ 4398046510976) (d : Nat) : ∀ (k i : Nat) (piece : List S48), i + d = out.length → piece.length + d ≤ 8796093022207 →
    eddyref18_Line.l3 (k + d + 1) l tasks out fr piece (i : Int) = eddyref18_Line.l2 k l tasks fr (piece ++ out.drop i) := by
  induction d with
  | zero =>
    intro k i piece hi hp
    rw [eddyref18_Line.l3, if_neg (by omega), List.drop_eq_nil_of_le (by omega)]
    simp
  | succ d ih =>
    intro k i piece hi hp
    have hlt : i < out.length := by omega
    have hr : rd_T48 out (i : Int) = out[i] := by simp [rd_T48, List.getD_eq_getElem?_getD, List.getElem?_eq_getElem hlt]
    rw [show k + (d + 1) + 1 = (k + d + 1) + 1 by omega, eddyref18_Line.l3, if_pos (by omega), if_pos (by omega), if_pos (by omega), hr, wrap_in (by omega) (by omega), show ((i : Int) + 1) = ((i + 1 : Nat) : Int) by omega, ih k (i + 1) _ (by omega) (by simp; omega), List.drop_eq_getElem_cons hlt, List.append_assoc]
    rfl
theorem line_l2 (l : List S46) (ls : List S72) (tasks : Int) (hL : Laid l ls) (hl : l.length ≤ 4398046510976) (ht2 : tasks ≤ 12) (ht1 : 1 ≤ tasks) (hok : ∀ t ∈ l, okP t tasks) (h0 : (ls.getD 0 z72).f0 = 0) : ∀ (f n k : Nat) (out : List S48), n < ls.length → n < f → out.length + off ls n ≤ l.length → n * (l.length + 3) + (4 * l.length + 40) ≤ k →
    eddyref18_Line.l2 k l tasks ((off ls n : Nat) : Int) out = some (backP tasks ls f n out)
  | 0, n, k, out, hn, hf, _, _ => by omega
  | f + 1, n, k, out, hn, hf, ho, hk => by
    obtain ⟨k, rfl⟩ : ∃ m, k = m + 2 := ⟨k - 2, by omega⟩
    rcases Nat.eq_zero_or_pos n with hz | hz
    · subst hz
      rw [eddyref18_Line.l2, if_neg (by simp [off]), eddyref18_Line.j3, if_neg (by simp), backP_end (by rw [h0]; decide)]
    · have hlen := hL.1
      have hmono := off_mono ls ls.length n (by omega) (Nat.le_refl _)
      obtain ⟨u, hu1, hu2, hu3⟩ := ((hL.2 n hn).2).resolve_left (by omega)
      have hpos : 0 < off ls n := by
        have := off_pos ls (n - 1) (by omega)
        rw [show n - 1 + 1 = n by omega] at this
        omega
      have hlt : off ls n - 1 < l.length := (List.getElem?_eq_some_iff.1 hu1).1
      have hw : wrap64 (((off ls n : Nat) : Int) - 1) = ((off ls n - 1 : Nat) : Int) := by rw [wrap_in (by omega) (by omega)]; omega
      have hr : rd_T46 l ((off ls n - 1 : Nat) : Int) = u := by
        rw [rd46 l _ hlt]
        exact (List.getElem?_eq_some_iff.1 hu1).2
      rw [eddyref18_Line.l2, if_pos (by omega), hw, if_pos (by omega), if_pos (by omega), hr, hu3, ← getD72 hn, eddyref18_Line.j3]
      by_cases hb : (ls.getD n z72).f0 > 0
      · rw [if_pos (by simpa using hb), hw, if_pos (by omega), if_pos (by omega), hr, hu3, ← getD72 hn]
        rw [life_f l ls (ls.getD n z72).f0 hL hl n _ (by omega) (by omega) (by omega) k (by omega), Option.bind_some]
        rcases seekN_spec (ls.getD n z72).f0 ls n (by omega) with ⟨j, hj, hs, e, he⟩ | hs
        · have hpl : place (ls.getD n z72).f0 ls n = (((off ls j : Nat) : Int), ((off ls j + e : Nat) : Int)) := by
            unfold place
            rw [hs]
            show (((off ls j : Nat) : Int), ((off ls j + (fst (ls.getD n z72).f0 (ls.getD j z72).f1).getD 0 : Nat) : Int)) = _
            rw [he]
            rfl
          have hjl : j < ls.length := by omega
          have hseg := segOf_eq hjl he
          have he2 := he
          rw [getD72 hjl] at he2
          rw [hpl]
          simp only
          rw [if_neg (by omega), refPiece l ls _ tasks hL hl ht2 ht1 hok hjl he2 k (by omega), ← hseg]
          by_cases hp : (partsP (ls.getD n z72).f0 tasks (segOf ls (ls.getD n z72).f0 j)).2.2 = 0
          · rw [if_pos hp, backP_go hb hs hp]
            have hbd := back_bound hj hn (ls.getD n z72).f0 tasks out l.length ho
            have hmul : (j + 1) * (l.length + 3) ≤ n * (l.length + 3) := Nat.mul_le_mul_right _ hj
            rw [Nat.add_mul, Nat.one_mul] at hmul
            obtain ⟨k2, rfl⟩ : ∃ m, k = m + out.length + 1 := ⟨k - out.length - 1, by omega⟩
            rw [List.length_append] at hbd
            have := line_l3 l tasks ((off ls j : Nat) : Int) out (by omega) out.length k2 0 (thoseN true (partsP (ls.getD n z72).f0 tasks (segOf ls (ls.getD n z72).f0 j)).1 (partsP (ls.getD n z72).f0 tasks (segOf ls (ls.getD n z72).f0 j)).2.1) (by omega) (by omega)
            rw [show ((0 : Nat) : Int) = 0 from rfl] at this
            rw [this, List.drop_zero]
            exact line_l2 l ls tasks hL hl ht2 ht1 hok h0 f j k2 _ (by omega) (by omega) (by rw [List.length_append]; omega) (by omega)
          · rw [if_neg hp, backP_bad hb hs hp]
        · have hpl : place (ls.getD n z72).f0 ls n = (-1, -1) := by
            unfold place
            rw [hs]
            rfl
          rw [hpl, backP_none hb hs]
          simp
      · rw [if_neg (by simpa using hb), backP_end hb]
theorem line_l0 (l : List S46) (tasks : Int) (hl : l.length ≤ 4398046510976) (P : Nat) (hP : P ≤ l.length) (hP1 : ∀ q (h : q < l.length), P ≤ q → l[q].f0 ≠ 11) (hP2 : P = 0 ∨ ∃ t, l[P - 1]? = some t ∧ t.f0 = 11) (d : Nat) : ∀ (k i fr : Nat), i + d = l.length → (P ≤ i → fr = P) →
    eddyref18_Line.l0 (k + d + 1) l tasks (l.length : Int) (fr : Int) (i : Int) = eddyref18_Line.l1 k l tasks (l.length : Int) (P : Int) [] (P : Int) := by
  induction d with
  | zero =>
    intro k i fr hi hf
    rw [eddyref18_Line.l0, if_neg (by omega), hf (by omega)]
  | succ d ih =>
    intro k i fr hi hf
    have hlt : i < l.length := by omega
    have hw : wrap64 ((i : Int) + 1) = ((i + 1 : Nat) : Int) := by rw [wrap_in (by omega) (by omega)]; omega
    rw [show k + (d + 1) + 1 = (k + d + 1) + 1 by omega, eddyref18_Line.l0, if_pos (by omega), if_pos (by omega), if_pos (by omega), rd46 l i hlt, hw]
    by_cases hu : l[i].f0 = 11
    · rw [if_pos hu]
      refine ih k (i + 1) (i + 1) (by omega) (fun h => ?_)
      rcases Nat.lt_or_ge i P with h1 | h1
      · omega
      · exact absurd hu (hP1 i hlt h1)
    · rw [if_neg hu]
      refine ih k (i + 1) fr (by omega) (fun h => ?_)
      rcases Nat.lt_or_ge i P with h1 | h1
      · exfalso
        rcases hP2 with h2 | ⟨t, h2, h3⟩
        · omega
        · rw [show P - 1 = i by omega, List.getElem?_eq_getElem hlt] at h2
          injection h2 with h2
          exact hu (h2 ▸ h3)
      · exact hf h1
theorem line_l1 (l : List S46) (tasks : Int) (hl : l.length ≤ 4398046510976) (fr : Int) (d : Nat) : ∀ (k i : Nat) (acc : List S48), i + d = l.length → acc.length ≤ i →
    eddyref18_Line.l1 (k + d + 1) l tasks (l.length : Int) fr acc (i : Int) = eddyref18_Line.l2 k l tasks fr (acc ++ stp (l.drop i)) := by
  induction d with
  | zero =>
    intro k i acc hi ha
    rw [eddyref18_Line.l1, if_neg (by omega), List.drop_eq_nil_of_le (by omega)]
    simp [stp]
  | succ d ih =>
    intro k i acc hi ha
    have hlt : i < l.length := by omega
    have hw : wrap64 ((i : Int) + 1) = ((i + 1 : Nat) : Int) := by rw [wrap_in (by omega) (by omega)]; omega
    rw [show k + (d + 1) + 1 = (k + d + 1) + 1 by omega, eddyref18_Line.l1, if_pos (by omega), if_pos (by omega), if_pos (by omega), rd46 l i hlt, hw, List.drop_eq_getElem_cons hlt, stp_cons]
    by_cases hu : l[i].f0 = 1
    · rw [if_pos hu, if_pos (by omega), ih k (i + 1) _ (by omega) (by simp; omega), if_pos hu]
      simp [evOf]
    · rw [if_neg hu, ih k (i + 1) _ (by omega) (by omega), if_neg hu]
theorem cut_head (l : List S46) : 0 < (cutL l 0 []).length ∧ ((cutL l 0 []).getD 0 z72).f0 = 0 := by
  obtain ⟨_, h2, h3⟩ := laid_cut l 0 [] (by simp)
  refine ⟨h3, ?_⟩
  rw [List.head?_eq_getElem?, List.getElem?_eq_getElem h3] at h2
  rw [getD72 h3]
  simpa using h2
theorem last_bound {l : List S46} {ls : List S72} (hL : Laid l ls) {m : Nat} (hm : ls.length = m + 1) : (stp (ls.getD m z72).f1).length + off ls m ≤ l.length := by
  have h1 := stp_len (ls.getD m z72).f1
  rw [getD72 (show m < ls.length by omega)] at h1 ⊢
  have h2 := off_succ ls m (by omega)
  have h3 := hL.1
  rw [hm] at h3
  omega
theorem refLine_f (l : List S46) (tasks : Int) (hl : l.length ≤ 4398046510976) (k : Nat) (hk : l.length * (l.length + 3) + (6 * l.length + 50) ≤ k) : eddyref18_Line.f k l tasks = some (lineP l tasks) := by
  unfold eddyref18_Line.f lineP
  rw [can_f l tasks (by omega) k (by omega), Option.bind_some]
  by_cases hc : can l tasks = true
  · rw [if_pos hc, if_pos hc]
    obtain ⟨ht1, ht2, hok⟩ := can_all hc
    have hL := laid_l l
    obtain ⟨hp, h0⟩ := cut_head l
    obtain ⟨_, _, ho3⟩ := cutL_ok tasks l.length l 0 [] hok (by simp) (by simp)
    obtain ⟨ls, hls⟩ : ∃ ls, cutL l 0 [] = ls := ⟨_, rfl⟩
    rw [hls] at hL hp h0 ho3 ⊢
    obtain ⟨m, hm⟩ : ∃ m, ls.length = m + 1 := ⟨ls.length - 1, by omega⟩
    have hml : m < ls.length := by omega
    have hlen := hL.1
    have hsucc := off_succ ls m hml
    rw [hm] at hlen
    have hlb := last_bound hL hm
    have hP1 : ∀ q (h : q < l.length), off ls m ≤ q → l[q].f0 ≠ 11 := by
      intro q hq hle hu
      obtain ⟨h1, h2⟩ := (hL.2 m hml).1 (q - off ls m) (by omega)
      rw [show off ls m + (q - off ls m) = q by omega, List.getElem?_eq_getElem hq] at h1
      injection h1 with h1
      rw [← h1] at h2
      simp [up, hu] at h2
    have hP2 : off ls m = 0 ∨ ∃ t, l[off ls m - 1]? = some t ∧ t.f0 = 11 := by
      rcases (hL.2 m hml).2 with h1 | ⟨t, h1, h2, _⟩
      · subst h1; exact .inl (by simp [off])
      · exact .inr ⟨t, h1, by simpa [up] using h2⟩
    obtain ⟨k1, rfl⟩ : ∃ q, k = q + l.length + 1 := ⟨k - l.length - 1, by omega⟩
    have e0 := line_l0 l tasks hl (off ls m) (by omega) hP1 hP2 l.length k1 0 0 (by omega) (fun h => by omega)
    rw [show ((0 : Nat) : Int) = 0 from rfl] at e0
    rw [e0]
    obtain ⟨k2, rfl⟩ : ∃ q, k1 = q + (l.length - off ls m) + 1 := ⟨k1 - (l.length - off ls m) - 1, by omega⟩
    rw [line_l1 l tasks hl ((off ls m : Nat) : Int) (l.length - off ls m) k2 (off ls m) [] (by omega) (by simp)]
    have hdr : l.drop (off ls m) = ls[m].f1 := by
      have h1 := laid_take l ls hL m hml ls[m].f1.length (Nat.le_refl _)
      rw [List.take_length] at h1
      rw [← h1, List.take_of_length_le (by rw [List.length_drop]; omega)]
    rw [hdr, List.nil_append, ← getD72 hml, hm, show m + 1 - 1 = m from rfl]
    have hmul : m * (l.length + 3) ≤ l.length * (l.length + 3) := Nat.mul_le_mul_right _ (by omega)
    exact line_l2 l ls tasks hL hl ht2 ht1 hok h0 (m + 1) m k2 _ hml (Nat.lt_succ_self _) hlb (by omega)
  · rw [if_neg hc, if_neg hc]
end Go.Proofs.Ytammigfckdgljaa.PWitnessSplit
