import Derived.Test.YtammigfckdgljaaPWitnessSplitp0t
namespace Go.Proofs.Ytammigfckdgljaa.PWitnessSplit
open Go.RowKit Go.Maps Go.Proofs.YtammigfckdgljaaW.PrintWords Go.Proofs.YtammigfckdgljaaW.PrintLast Go.Proofs.YtammigfckdgljaaW.PrintMore
set_option linter.unusedVariables false
set_option linter.unusedSimpArgs false

theorem placesN_len : ∀ (bs : List Bool) (i d : Nat), (placesN bs i d).length ≤ bs.length * (i + bs.length)
  | [], _, _ => by simp [placesN]
  | b :: r, i, d => by
    have h1 := placesN_len r (i + 1) (d + 1)
    have h2 := placesN_len r (i + 1) d
    rw [placesN_cons]
    have e : (b :: r).length * (i + (b :: r).length) = r.length * (i + 1 + r.length) + (i + 1 + r.length) := by
      rw [List.length_cons, Nat.add_mul, Nat.one_mul]
      congr 1
      · congr 1; omega
      · omega
    rw [e]
    split
    · rw [List.length_append, down_len]; omega
    · omega
def PathPost (w : World) (r : List Int × Int) (e : Ending) (w' : World) : Prop :=
  ∃ v : Value, e = .returned (.tuple #[v, .int .i64 r.2]) ∧ Kd.R (Kd.int .i64) 3 w' w.heap.size (fun _ => True) v r.1 ∧ Below w.heap.size w w'
/-- the outer loop's relation -/
def POut (w : World) (bf : List Bool) (v11 v12 v32 : Value) (wr : World) : Prop :=
  ∃ (i dn : Nat) (acc : List Int), i ≤ bf.length ∧ dn ≤ i ∧ v32 = .int .i64 i ∧ v12 = .int .i64 dn ∧ acc ++ placesN (bf.drop i) i dn = placesN bf 0 0 ∧ Kd.R (Kd.int .i64) 3 wr w.heap.size (fun _ => True) v11 acc ∧ Below w.heap.size w wr
/-- the inner one's -/
def PIn (w : World) (i dn : Nat) (tot : List Int) (v11 v15 : Value) (wr : World) : Prop :=
  ∃ (c : Nat) (j : Int) (acc : List Int), c ≤ i - dn ∧ Aside0 (j = (dn : Int) + c - 1) ∧ v15 = .int .i64 j ∧ acc ++ down c j = tot ∧ Kd.R (Kd.int .i64) 3 wr w.heap.size (fun _ => True) v11 acc ∧ Below w.heap.size w wr
theorem atBool {w : World} {A : Option Addr} {n : Nat} {xs : List Bool} (h : Kd.C Kd.bool w A n xs) (i : Nat) (h1 : i < n) : ∃ ad, A = some ad ∧ w.cell? (ad.add i) = some (.bool (rdOf false xs i)) := by
  obtain ⟨ad, c, e, _, hK, hc⟩ := Kd.C_get h false (i : Int) (by omega) (by omega)
  have hK' : c = [.bool (xs.getD (i : Int).toNat false)] := hK
  subst hK'
  have := hc 0 _ rfl
  exact ⟨ad, e, by simpa [Kd.bool, Kd.scalar, rdOf] using this⟩
set_option maxHeartbeats 4000000 in
set_option maxRecDepth 100000 in
theorem path_calls (A0 : Option Addr) (c0 : Nat) (l : List S46) (id tasks : Int) (w : World) (hr : Kd.C k46 w A0 l.length l) (hc : l.length ≤ c0) (hl : l.length ≤ 4398046510976) :
    Calls Try.prog 16 #[.slice A0 l.length c0, .int .i64 id, .int .i64 tasks] w (PathPost w (pathP l id tasks)) := by
  have hlen := foundP_len l id tasks
  have HF := Aside0.mk (found_calls A0 c0 l id tasks w hr hc hl)
  obtain ⟨⟨ev, bf, er⟩, hf⟩ : ∃ r, foundP l id tasks = r := ⟨_, rfl⟩
  have hsp : pathP l id tasks = if er = 0 then (if ev.length > 2000 then ([], 182) else (placesN bf 0 0, 0)) else ([], er) := by unfold pathP; rw [hf]
  rw [hf] at HF hlen
  have hbl : bf.length = ev.length := hlen.2
  clear hf hlen hr hc
  by_cases he : er = 0
  · rw [if_pos he] at hsp
    subst he
    by_cases hbig : ev.length > 2000
    · rw [if_pos hbig] at hsp
      have HS := Aside0.mk hsp
      have hbg : (2000 : Int) < (ev.length : Int) := by omega
      clear hsp hbl hbig
      go_enter Try.func16, Try.ntmps16
      go_wp2_with (go_at_call 30; refine HF.out.mono ?_; rintro e1 w1 ⟨v1, v2, rfl, hR1, hR2, hb1⟩; obtain ⟨A1, c1, hv1, hl1, hC1⟩ := Kd.R_reads hR1; simp only at hv1 hl1 hC1; subst hv1)
      go_ret2
      unfold PathPost
      rw [HS.out]
      exact ⟨_, rfl, Kd.R_nil _ _ _ _ _, hb1⟩
    · rw [if_neg hbig] at hsp
      have HS := Aside0.mk hsp
      have hbg : ¬ (2000 : Int) < (ev.length : Int) := by omega
      have hb2 : bf.length ≤ 2000 := by omega
      have HBL := Aside0.mk hbl
      clear hsp hbl hbig
      go_enter Try.func16, Try.ntmps16
      go_wp2_with (go_at_call 30; refine HF.out.mono ?_; rintro e1 w1 ⟨v1, v2, rfl, hR1, hR2, hb1⟩; obtain ⟨A1, c1, hv1, hl1, hC1⟩ := Kd.R_reads hR1; obtain ⟨A2, c2, hv2, hl2, hC2⟩ := Kd.R_reads hR2; simp only at hv1 hl1 hC1 hv2 hl2 hC2; subst hv1; subst hv2)
      have HB1 := Aside0.mk hb1
      have HC2 := Aside0.mk hC2
      clear hb1 hR1 hR2 hC1 hC2
      go_loopw [11, 12, 32] (fun v11 v12 v32 wr => POut w1 bf v11 v12 v32 wr) (fun _ _ v32 _ => bf.length - (intOf v32).toNat)
      case atStart => exact ⟨0, 0, [], Nat.zero_le _, Nat.le_refl _, rfl, rfl, rfl, Kd.R_nil _ _ _ _ _, Below.refl _ _⟩
      case round =>
        obtain ⟨i, dn, acc, hi, hd, rfl, rfl, hacc, hR, hb⟩ := hrel
        have HR := Aside0.mk hR
        have HB := Aside0.mk hb
        have HACC := Aside0.mk hacc
        clear hR hb hacc
        by_cases hlt : i < bf.length
        · obtain ⟨ad, ea, g0⟩ := atBool (Kd.C_below HC2.out HB.out) i hlt
          subst ea
          have hrd : rdOf false bf (i : Int) = bf[i] := by simp [rdOf, List.getD_eq_getElem?_getD, List.getElem?_eq_getElem hlt]
          rw [hrd] at g0
          clear hrd
          have hcons : acc ++ placesN (bf[i] :: bf.drop (i + 1)) i dn = placesN bf 0 0 := by rw [← List.drop_eq_getElem_cons hlt]; exact HACC.out
          rw [placesN_cons] at hcons
          obtain ⟨bb, hbb⟩ : ∃ bb, bf[i] = bb := ⟨_, rfl⟩
          rw [hbb] at hcons g0
          clear hbb
          cases bb with
          | false =>
            have HCN := Aside0.mk hcons
            clear hcons
            go_wp2_with fail
            go_roundw
            case rel => exact ⟨i + 1, dn, acc, by omega, by omega, by go_num, rfl, by simpa using HCN.out, HR.out, HB.out⟩
            case measure => simp [intOf]; omega
          | true =>
            have hcons2 : acc ++ (down (i - dn) ((i : Int) - 1) ++ placesN (bf.drop (i + 1)) (i + 1) (dn + 1)) = placesN bf 0 0 := by simpa using hcons
            have HCN := Aside0.mk hcons2
            clear hcons2
            clear hcons
            obtain ⟨wo, hwo⟩ : ∃ wo : World, wo = wr := ⟨_, rfl⟩
            subst hwo
            go_wp2_with fail
            go_loopw [11, 15] (fun v11 v15 wr => PIn w1 i dn (acc ++ down (i - dn) ((i : Int) - 1)) v11 v15 wr) (fun _ v15 _ => (intOf v15 + 1 - dn).toNat)
            case atStart => exact ⟨i - dn, (i : Int) - 1, acc, Nat.le_refl _, ⟨by omega⟩, rfl, rfl, HR.out, HB.out⟩
            case round =>
              obtain ⟨c, j, ac, hcl, HJ, rfl, hdn, hR2, hb3⟩ := hrel
              have H2 := Aside0.mk hR2
              have B2 := Aside0.mk hb3
              have hac : ac.length ≤ 2000 * 4000 := by
                have := congrArg List.length hdn
                rw [List.length_append, List.length_append, down_len, down_len] at this
                have h3 := congrArg List.length HCN.out
                have h4 := placesN_len bf 0 0
                rw [List.length_append, List.length_append, down_len] at h3
                have h5 : bf.length * (0 + bf.length) ≤ 2000 * 2000 := Nat.mul_le_mul hb2 (by omega)
                omega
              have HD := Aside0.mk hdn
              clear hR2 hb3 hdn
              by_cases h0 : c = 0
              · have hlt2 : ¬ (dn : Int) ≤ j := by have := HJ.out; omega
                have hj2 : j ≤ 4000 := by have := HJ.out; omega
                go_wp2_with fail
                go_roundw
                case rel =>
                  refine ⟨i + 1, dn + 1, ac, by omega, by omega, by go_num, by go_num, ?_, H2.out, B2.out⟩
                  have h1 := HD.out
                  have h2 := HCN.out
                  rw [h0] at h1
                  simp only [down, List.append_nil] at h1
                  rw [← List.append_assoc, ← h1] at h2
                  exact h2
                case measure => simp [intOf]; omega
              · obtain ⟨c, rfl⟩ : ∃ m, c = m + 1 := ⟨c - 1, by omega⟩
                have hlt2 : (dn : Int) ≤ j := by have := HJ.out; omega
                have hj2 : j ≤ 4000 := by have := HJ.out; omega
                go_wp2_with (at_builtin; (refine Kd.R_append (Kd.int .i64) w1.heap.size (by rfl) (.tmp 46) (.tmp 48) 32 3 (.int .i64 0) 8 (by rfl) Try.underlying32 info3 rfl (by decide) (by decide) u11 ac j [.int .i64 j] (fun _ => True) (fun _ => False) (by rfl) (by rfl) rfl (fun _ hk => hk.elim) (fun _ _ => trivial) H2.out B2.out B2.out.size ?bl ?_); (case bl => omega); intro v11n w4 hR4 hb4 _ _)
                go_roundw
                case rel =>
                  refine ⟨c, j - 1, ac ++ [j], by omega, ⟨by have := HJ.out; omega⟩, by first | rfl | go_num, ?_, hR4, hb4⟩
                  have h1 := HD.out
                  rw [← h1, List.append_assoc]
                  rfl
                case measure => simp [intOf]; omega
        · obtain rfl : i = bf.length := by omega
          go_wp2_with fail
          go_ret2
          unfold PathPost
          rw [HS.out]
          have h1 := HACC.out
          rw [List.drop_eq_nil_of_le (Nat.le_refl _)] at h1
          simp only [placesN, List.append_nil] at h1
          subst h1
          exact ⟨_, rfl, Kd.R_lower HR.out HB1.out.size, below_then HB1.out HB1.out.size HB.out⟩
  · rw [if_neg he] at hsp
    have HS := Aside0.mk hsp
    have hne : (er != 0) = true := by simp [he]
    clear he hsp
    go_enter Try.func16, Try.ntmps16
    go_wp2_with (go_at_call 30; refine HF.out.mono ?_; rintro e1 w1 ⟨v1, v2, rfl, hR1, hR2, hb1⟩)
    go_ret2
    unfold PathPost
    rw [HS.out]
    exact ⟨_, rfl, Kd.R_nil _ _ _ _ _, hb1⟩
theorem pathP_len (l : List S46) (id tasks : Int) : (pathP l id tasks).1.length ≤ 4000000 := by
  have h := (foundP_len l id tasks).2
  unfold pathP
  split
  · split
    · simp
    · have h4 := placesN_len (foundP l id tasks).2.1 0 0
      have h5 : (foundP l id tasks).2.1.length * (0 + (foundP l id tasks).2.1.length) ≤ 2000 * 2000 := Nat.mul_le_mul (by omega) (by omega)
      simp only
      omega
  · simp
end Go.Proofs.Ytammigfckdgljaa.PWitnessSplit
