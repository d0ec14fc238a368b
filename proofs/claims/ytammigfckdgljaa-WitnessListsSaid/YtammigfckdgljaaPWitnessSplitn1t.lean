import Derived.Test.YtammigfckdgljaaPWitnessSplitn0t
namespace Go.Proofs.Ytammigfckdgljaa.PWitnessSplit
open Go.RowKit Go.Maps Go.Proofs.YtammigfckdgljaaW.PrintWords Go.Proofs.YtammigfckdgljaaW.PrintLast Go.Proofs.YtammigfckdgljaaW.PrintMore
set_option linter.unusedVariables false
set_option linter.unusedSimpArgs false

theorem info24 : (Try.prog.info? 24).map (fun i => (i.zero, i.size, i.bytes)) = some (some (.slice none 0 0), 1, 24) := by kernel_rfl
abbrev kP : Kd (List S48) := Kd.slice 48 k48
theorem at_row {w : World} {A : Option Addr} {n : Nat} {xs : List (List S48)} (h : Kd.C kP w A n xs) (i : Nat) (h1 : i < n) : ∃ ad A1 c1, A = some ad ∧ w.cell? (ad.add i) = some (.slice A1 (xs.getD i []).length c1) ∧ (xs.getD i []).length ≤ c1 ∧ k48.C w A1 (xs.getD i []).length (xs.getD i []) := by
  obtain ⟨ad, c, e, _, hK, hc⟩ := Kd.C_get h ([] : List S48) (i : Int) (by omega) (by omega)
  obtain ⟨A1, c1, hk, hl, hr⟩ := hK
  subst hk
  have := hc 0 _ rfl
  exact ⟨ad, A1, c1, e, by simpa [kP, Kd.slice] using this, hl, hr⟩
theorem flat_step (ps : List (List S48)) (i : Nat) (h : i < ps.length) : (ps.drop i).reverse.flatten = (ps.drop (i + 1)).reverse.flatten ++ ps.getD i [] := by
  rw [List.drop_eq_getElem_cons h, List.reverse_cons, List.flatten_append]
  simp [List.getD_eq_getElem?_getD, List.getElem?_eq_getElem h]
theorem flat_le (ps : List (List S48)) (i : Nat) : (ps.drop i).reverse.flatten.length ≤ ps.reverse.flatten.length := by
  have : ps.reverse.flatten = (ps.drop i).reverse.flatten ++ (ps.take i).reverse.flatten := by
    rw [← List.flatten_append, ← List.reverse_append, List.take_append_drop]
  rw [this, List.length_append]
  omega
theorem flat_snoc (ps : List (List S48)) (p : List S48) : (ps ++ [p]).reverse.flatten = p ++ ps.reverse.flatten := by simp
def LinePost (w : World) (r : List S48 × Int) (e : Ending) (w' : World) : Prop :=
  ∃ v : Value, e = .returned (.tuple #[v, .int .i64 r.2]) ∧ Kd.R k48 48 w' w.heap.size (fun _ => True) v r.1 ∧ Below w.heap.size w w'
def LIn1 (w : World) (X : List S46) (v10 v37 : Value) (wr : World) : Prop :=
  ∃ i : Nat, i ≤ X.length ∧ v37 = .int .i64 i ∧ Kd.R k48 48 wr w.heap.size (fun _ => True) v10 (stp (X.take i)) ∧ Below w.heap.size w wr
def LIn2 (w : World) (l : List S46) (ls : List S72) (tasks : Int) (mb bx : Nat) (R : List S48 × Int) (v8 v9 : Value) (wr : World) : Prop :=
  ∃ (n f : Nat) (ps : List (List S48)), v8 = .int .i64 n ∧ n < ls.length ∧ n < f ∧ Aside0 (backP tasks ls f n ps.reverse.flatten = R) ∧ ps.length + n ≤ ls.length ∧ ps.reverse.flatten.length + off ls n ≤ l.length ∧
    kP.R 24 wr w.heap.size (fun _ => True) v9 ps ∧ Below w.heap.size w wr ∧ isMapAt wr mb ∧ wr.heap[bx]? = some (.cells #[.map (some mb)] 75 (0, 0))
def LIn3 (w : World) (ps : List (List S48)) (v18 v19 : Value) (wr : World) : Prop :=
  ∃ (i : Nat) (j : Int), i ≤ ps.length ∧ Aside0 (j = (i : Int) - 1) ∧ v19 = .int .i64 j ∧ Kd.R k48 48 wr w.heap.size (fun _ => True) v18 (ps.drop i).reverse.flatten ∧ Below w.heap.size w wr
theorem rd72 (ls : List S72) (j : Nat) : rd_T72 ls (j : Int) = ls.getD j z72 := by simp [rd_T72]
/-- what parts asks of a life -/
theorem piece_facts {l : List S46} {ls : List S72} {tasks id : Int} {j e : Nat} (hl : l.length ≤ 4398046510976) (ho1 : ∀ x ∈ ls, ∀ t ∈ x.f1, okP t tasks) (ho2 : ∀ x ∈ ls, x.f1.length ≤ l.length) (ht2 : tasks ≤ 12) (hj : j < ls.length) (he : fst id (ls.getD j z72).f1 = some e) :
    (ls.getD j z72).f1.length * 32 ≤ 140737488351232 ∧ witness_life_end.f (l.length + 1) (ls.getD j z72).f0 (ls.getD j z72).f1 id = some (e : Int) ∧ e ≤ (ls.getD j z72).f1.length ∧ (∀ q : Nat, q < e → 0 ≤ (rd_T46 (ls.getD j z72).f1 q).f1 ∧ (rd_T46 (ls.getD j z72).f1 q).f1 ≤ 12) := by
  rw [getD72 hj] at he ⊢
  have hjm : ls[j] ∈ ls := List.getElem_mem hj
  have hxl := ho2 _ hjm
  have hel := fst_lt id _ e he
  refine ⟨by omega, ?_, by omega, fun q hq => ?_⟩
  · have := end_f id ls[j].f0 ls[j].f1 tasks (ho1 _ hjm) (by omega) (l.length + 1) (by omega)
    rw [he] at this
    exact this
  · rw [rd46 _ q (by omega)]
    have := ho1 _ hjm _ (List.getElem_mem (show q < ls[j].f1.length by omega))
    unfold okP at this
    omega
theorem stp_take (X : List S46) (i : Nat) (h : i < X.length) : stp (X.take (i + 1)) = if X[i].f0 = 1 then stp (X.take i) ++ [evOf X[i]] else stp (X.take i) := by
  rw [List.take_succ_eq_append_getElem h, stp_snoc]
theorem isMapAt.kept {w w' : World} {b : Nat} {row : Option Nat} (h : isMapAt w b) (hg : w.grownBy w' row) (hne : some b ≠ row) : isMapAt w' b := by
  obtain ⟨es, cl, hb⟩ := h
  exact ⟨es, cl, (hg.block b (Array.getElem?_eq_some_iff.1 hb).1 hne).trans hb⟩
theorem grown_drew {w w1 : World} {b : Nat} (h : w.drew.grownBy w1 (some b)) : w.grownBy w1 (some b) := ⟨h.os, h.tape, h.output, h.size, h.block⟩
set_option maxHeartbeats 4000000 in
set_option maxRecDepth 100000 in
theorem line_calls (A0 : Option Addr) (c0 : Nat) (l : List S46) (tasks : Int) (w : World) (hr : Kd.C k46 w A0 l.length l) (hc : l.length ≤ c0) (hl : l.length ≤ 4398046510976) :
    Calls Try.prog 19 #[.slice A0 l.length c0, .int .i64 tasks] w (LinePost w (lineP l tasks)) := by
  have HR := Aside0.mk hr
  have HC := Aside0.mk hc
  have HL := Aside0.mk hl
  have hchk := check_f l tasks (by omega) (l.length + 40) (by omega)
  by_cases hcan : can l tasks = true
  · rw [if_pos hcan] at hchk
    obtain ⟨ht1, ht2, hok⟩ := can_all hcan
    have HK := Aside0.mk hchk
    have hlv := lives_f l hl (l.length + 1) (by omega)
    have hL := laid_l l
    obtain ⟨hp0, h00⟩ := cut_head l
    obtain ⟨ho1, ho2, ho3⟩ := cutL_ok tasks l.length l 0 [] hok (by simp) (by simp)
    obtain ⟨ls, hls⟩ : ∃ ls, cutL l 0 [] = ls := ⟨_, rfl⟩
    have hP : lineP l tasks = backP tasks ls ls.length (ls.length - 1) (stp (ls.getD (ls.length - 1) z72).f1) := by unfold lineP; rw [if_pos hcan, hls]
    rw [hls] at hlv hL hp0 h00 ho1 ho2 ho3
    have hsk : ∀ (id : Int) (n : Nat), n < ls.length → witness_seek.f (ls.length + l.length + 3) ls (n : Int) id = some (seekN id ls n) := by
      intro id n hn
      unfold witness_seek.f
      rw [wrap_in (by omega) (by omega)]
      exact seek_l0 id ls tasks l.length ho1 ho2 (by omega) (by omega) n _ (by omega) (by omega)
    have hpf := fun (id : Int) (j e : Nat) (hj : j < ls.length) (he : fst id (ls.getD j z72).f1 = some e) => piece_facts hl ho1 ho2 ht2 hj he
    obtain ⟨m, hm⟩ : ∃ m, ls.length = m + 1 := ⟨ls.length - 1, by omega⟩
    have hlb := last_bound hL hm
    have hX : rd_T72 ls ((ls.length : Int) - 1) = ls.getD m z72 := by rw [hm, show (((m + 1 : Nat) : Int) - 1) = ((m : Nat) : Int) by omega, rd72]
    have hxl : (ls.getD m z72).f1.length ≤ l.length := by rw [getD72 (show m < ls.length by omega)]; exact ho2 _ (List.getElem_mem _)
    obtain ⟨R, hRR⟩ : ∃ R, lineP l tasks = R := ⟨_, rfl⟩
    rw [hRR]
    rw [hRR, hm, show m + 1 - 1 = m from rfl] at hP
    obtain ⟨X, hXX⟩ : ∃ X, ls.getD m z72 = X := ⟨_, rfl⟩
    rw [hXX] at hlb hX hxl hP
    have HV := Aside0.mk hlv
    have HSK := Aside0.mk hsk
    have HPF := Aside0.mk hpf
    have HLB := Aside0.mk hlb
    have HX := Aside0.mk hX
    have HXL := Aside0.mk hxl
    have HP := Aside0.mk hP
    have HO1 := Aside0.mk ho1
    have HO2 := Aside0.mk ho2
    have HO3 := Aside0.mk ho3
    have H00 := Aside0.mk h00
    clear hr hc hchk hlv hsk hpf hlb hX hxl hP ho1 ho2 ho3 h00 hcan hok hls hL hRR hXX hl
    have hmm := @run_makeMap Try.prog
    have hmb : ls.length ≤ 4398046510977 := by have := HO3.out; have := HL.out; omega
    have HMM := Aside0.mk hm
    have hnn : 0 ≤ (ls.length : Int) - 1 := by omega
    clear hm
    go_enter Try.func19, Try.ntmps19
    go_wp2_with (first
      | (go_at_call 36; refine (witness_check.calls _ _ _ l tasks 0 _ HR.out HC.out HK.out).mono ?_; rintro e1 w1 ⟨rfl, hb1⟩)
      | (go_at_call 37; refine (witness_lives.calls _ (fun _ => True) _ _ l ls _ (V46 (Kd.C_below HR.out hb1) HC.out) HV.out).mono ?_; rintro e2 w2 ⟨v2, rfl, hN2, hb2⟩; obtain ⟨A2, c2, hv2, hl2, hC2⟩ := Kd.N_reads hN2; subst hv2; obtain ⟨ad, A1, c1, ea, g0, g1, hl1, hC1⟩ := at_T72 hC2 ((ls.length : Int) - 1) (by omega) (by omega); rw [HX.out] at g0 g1 hl1 hC1; rw [show ((ls.length : Int) - 1).toNat = ls.length - 1 by omega] at g0 g1; subst ea))
    have HC2 := Aside0.mk hC2
    have HB2 := Aside0.mk (below_then hb1 hb1.size hb2)
    have HX1 := Aside0.mk hC1
    clear hC2 hC1 hN2 hb1 hb2
    go_loopw [10, 37] (fun v10 v37 wr => LIn1 w2 X.f1 v10 v37 wr) (fun _ v37 _ => X.f1.length - (intOf v37).toNat)
    case atStart => exact ⟨0, Nat.zero_le _, rfl, Kd.R_nil _ _ _ _ _, Below.refl _ _⟩
    case round =>
      obtain ⟨i, hi, rfl, hR, hb⟩ := hrel
      have HR1 := Aside0.mk hR
      have HB1 := Aside0.mk hb
      clear hR hb
      have hxb : X.f1.length ≤ 4398046510976 := Nat.le_trans HXL.out HL.out
      by_cases hlt : i < X.f1.length
      · obtain ⟨ad1, e1, q0, q1, q2, q3⟩ := at_T46 (Kd.C_below HX1.out HB1.out) (i : Int) (by omega) (by omega)
        cases e1
        rw [Int.toNat_natCast] at q0 q1 q2 q3
        have hst := stp_take X.f1 i hlt
        rw [rd46 X.f1 i hlt] at q0 q1 q2 q3
        obtain ⟨⟨t0, t1, t2, t3⟩, ht⟩ : ∃ t, X.f1[i] = t := ⟨_, rfl⟩
        rw [ht] at q0 q1 q2 q3 hst
        simp only at q0 q1 q2 q3
        have HST := Aside0.mk hst
        have hsl := stp_len (X.f1.take i)
        have hli : (X.f1.take i).length ≤ i := List.length_take_le _ _
        obtain ⟨S, hS⟩ : ∃ S, stp (X.f1.take i) = S := ⟨_, rfl⟩
        rw [hS] at HR1 HST hsl
        have hA := fun o => below_alloc (Below.refl wr.heap.size wr) o
        have HA := Aside0.mk hA
        clear hA hst ht hS
        by_cases c1 : t0 = 1
        · have b1 : (t0 == 1) = true := beq_iff_eq.2 c1
          go_wp2_with (at_builtin; go_loud (refine Kd.R_append k48 w2.heap.size (by rfl) (.tmp 44) (.tmp 50) 24 48 (.agg #[.int .i64 0, .int .i64 0]) 16 (by rfl) Try.underlying24 info48 rfl (by decide) (by decide) u10 S (⟨t1, t2⟩ : S48) [.int .i64 t1, .int .i64 t2] (fun _ => True) (fun _ => False) (by rfl) ?ah (k48_mkM _ _ _ _) (fun _ hk => hk.elim) (fun _ _ => trivial) (Kd.R_below HR1.out (HA.out _)) (below_alloc HB1.out _) (below_alloc HB1.out _).size ?al ?_); (case ah => exact congrArg (fun n => Value.slice (some ⟨n, 0, none⟩) 1 1) (by simp)); (case al => omega); intro v10n w3 hR3 hb3 _ _)
          go_roundw
          case rel =>
            refine ⟨i + 1, by omega, by go_num, ?_, hb3⟩
            rw [HST.out, if_pos c1]
            exact hR3
          case measure => simp [intOf]; omega
        · have b1 : (t0 == 1) = false := beq_eq_false_iff_ne.2 c1
          go_wp2_with fail
          go_roundw
          case rel =>
            refine ⟨i + 1, by omega, by go_num, ?_, below_alloc HB1.out _⟩
            rw [HST.out, if_neg c1]
            exact Kd.R_below HR1.out (HA.out _)
          case measure => simp [intOf]; omega
      · obtain rfl : i = X.f1.length := by omega
        rw [List.take_length] at HR1
        obtain ⟨A10, c10, hv10⟩ := Kd.R_slice HR1.out
        subst hv10
        obtain ⟨wa, hwa⟩ : ∃ wa : World, wa = wr := ⟨_, rfl⟩
        subst hwa
        go_wp2_with (at_builtin; go_loud (refine Kd.R_append kP w2.heap.size (by rfl) (.tmp 53) (.tmp 55) 70 24 (.slice none 0 0) 24 (by rfl) Try.underlying70 info24 rfl (by decide) (by decide) (.slice none 0 0) [] (stp X.f1) [.slice A10 (stp X.f1).length c10] (fun _ => True) (fun _ => True) (by rfl) (by rfl) ⟨_, rfl, HR1.out⟩ (fun k _ => ⟨trivial, by simp [Value.ownBlock]⟩) (fun _ _ => trivial) (Kd.R_nil _ _ _ _ _) HB1.out HB1.out.size (by simp) ?_); intro v9 w4 hR9 hb4 _ _)
        have hz4 := hb4.size
        have HB4 := Aside0.mk hb4
        have HR4 := Aside0.mk hR9
        clear hb4 hR9
        go_loopw [8, 9] (fun v8 v9 wr => LIn2 w2 l ls tasks w4.heap.size (w4.heap.size + 1) R v8 v9 wr) (fun v8 _ _ => (intOf v8).toNat)
        case atStart =>
          have hA1 := below_alloc (Below.refl w4.heap.size w4) (.map #[] 0)
          have hm := HMM.out
          refine ⟨m, m + 1, [stp X.f1], ?_, by omega, by omega, ⟨?_⟩, by simp; omega, ?_, Kd.R_below HR4.out (below_alloc hA1 _), below_alloc (below_alloc HB4.out _) _, ?_, ?_⟩
          · show Value.int .i64 _ = Value.int .i64 _
            congr 1
            omega
          · simpa using HP.out.symm
          · simpa using HLB.out
          · exact isMapAt.grown (w := w4.alloc (.map #[] 0)) ⟨#[], 0, Go.heap_alloc_new _ _⟩ (below_alloc (Below.refl _ _) _)
          · have := Go.heap_alloc_new (w4.alloc (.map #[] 0)) (.cells #[.map (some w4.heap.size)] 75 (0, 0))
            simpa using this
        case round =>
          obtain ⟨n, f, ps, rfl, hn, hf, HBP, hpl, hfl, hR2, hb2, hm2, hq2⟩ := hrel
          have HR9 := Aside0.mk hR2
          have HBB := Aside0.mk hb2
          have HM := Aside0.mk hm2
          have HQ := Aside0.mk hq2
          have HFL := Aside0.mk hfl
          have hzb : w4.heap.size + 1 < wr.heap.size := (Array.getElem?_eq_some_iff.1 hq2).1
          clear hR2 hb2 hm2 hq2 hfl
          obtain ⟨f, rfl⟩ : ∃ q, f = q + 1 := ⟨f - 1, by omega⟩
          obtain ⟨ad2, B1, d1, ea, r0, r1, _, _⟩ := at_T72 (Kd.C_below HC2.out HBB.out) (n : Int) (by omega) (by omega)
          cases ea
          rw [rd72, Int.toNat_natCast] at r0
          clear r1
          have hnb : n ≤ 4398046510977 := by omega
          obtain ⟨b0, hb0⟩ : ∃ b, (ls.getD n z72).f0 = b := ⟨_, rfl⟩
          rw [hb0] at r0
          have H0 := Aside0.mk hb0
          clear hb0
          by_cases hgt : (0 : Int) < b0
          · have HGT : Aside0 ((ls.getD n z72).f0 > 0) := ⟨by rw [H0.out]; exact hgt⟩
            have hss := HSK.out b0 n hn
            rcases seekN_spec b0 ls n (by omega) with ⟨j, hj, hs, e, he⟩ | hs
            · have hjl : j < ls.length := by omega
              obtain ⟨f1, f2, f3, f4⟩ := HPF.out b0 j e hjl he
              have hsg := segOf_eq hjl he
              rw [← getD72 hjl] at hsg
              have HBD := back_bound hj hn b0 tasks ps.reverse.flatten l.length HFL.out
              have hxj : (ls.getD j z72).f1.length ≤ l.length := by rw [getD72 hjl]; exact HO2.out _ (List.getElem_mem hjl)
              obtain ⟨Y, hY⟩ : ∃ Y, ls.getD j z72 = Y := ⟨_, rfl⟩
              rw [hY] at f1 f2 f3 f4 hsg hxj
              have hpl := partsP_len b0 tasks (Y.f1.take e)
              have hle := List.length_take_le e Y.f1
              have HPE := Aside0.mk (partsP_err b0 tasks (Y.f1.take e))
              obtain ⟨⟨ev, bf, er⟩, hpp⟩ : ∃ r, partsP b0 tasks (Y.f1.take e) = r := ⟨_, rfl⟩
              rw [hsg, hpp] at HBD
              rw [hpp] at hpl HPE
              have hev : ev.length ≤ 4398046510976 := by have h1 : ev.length ≤ (Y.f1.take e).length := hpl.1; have h2 := HL.out; omega
              have hbl : bf.length = ev.length := hpl.2
              rw [hs] at hss
              have HSS := Aside0.mk hss
              have HPP := Aside0.mk hpp
              have F1 := Aside0.mk f1
              have F2 := Aside0.mk f2
              have F3 := Aside0.mk f3
              have F4 := Aside0.mk f4
              have HY := Aside0.mk hY
              have HBL := Aside0.mk hbl
              have HT := Aside0.mk (those_f ev bf true hev hbl (ev.length + 1) (by omega))
              have HSG := Aside0.mk hsg
              have HS' : Aside0 (seekN (ls.getD n z72).f0 ls n = (j : Int)) := ⟨by rw [H0.out]; exact hs⟩
              clear hss hpp f1 f2 f3 f4 hY hbl hsg hs hpl hle hxj he
              by_cases her : er = 0
              · subst her
                have HNX : Aside0 (backP tasks ls f j (thoseN true ev bf ++ ps.reverse.flatten) = R) := ⟨by
                  have h1 := (backP_go (f := f) (out := ps.reverse.flatten) HGT.out HS'.out (by rw [H0.out, HSG.out, HPP.out])).symm.trans HBP.out
                  rw [H0.out, HSG.out, HPP.out] at h1
                  exact h1⟩
                go_wp2_with (go_at_call 38; refine (witness_seek.calls _ _ _ ls (n : Int) b0 (j : Int) _ (Kd.C_below HC2.out HBB.out) hl2 HSS.out).mono ?_; rintro e5 w5 ⟨rfl, hb5⟩)
                have hB5 := below_then HBB.out HBB.out.size hb5
                obtain ⟨ad3, B3, d3, ea3, s0, s1, hl3, hC3⟩ := at_T72 (Kd.C_below HC2.out hB5) (j : Int) (by omega) (by omega)
                cases ea3
                rw [rd72, HY.out] at s0 s1 hl3 hC3
                rw [Int.toNat_natCast] at s0 s1
                have x0 : w5.cell? ⟨w4.heap.size + 1, 0, none⟩ = some (.map (some w4.heap.size)) := blk_cell ((hb5.block _ hzb).trans HQ.out) 0
                have m5 := Aside0.mk (isMapAt.grown HM.out hb5)
                have HR5 := Aside0.mk (Kd.R_below HR9.out hb5)
                have HQ5 := Aside0.mk ((hb5.block _ hzb).trans HQ.out)
                have HB5 := Aside0.mk hB5
                have hz5 := hB5.size
                clear hB5 hb5
                go_region_held3 (fun w' => w'.cell? ⟨w4.heap.size + 1, 0, none⟩ = some (.map (some w4.heap.size)) ∧ w'.cell? (ad.add (j * 2)) = some (.int .i64 Y.f0) ∧ w'.cell? ⟨(ad.add (j * 2)).block, (ad.add (j * 2)).off + 1, none⟩ = some (.slice B3 Y.f1.length d3)) (first | go_keep | exact ⟨cell_grown hg6 m5.out x0, cell_grown hg6 m5.out s0, cell_grown hg6 m5.out s1⟩)
                  ((go_at_call 39; refine (parts_calls (l.length + 1) w4.heap.size Y.f0 B3 d3 Y.f1 b0 tasks e _ ?_ hl3 F1.out F2.out F3.out F4.out ?_ (by omega) ht2).mono ?_; (exact hC3); (exact m5.out); rw [HPP.out]; rintro e6 w6 ⟨v6, v7, rfl, hR6', hR7', hg6', hm6⟩; have hg6 : w5.grownBy w6 (some w4.heap.size) := ⟨hg6'.os, hg6'.tape, hg6'.output, hg6'.size, hg6'.block⟩; have hR6 : Kd.R k48 48 w6 w5.heap.size (fun _ => True) v6 ev := hR6'; have hR7 : Kd.R Kd.bool 4 w6 w5.heap.size (fun _ => True) v7 bf := hR7'; obtain ⟨A6, c6, hv6, hl6, hC6⟩ := Kd.R_reads hR6; obtain ⟨A7, c7, hv7, hl7, hC7⟩ := Kd.R_reads hR7; subst hv6; subst hv7; clear hg6' hR6' hR7'))
                have hB6 := pw_below_grown HB5.out (some w4.heap.size) HB5.out.size hg6 (fun k hk => by injection hk with hk; omega)
                have hR96 := R_map HR5.out m5.out hg6
                have hq6 := blk_grown hg6 (by omega) HQ5.out
                go_wp2_with (first
                  | (go_at_call 31; refine (witness_those.calls _ _ _ ev _ _ bf true _ _ hC6 hl6 hC7 hl7 HT.out).mono ?_; rintro e7 w7 ⟨v8, rfl, hR8, hb7⟩; have hR97 := Kd.R_below hR96 hb7; have hB7 := below_then hB6 hB6.size hb7; have hR8' := Kd.R_lower hR8 hB6.size; obtain ⟨A8, c8, hv8⟩ := Kd.R_slice hR8; subst hv8)
                  | (at_builtin; go_loud (refine Kd.R_append kP w2.heap.size (by rfl) (.tmp 91) (.tmp 95) 70 24 (.slice none 0 0) 24 (by rfl) Try.underlying70 info24 rfl (by decide) (by decide) u9 ps (thoseN true ev bf) [.slice A8 (thoseN true ev bf).length c8] (fun _ => True) (fun k => True ∧ some k ≠ u9.ownBlock) (by rfl) (by rfl) ⟨_, rfl, Kd.R_apartR hR8' hR97 (by simp [k48, Kd.iso, Kd.pair, Kd.int, Kd.scalar])⟩ (fun _ hk => hk) (fun _ _ => trivial) hR97 hB7 hB7.size ?al ?_); (case al => omega); intro v9n w8 hR9n hb8 hg8 _))
                go_roundw
                case rel =>
                  have hm7 := isMapAt.grown hm6 hb7
                  refine ⟨j, f, ps ++ [thoseN true ev bf], rfl, hjl, by omega, ⟨by rw [flat_snoc]; exact HNX.out⟩, by simp; omega, by rw [flat_snoc]; exact HBD, hR9n, hb8, isMapAt.kept hm7 hg8 (own_ne_map hR97 hm7), blk_row hR97 hg8 ((hb7.block _ (Array.getElem?_eq_some_iff.1 hq6).1).trans hq6) (by decide)⟩
                case measure => simp [intOf]; omega
              · have hall := HPE.out her
                have HER : Aside0 (R = ([], 181)) := ⟨HBP.out.symm.trans (backP_bad HGT.out HS'.out (by rw [H0.out, HSG.out, HPP.out]; exact her))⟩
                obtain rfl : er = 181 := congrArg (fun x => x.2.2) hall
                clear hall her
                go_wp2_with (go_at_call 38; refine (witness_seek.calls _ _ _ ls (n : Int) b0 (j : Int) _ (Kd.C_below HC2.out HBB.out) hl2 HSS.out).mono ?_; rintro e5 w5 ⟨rfl, hb5⟩)
                have hB5 := below_then HBB.out HBB.out.size hb5
                obtain ⟨ad3, B3, d3, ea3, s0, s1, hl3, hC3⟩ := at_T72 (Kd.C_below HC2.out hB5) (j : Int) (by omega) (by omega)
                cases ea3
                rw [rd72, HY.out] at s0 s1 hl3 hC3
                rw [Int.toNat_natCast] at s0 s1
                have x0 : w5.cell? ⟨w4.heap.size + 1, 0, none⟩ = some (.map (some w4.heap.size)) := blk_cell ((hb5.block _ hzb).trans HQ.out) 0
                have m5 := Aside0.mk (isMapAt.grown HM.out hb5)
                have HB5 := Aside0.mk hB5
                have hz5 := hB5.size
                clear hB5 hb5
                go_region_held3 (fun w' => w'.cell? ⟨w4.heap.size + 1, 0, none⟩ = some (.map (some w4.heap.size)) ∧ w'.cell? (ad.add (j * 2)) = some (.int .i64 Y.f0) ∧ w'.cell? ⟨(ad.add (j * 2)).block, (ad.add (j * 2)).off + 1, none⟩ = some (.slice B3 Y.f1.length d3)) (first | go_keep | exact ⟨cell_grown hg6 m5.out x0, cell_grown hg6 m5.out s0, cell_grown hg6 m5.out s1⟩)
                  ((go_at_call 39; refine (parts_calls (l.length + 1) w4.heap.size Y.f0 B3 d3 Y.f1 b0 tasks e _ ?_ hl3 F1.out F2.out F3.out F4.out ?_ (by omega) ht2).mono ?_; (exact hC3); (exact m5.out); rw [HPP.out]; rintro e6 w6 ⟨v6, v7, rfl, hR6', hR7', hg6', hm6⟩; have hg6 : w5.grownBy w6 (some w4.heap.size) := ⟨hg6'.os, hg6'.tape, hg6'.output, hg6'.size, hg6'.block⟩; clear hg6' hR6' hR7'))
                have hB6 := pw_below_grown HB5.out (some w4.heap.size) HB5.out.size hg6 (fun k hk => by injection hk with hk; omega)
                go_wp2_with fail
                go_ret2
                unfold LinePost
                rw [HER.out]
                exact ⟨_, rfl, Kd.R_nil _ _ _ _ _, below_then HB2.out HB2.out.size hB6⟩
            · rw [hs] at hss
              have HER : Aside0 (R = ([], 180)) := ⟨HBP.out.symm.trans (backP_none HGT.out (by rw [H0.out]; exact hs))⟩
              clear hs
              go_wp2_with (go_at_call 38; refine (witness_seek.calls _ _ _ ls (n : Int) b0 (-1) _ (Kd.C_below HC2.out HBB.out) hl2 hss).mono ?_; rintro e5 w5 ⟨rfl, hb5⟩)
              go_ret2
              unfold LinePost
              rw [HER.out]
              exact ⟨_, rfl, Kd.R_nil _ _ _ _ _, below_then HB2.out HB2.out.size (below_then HBB.out HBB.out.size hb5)⟩
          · have HER : Aside0 (R = (ps.reverse.flatten, 0)) := ⟨HBP.out.symm.trans (backP_end (by rw [H0.out]; exact hgt))⟩
            obtain ⟨A9, c9, hv9, hl9, hC9⟩ := Kd.R_reads HR9.out
            subst hv9
            have HC9 := Aside0.mk hC9
            clear hC9
            have hpb : ps.length ≤ 4398046510977 := by omega
            have hfb : ps.reverse.flatten.length ≤ 4398046510976 := by have := HFL.out; have := HL.out; omega
            obtain ⟨wo, hwo⟩ : ∃ wo : World, wo = wr := ⟨_, rfl⟩
            subst hwo
            go_wp2_with fail
            go_loopw [18, 19] (fun v18 v19 wr => LIn3 wo ps v18 v19 wr) (fun _ v19 _ => (intOf v19 + 1).toNat)
            case atStart => exact ⟨ps.length, (ps.length : Int) - 1, Nat.le_refl _, ⟨rfl⟩, rfl, by rw [List.drop_length]; exact Kd.R_nil _ _ _ _ _, Below.refl _ _⟩
            case round =>
              obtain ⟨i, j, hi, HJ, rfl, hR3, hb3⟩ := hrel
              have HR3 := Aside0.mk hR3
              have HB3 := Aside0.mk hb3
              clear hR3 hb3
              by_cases hi0 : i = 0
              · have hlt : ¬ (0 : Int) ≤ j := by have := HJ.out; omega
                have hjb : -1 ≤ j := by have := HJ.out; omega
                go_wp2_with fail
                go_ret2
                unfold LinePost
                rw [HER.out]
                subst hi0
                have hBo := below_then HB2.out HB2.out.size HBB.out
                exact ⟨_, rfl, Kd.R_lower (by simpa using HR3.out) hBo.size, below_then hBo hBo.size HB3.out⟩
              · obtain ⟨i, rfl⟩ : ∃ q, i = q + 1 := ⟨i - 1, by omega⟩
                obtain rfl : j = (i : Int) := by have := HJ.out; omega
                obtain ⟨ad9, A10, c10, ea9, z0, hl10, hC10⟩ := at_row (Kd.C_below HC9.out HB3.out) i (by omega)
                cases ea9
                have hst := flat_step ps i (by omega)
                have hln := flat_le ps i
                rw [hst, List.length_append] at hln
                have HST := Aside0.mk hst
                obtain ⟨p, hp⟩ : ∃ p, ps.getD i [] = p := ⟨_, rfl⟩
                rw [hp] at z0 hl10 hC10 hln HST
                clear hst hp
                go_wp2_with (at_builtin; go_loud (refine Kd.R_append_rows k48 (Rr := k48.K wr) wo.heap.size (by rfl) (.tmp 104) (.tmp 108) 24 48 (.agg #[.int .i64 0, .int .i64 0]) 16 (by rfl) Try.underlying24 info48 rfl (by decide) (by decide) u18 (ps.drop (i + 1)).reverse.flatten p A10 p.length c10 (fun _ => True) (fun _ => False) (by rfl) (by rfl) HR3.out hC10 (fun x cs h => (k48_open h) ▸ k48_mkM _ _ _ x) (fun _ h => h.elim) (fun _ _ => trivial) HB3.out HB3.out.size ?al ?_); (case al => omega); intro v1 w9 hR9 hb9 _ _)
                go_roundw
                case rel => exact ⟨i, (i : Int) - 1, by omega, ⟨rfl⟩, by go_num, by rw [HST.out]; exact hR9, hb9⟩
                case measure => simp [intOf]
  · rw [if_neg hcan] at hchk
    have HF : Aside0 (lineP l tasks = ([], 181)) := ⟨by unfold lineP; rw [if_neg hcan]⟩
    go_enter Try.func19, Try.ntmps19
    go_wp2_with (go_at_call 36; refine (witness_check.calls _ _ _ l tasks 181 _ HR.out HC.out hchk).mono ?_; rintro e1 w1 ⟨rfl, hb1⟩)
    go_ret2
    unfold LinePost
    rw [HF.out]
    exact ⟨_, rfl, Kd.R_nil _ _ _ _ _, hb1⟩
theorem backP_len (tasks : Int) (ls : List S72) (L : Nat) : ∀ (f n : Nat) (out : List S48), n < ls.length → out.length + off ls n ≤ L → (backP tasks ls f n out).1.length ≤ L
  | 0, n, out, _, h => by
    show out.length ≤ L
    omega
  | f + 1, n, out, hn, h => by
    by_cases hb : (ls.getD n z72).f0 > 0
    · rcases seekN_spec (ls.getD n z72).f0 ls n (by omega) with ⟨j, hj, hs, e, he⟩ | hs
      · by_cases hp : (partsP (ls.getD n z72).f0 tasks (segOf ls (ls.getD n z72).f0 j)).2.2 = 0
        · rw [backP_go hb hs hp]
          exact backP_len tasks ls L f j _ (by omega) (back_bound hj hn _ tasks out L h)
        · rw [backP_bad hb hs hp]; simp
      · rw [backP_none hb hs]; simp
    · rw [backP_end hb]
      show out.length ≤ L
      omega
theorem lineP_len (l : List S46) (tasks : Int) : (lineP l tasks).1.length ≤ l.length := by
  unfold lineP
  by_cases hc : can l tasks = true
  · rw [if_pos hc]
    have hL := laid_l l
    obtain ⟨hp, _⟩ := cut_head l
    obtain ⟨m, hm⟩ : ∃ m, (cutL l 0 []).length = m + 1 := ⟨(cutL l 0 []).length - 1, by omega⟩
    have hlb := last_bound hL hm
    rw [hm, show m + 1 - 1 = m from rfl]
    exact backP_len tasks _ l.length _ m _ (by omega) hlb
  · rw [if_neg hc]; simp
end Go.Proofs.Ytammigfckdgljaa.PWitnessSplit
