import Derived.Test.YtammigfckdgljaaPWitnessSplitt0
import Derived.Test.YtammigfckdgljaaPWitnessSplitgT2
namespace Go.Proofs.Ytammigfckdgljaa.PWitnessSplit
open Go.RowKit Go.Maps Go.Proofs.YtammigfckdgljaaW.PrintWords Go.Proofs.YtammigfckdgljaaW.PrintLast Go.Proofs.YtammigfckdgljaaW.PrintMore
set_option linter.unusedVariables false
set_option linter.unusedSimpArgs false

theorem heap48 : Kd.Heap k48 := Kd.heap_iso _ (Kd.heap_pair (Kd.heap_int _) (Kd.heap_int _))
theorem stT_take (l : List S46) (fr i : Nat) (h1 : fr ≤ i) (h : i < l.length) : stT ((l.drop fr).take (i + 1 - fr)) = if l[i].f0 = 1 then stT ((l.drop fr).take (i - fr)) ++ [evOf l[i]] else stT ((l.drop fr).take (i - fr)) := by
  have hlt : i - fr < (l.drop fr).length := by rw [List.length_drop]; omega
  have hg : (l.drop fr)[i - fr] = l[i] := by
    rw [List.getElem_drop]
    congr 1
    omega
  rw [show i + 1 - fr = (i - fr) + 1 by omega, List.take_succ_eq_append_getElem hlt, stT_snoc, hg]
def TIn1 (w : World) (l : List S46) (fr en : Nat) (v14 v15 : Value) (wr : World) : Prop :=
  ∃ i : Nat, fr ≤ i ∧ i ≤ en ∧ v15 = .int .i64 i ∧ Kd.R k48 48 wr w.heap.size (fun _ => True) v14 (stT ((l.drop fr).take (i - fr))) ∧ Below w.heap.size w wr
def TIn2 (w : World) (tasks : Int) (v16 : Value) (wr : World) : Prop := ∃ t : Nat, (t : Int) ≤ tasks ∧ v16 = .int .i64 t ∧ Below w.heap.size w wr
theorem ofN_len (t : Int) (l : List S48) : (ofN t l).length ≤ l.length := List.length_filter_le _ _
set_option maxHeartbeats 4000000 in
set_option maxRecDepth 100000 in
theorem lawTasks_calls (A0 : Option Addr) (c0 : Nat) (l : List S46) (id tasks : Int) (w : World) (hr : Kd.C k46 w A0 l.length l) (hc : l.length ≤ c0) (hl : l.length ≤ 4398046510976) :
    Calls Try.prog 11 #[.slice A0 l.length c0, .int .i64 id, .int .i64 tasks] w fun e w' => e = .returned (.bool true) ∧ Below w.heap.size w w' := by
  have HR := Aside0.mk hr
  have HC := Aside0.mk hc
  have HL := Aside0.mk hl
  by_cases he : (foundP l id tasks).2.2 = 0
  · obtain ⟨ht1, ht2, fr, en, L, hfe, hel, hlf, hpw, hrun, hf, hs⟩ := okT l id tasks hl he
    have hba := bef_aft_len L
    have hLl : L.length ≤ l.length := by
      have h1 := congrArg List.length hrun
      have h2 := stT_len ((l.drop fr).take (en - fr))
      rw [List.length_map] at h1
      rw [List.length_take, List.length_drop] at h2
      omega
    have hpl := pathP_len l id tasks
    have hp0 : pathP l id tasks = if L.length > 2000 then ([], 182) else (placesN (L.map Prod.snd) 0 0, 0) := by
      unfold pathP
      rw [hf, if_pos rfl]
      simp only [List.length_map]
    obtain ⟨⟨ps, fe⟩, hp⟩ : ∃ r, pathP l id tasks = r := ⟨_, rfl⟩
    rw [hp] at hp0 hpl
    have hpsl : ps.length ≤ 4000000 := hpl
    have hbig : fe ≠ 0 → L.length > 2000 ∧ fe = 182 := by
      intro hne
      by_cases h2 : L.length > 2000
      · rw [if_pos h2] at hp0
        injection hp0 with h3 h4
        exact ⟨h2, h4⟩
      · rw [if_neg h2] at hp0
        injection hp0 with h3 h4
        exact absurd h4 hne
    have hex : fe = 0 → ∃ k, eddylaw18_exchanged.f k (L.map Prod.fst) ps (bef L) (aft L) = some (true, bef L ++ aft L) := by
      intro h0
      by_cases h2 : L.length > 2000
      · rw [if_pos h2] at hp0
        injection hp0 with h3 h4
        rw [h0] at h4
        cases h4
      · rw [if_neg h2] at hp0
        injection hp0 with h3 h4
        subst h3
        exact exT_f L hpw (by omega) (by omega)
    have hof := fun t => pair_of t L hpw
    have hrl : (L.map Prod.fst).length = L.length := List.length_map _
    obtain ⟨rn, hrn⟩ : ∃ rn, L.map Prod.fst = rn := ⟨_, rfl⟩
    obtain ⟨ea, has⟩ : ∃ ea, bef L = ea := ⟨_, rfl⟩
    obtain ⟨eb, hbs⟩ : ∃ eb, aft L = eb := ⟨_, rfl⟩
    rw [hrn] at hrun hex hof hrl
    rw [has] at hs hex hof hba
    rw [hbs] at hs hex hof hba
    have hlen : rn.length = ea.length + eb.length := by omega
    have hrb : rn.length ≤ 4398046510976 := by omega
    have HS := Aside0.mk hs
    have HP := Aside0.mk hp
    have HLF := Aside0.mk hlf
    have HRUN := Aside0.mk hrun
    have HBIG := Aside0.mk hbig
    have HEX := Aside0.mk hex
    have HOF := Aside0.mk hof
    have HEL := Aside0.mk hel
    have HLEN := Aside0.mk hlen
    have HRL := Aside0.mk hrl
    have hfr0 : ¬ (fr : Int) < 0 := by omega
    have hasb : ea.length ≤ 4398046510976 := by omega
    have hbsb : eb.length ≤ 4398046510976 := by omega
    have hneq : ((rn.length : Int) != (ea.length : Int) + (eb.length : Int)) = false := by
      rw [hlen]
      simp
    have henb : en ≤ 4398046510976 := by omega
    clear hr hc he hlf hpw hrun hf hs hba hLl hpl hp0 hp hbig hex hof hrl hrn has hbs hlen hel hl
    go_enter Try.func11, Try.ntmps11
    go_wp2_with (first
      | (go_at_call 13; refine (split_calls A0 c0 l id tasks _ HR.out HC.out HL.out).mono ?_; rw [HS.out]; rintro e1 w1 ⟨v1, v2, rfl, hR1, hR2, hb1⟩; obtain ⟨A1, c1, hv1, hl1, hC1⟩ := Kd.R_reads hR1; obtain ⟨A2, c2, hv2, hl2, hC2⟩ := Kd.R_reads hR2; simp only at hv1 hv2 hl1 hl2 hC1 hC2; subst hv1; subst hv2)
      | (go_at_call 16; refine (path_calls A0 c0 l id tasks _ (Kd.C_below HR.out hb1) HC.out HL.out).mono ?_; rw [HP.out]; rintro e2 w2 ⟨v3, rfl, hR3, hb2⟩; obtain ⟨A3, c3, hv3, hl3, hC3⟩ := Kd.R_reads hR3; simp only at hv3 hl3 hC3; subst hv3)
      | (go_at_call 22; refine (eddylaw18_life.calls _ A0 c0 l id (fr : Int) (en : Int) _ (Kd.C_below (Kd.C_below HR.out hb1) hb2) HC.out HLF.out).mono ?_; rintro e3 w3 ⟨rfl, hd3⟩))
    have hB3 := below_then (below_then hb1 hb1.size hb2) (Nat.le_trans hb1.size hb2.size) hd3.below
    have HL3 := Aside0.mk (Kd.C_below HR.out hB3)
    have HA3 := Aside0.mk (Kd.C_below (Kd.C_below hC1 hb2) hd3.below)
    have HB3 := Aside0.mk (Kd.C_below (Kd.C_below hC2 hb2) hd3.below)
    have HP3 := Aside0.mk (Kd.C_below hC3 hd3.below)
    have HW3 := Aside0.mk hB3
    clear hR1 hR2 hR3 hC1 hC2 hC3 hb1 hb2 hd3 hB3
    go_loopw [14, 15] (fun v14 v15 wr => TIn1 w3 l fr en v14 v15 wr) (fun _ v15 _ => en - (intOf v15).toNat)
    case atStart => exact ⟨fr, Nat.le_refl _, hfe, rfl, by rw [Nat.sub_self, List.take_zero]; exact Kd.R_nil _ _ _ _ _, Below.refl _ _⟩
    case round =>
      obtain ⟨i, hi1, hi2, rfl, hR, hb⟩ := hrel
      have HRR := Aside0.mk hR
      have HBB := Aside0.mk hb
      clear hR hb
      by_cases hlt : i < en
      · have hil : i < l.length := by have := HEL.out; omega
        obtain ⟨ad, e1, q0, q1, q2, q3⟩ := at_T46 HL3.out (i : Int) (by omega) (by omega)
        cases e1
        rw [Int.toNat_natCast] at q0 q1 q2 q3
        have hst := stT_take l fr i hi1 hil
        rw [rd46 l i hil] at q0 q1 q2 q3
        obtain ⟨⟨t0, t1, t2, t3⟩, ht⟩ : ∃ t, l[i] = t := ⟨_, rfl⟩
        rw [ht] at q0 q1 q2 q3 hst
        simp only at q0 q1 q2 q3
        have HST := Aside0.mk hst
        have hsl := stT_len ((l.drop fr).take (i - fr))
        rw [List.length_take, List.length_drop] at hsl
        obtain ⟨S, hS⟩ : ∃ S, stT ((l.drop fr).take (i - fr)) = S := ⟨_, rfl⟩
        rw [hS] at HRR HST hsl
        have hsb : S.length ≤ 4398046510976 := by omega
        have Q1 := Aside0.mk q1
        have Q2 := Aside0.mk q2
        have p0 := (HBB.out.cell (World.block_lt_of_cell? _ _ q0)).trans q0
        have p1 := (HBB.out.cell (World.block_lt_of_cell? _ _ q1)).trans q1
        have p2 := (HBB.out.cell (World.block_lt_of_cell? _ _ q2)).trans q2
        have hi0 : (0 : Int) ≤ (i : Int) := by omega
        have hil2 : (i : Int) < (l.length : Int) := by omega
        clear hst ht hS q0 q1 q2 q3 hsl
        by_cases c1' : t0 = 1
        · have b1 : (t0 == 1) = true := beq_iff_eq.2 c1'
          go_wp2_with fail
          go_region_held3 (fun w' => w'.cell? ⟨(ad.add (i * 4)).block, (ad.add (i * 4)).off + 1, none⟩ = some (.int .i64 t1) ∧ w'.cell? ⟨(ad.add (i * 4)).block, (ad.add (i * 4)).off + 2, none⟩ = some (.int .i64 t2)) (first | go_keep | exact ⟨(hb4.cell (World.block_lt_of_cell? _ _ Q1.out)).trans Q1.out, (hb4.cell (World.block_lt_of_cell? _ _ Q2.out)).trans Q2.out⟩)
            ((refine Kd.R_append_step k48 (w0 := w3) w3.heap.size (by rfl) (.tmp 77) (.tmp 89) 24 48 (.agg #[.int .i64 0, .int .i64 0]) 16 (by rfl) Try.underlying24 info48 rfl (by decide) (by decide) u14 S (⟨t1, t2⟩ : S48) [.int .i64 t1, .int .i64 t2] (fun _ => True) (fun _ => False) (by rfl) (by rfl) (k48_mkM _ _ _ _) (fun _ hk => hk.elim) (fun _ _ => trivial) (Kd.R_drew HRR.out) (below_drew HBB.out) HBB.out.size (by omega) ?_; intro v14n w4 hR4 hb4 _ _))
          go_wp2_with fail
          go_roundw
          case rel =>
            refine ⟨i + 1, by omega, by omega, by go_num, ?_, hb4⟩
            rw [HST.out, if_pos c1']
            exact hR4
          case measure => simp [intOf]; omega
        · have b1 : (t0 == 1) = false := beq_eq_false_iff_ne.2 c1'
          go_wp2_with fail
          go_roundw
          case rel =>
            refine ⟨i + 1, by omega, by omega, by go_num, ?_, HBB.out⟩
            rw [HST.out, if_neg c1']
            exact HRR.out
          case measure => simp [intOf]; omega
      · obtain rfl : i = en := by omega
        rw [← HRUN.out] at HRR
        obtain ⟨A14, c14, hv14, hl14, hC14⟩ := Kd.R_reads HRR.out
        subst hv14
        obtain ⟨wa, hwa⟩ : ∃ wa : World, wa = wr := ⟨_, rfl⟩
        subst hwa
        have HC14 := Aside0.mk hC14
        clear hC14
        go_wp2_with fail
        go_loopw [16] (fun v16 wr => TIn2 wa tasks v16 wr) (fun v16 _ => (tasks - intOf v16).toNat)
        case atStart => exact ⟨0, by omega, rfl, Below.refl _ _⟩
        case round =>
          obtain ⟨t, htt, rfl, hb⟩ := hrel
          have HB5 := Aside0.mk hb
          clear hb
          by_cases hlt2 : (t : Int) < tasks
          · have hon := HOF.out (t : Int)
            have HON := Aside0.mk hon
            have ho1 := ofN_len (t : Int) rn
            have ho2 := ofN_len (t : Int) ea
            have ho3 := ofN_len (t : Int) eb
            have ho4 : (ofN (t : Int) ea).length + (ofN (t : Int) eb).length ≤ 4398046510976 := by
              have := congrArg List.length hon
              rw [List.length_append] at this
              omega
            have HE := Aside0.mk (sameT (ofN (t : Int) rn) (by omega) ((ofN (t : Int) rn).length + 1) (Nat.lt_succ_self _))
            clear hon
            go_wp2_with fail
            refine (eddylaw18_of.calls _ A14 c14 rn (t : Int) (ofN (t : Int) rn) _ (Kd.C_below HC14.out HB5.out) hl14 (ofT_f rn (t : Int) (by omega))).mono ?_
            rintro e5 w5 ⟨v5, rfl, hR5, hb5⟩
            have hB5 := below_then HB5.out HB5.out.size hb5
            go_wp2_with fail
            refine (eddylaw18_of.calls _ A1 c1 ea (t : Int) (ofN (t : Int) ea) _ (Kd.C_below (Kd.C_below HA3.out HBB.out) hB5) hl1 (ofT_f ea (t : Int) (by omega))).mono ?_
            rintro e6 w6 ⟨v6, rfl, hR6, hb6⟩
            go_wp2_with fail
            refine (eddylaw18_of.calls _ A2 c2 eb (t : Int) (ofN (t : Int) eb) _ (Kd.C_below (Kd.C_below (Kd.C_below HB3.out HBB.out) hB5) hb6) hl2 (ofT_f eb (t : Int) (by omega))).mono ?_
            rintro e7 w7 ⟨v7, rfl, hR7, hb7⟩
            obtain ⟨A5, c5, hv5, hl5, hC5⟩ := Kd.R_reads hR5
            obtain ⟨A7, c7, hv7, hl7, hC7⟩ := Kd.R_reads hR7
            subst hv5
            subst hv7
            have hB67 := below_then hb6 hb6.size hb7
            go_wp2_with (first
              | (at_builtin; go_loud (refine Kd.R_append_rows k48 (Rr := k48.K w7) w5.heap.size (by rfl) (.tmp 109) (.tmp 112) 24 48 (.agg #[.int .i64 0, .int .i64 0]) 16 (by rfl) Try.underlying24 info48 rfl (by decide) (by decide) v6 (ofN (t : Int) ea) (ofN (t : Int) eb) A7 (ofN (t : Int) eb).length c7 (fun _ => True) (fun _ => False) (by rfl) (by rfl) (Kd.R_below hR6 hb7) hC7 (fun x cs h => (k48_open h) ▸ k48_mkM _ _ _ x) (fun _ h => h.elim) (fun _ _ => trivial) hB67 hB67.size ?al ?_); (case al => omega); intro v8 w8 hR8 hb8 _ _; rw [← HON.out] at hR8; obtain ⟨A8, c8, hv8, hl8, hC8⟩ := Kd.R_reads hR8; subst hv8)
              | (go_at_call 15; refine (eddylaw18_sameEvents.calls _ A5 c5 (ofN (t : Int) rn) A8 c8 (ofN (t : Int) rn) true _ (Kd.C_below hC5 hb8) hl5 hC8 hl8 HE.out).mono ?_; rintro e9 w9 ⟨rfl, hd9⟩))
            go_roundw
            case rel => exact ⟨t + 1, by omega, by go_num, below_then (below_then hB5 hB5.size hb8) (Nat.le_trans hB5.size hb8.size) hd9.below⟩
            case measure => simp [intOf]; omega
          · by_cases hf0 : fe = 0
            · subst hf0
              obtain ⟨kx, hkx⟩ := HEX.out rfl
              have HKX := Aside0.mk hkx
              have hBx := below_then HBB.out HBB.out.size HB5.out
              have HBX := Aside0.mk hBx
              have hRx := Kd.R_mono (Kd.R_bound (Kd.R_below HRR.out HB5.out)) (ok' := fun q => w3.heap.size ≤ q) (fun q hq => hq.2.1)
              have HRX := Aside0.mk hRx
              clear hkx hBx hRx
              go_wp2_with (go_at_call 24; refine (eddylaw18_exchanged.calls kx (fun q => w3.heap.size ≤ q) (.slice A14 rn.length c14) rn A3 c3 ps A1 c1 ea A2 c2 eb true (ea ++ eb) w3 _ HBX.out HRX.out (Kd.C_kept_came (Kd.heap_int _) HP3.out HBX.out (fun _ h => h)) hl3 (Kd.C_kept_came heap48 HA3.out HBX.out (fun _ h => h)) hl1 (Kd.C_kept_came heap48 HB3.out HBX.out (fun _ h => h)) hl2 HKX.out).mono ?_; rintro e9 w9 ⟨rfl, _, hb9, _⟩)
              go_ret
              exact ⟨rfl, below_then HW3.out HW3.out.size hb9⟩
            · obtain ⟨h1, rfl⟩ := HBIG.out hf0
              have hgt : (2000 : Int) < (rn.length : Int) := by have := HRL.out; omega
              go_wp2_with fail
              go_ret
              exact ⟨rfl, below_then (below_then HW3.out HW3.out.size HBB.out) (Nat.le_trans HW3.out.size HBB.out.size) HB5.out⟩
  · obtain ⟨kx, hkx⟩ := refT_f l id tasks hl he
    obtain ⟨er, her⟩ : ∃ er, (foundP l id tasks).2.2 = er := ⟨_, rfl⟩
    have hsp : splitP l id tasks = ([], [], er) := by unfold splitP; rw [her] at he ⊢; rw [if_neg he]
    have hpp : pathP l id tasks = ([], er) := by unfold pathP; rw [her] at he ⊢; rw [if_neg he]
    rw [her] at he
    have hne : (er != 0) = true := by simp [he]
    have HS := Aside0.mk hsp
    have HP := Aside0.mk hpp
    have HKX := Aside0.mk hkx
    clear hr hc hl he her hsp hpp hkx
    go_enter Try.func11, Try.ntmps11
    go_wp2_with (first
      | (go_at_call 13; refine (split_calls A0 c0 l id tasks _ HR.out HC.out HL.out).mono ?_; rw [HS.out]; rintro e1 w1 ⟨v1, v2, rfl, hR1, hR2, hb1⟩; obtain ⟨A1, c1, hv1, hl1, hC1⟩ := Kd.R_reads hR1; obtain ⟨A2, c2, hv2, hl2, hC2⟩ := Kd.R_reads hR2; simp only [List.length_nil] at hv1 hv2 hl1 hl2 hC1 hC2; subst hv1; subst hv2)
      | (go_at_call 16; refine (path_calls A0 c0 l id tasks _ (Kd.C_below HR.out hb1) HC.out HL.out).mono ?_; rw [HP.out]; rintro e2 w2 ⟨v3, rfl, hR3, hb2⟩; obtain ⟨A3, c3, hv3, hl3, hC3⟩ := Kd.R_reads hR3; simp only [List.length_nil] at hv3 hl3 hC3; subst hv3)
      | (go_at_call 21; refine (eddylaw18_refusable.calls kx A0 c0 l id tasks true _ (Kd.C_below (Kd.C_below HR.out hb1) hb2) HC.out HKX.out).mono ?_; rintro e3 w3 ⟨rfl, hb3⟩))
    go_ret
    exact ⟨rfl, below_then (below_then hb1 hb1.size hb2) (Nat.le_trans hb1.size hb2.size) hb3⟩
end Go.Proofs.Ytammigfckdgljaa.PWitnessSplit
