import Derived.Test.YtammigfckdgljaaPWitnessSplita4
import Derived.Deep.QuietTactic
import Derived.BigQuiet
namespace Go.Proofs.Ytammigfckdgljaa.PWitnessSplit
open Go.RowKit Go.Maps Go.Proofs.YtammigfckdgljaaW.PrintWords Go.Proofs.YtammigfckdgljaaW.PrintLast Go.Proofs.YtammigfckdgljaaW.PrintMore
set_option linter.unusedVariables false
set_option linter.unusedSimpArgs false

def tl (i : Nat) : List S46 := (List.range i).map fun j : Nat => ⟨901 + (j : Int) % 2, 0, 0, 0⟩
theorem tl_succ (i : Nat) : tl (i + 1) = tl i ++ [⟨901 + (i : Int) % 2, 0, 0, 0⟩] := by unfold tl; rw [List.range_succ, List.map_append]; rfl
theorem tl_len (i : Nat) : (tl i).length = i := by unfold tl; simp
def LChk (w : World) (n : Nat) (v15 : Value) (wr : World) : Prop := ∃ i : Nat, i ≤ n ∧ v15 = .int .i64 i ∧ Below w.heap.size w wr
theorem fl_lo {l fl : List S46} (h : l ++ tl 40 = fl) {i : Nat} (hi : i < l.length) : rd_T46 fl (i : Int) = rd_T46 l (i : Int) := by
  subst h
  unfold rd_T46
  rw [Int.toNat_natCast, List.getD_eq_getElem?_getD, List.getD_eq_getElem?_getD, List.getElem?_append_left hi]
theorem fl_hi {l fl : List S46} (h : l ++ tl 40 = fl) {i : Nat} (h1 : l.length ≤ i) (h2 : i < l.length + 40) : (rd_T46 fl (i : Int)).f0 = 901 + ((i : Int) - (l.length : Int)) % 2 := by
  subst h
  unfold rd_T46
  rw [Int.toNat_natCast, List.getD_eq_getElem?_getD, List.getElem?_append_right h1]
  unfold tl
  rw [List.getElem?_map, List.getElem?_range (by omega)]
  simp only [Option.map_some, Option.getD_some]
  congr 2
  omega
theorem cell_below {w w1 : World} {a : Addr} {v : Value} (h : w.cell? a = some v) (hb : Below w.heap.size w w1) : w1.cell? a = some v := (hb.cell (World.block_lt_of_cell? _ _ h)).trans h
def LFull (w : World) (l : List S46) (v9 v10 : Value) (wr : World) : Prop :=
  ∃ i : Nat, i ≤ 40 ∧ v10 = .int .i64 i ∧ Kd.R k46 46 wr w.heap.size (fun _ => True) v9 (l ++ tl i) ∧ Below w.heap.size w wr
set_option maxHeartbeats 4000000 in
set_option maxRecDepth 100000 in
theorem lawLists_calls (A0 : Option Addr) (c0 : Nat) (l : List S46) (Am : Option Addr) (cm : Nat) (m : List S46) (id tasks : Int) (w : World) (hr : Kd.C k46 w A0 l.length l) (hc : l.length ≤ c0) (hl : l.length ≤ 4398046510976) (hrm : Kd.C k46 w Am m.length m) (hcm : m.length ≤ cm) (hlm : m.length ≤ 4398046510976) :
    Calls Try.prog 12 #[.slice A0 l.length c0, .slice Am m.length cm, .int .i64 id, .int .i64 tasks] w fun e w' => e = .returned (.bool true) ∧ Below w.heap.size w w' := by
  have HR := Aside0.mk hr
  have HC := Aside0.mk hc
  have HL := Aside0.mk hl
  have HRM := Aside0.mk hrm
  have HCM := Aside0.mk hcm
  have HLM := Aside0.mk hlm
  clear hr hc hrm hcm
  go_enter Try.func12, Try.ntmps12
  go_wp2_with (at_builtin; (refine Kd.R_append_rows k46 (Rr := k46.K w) w.heap.size (by rfl) (.const (.slice none 0 0)) (.tmp 25) 23 46 (.agg #[.int .i64 0, .int .i64 0, .int .i64 0, .int .i64 0]) 32 (by rfl) Try.underlying23 info46 rfl (by decide) (by decide) (.slice none 0 0) [] l A0 l.length c0 (fun _ => True) (fun _ => False) (by rfl) (by rfl) (Kd.R_nil _ _ _ _ _) HR.out (fun x cs h => (k46_open h) ▸ k46_mkM _ _ _ x) (fun _ h => h.elim) (fun _ _ => trivial) (Below.refl _ _) (Nat.le_refl _) ?al ?_); (case al => simp; omega); intro v1 w1 hR1 hb1 _ _)
  rw [List.nil_append] at hR1
  have HR1 := Aside0.mk hR1
  have HB1 := Aside0.mk hb1
  clear hR1 hb1
  go_loopw [9, 10] (fun v9 v10 wr => LFull w l v9 v10 wr) (fun _ v10 _ => 40 - (intOf v10).toNat)
  case atStart => exact ⟨0, by omega, rfl, by simpa [tl] using HR1.out, HB1.out⟩
  case round =>
    obtain ⟨i, hi, rfl, hR, hb⟩ := hrel
    have HRR := Aside0.mk hR
    have HBB := Aside0.mk hb
    clear hR hb
    by_cases hlt : i < 40
    · have ht := tl_succ i
      have HT := Aside0.mk ht
      have hfl : (l ++ tl i).length ≤ 4398046511016 := by rw [List.length_append, tl_len]; omega
      obtain ⟨fl, hfe⟩ : ∃ fl, l ++ tl i = fl := ⟨_, rfl⟩
      rw [hfe] at HRR hfl
      have HFE := Aside0.mk hfe
      clear ht hfe
      go_wp2_with (at_builtin; go_loud (refine Kd.R_append k46 w.heap.size (by rfl) (.tmp 31) (.tmp 36) 23 46 (.agg #[.int .i64 0, .int .i64 0, .int .i64 0, .int .i64 0]) 32 (by rfl) Try.underlying23 info46 rfl (by decide) (by decide) u9 fl (⟨901 + (i : Int) % 2, 0, 0, 0⟩ : S46) [.int .i64 (901 + (i : Int) % 2), .int .i64 0, .int .i64 0, .int .i64 0] (fun _ => True) (fun _ => False) (by rfl) (by rfl) (k46_mkM _ _ _ (⟨901 + (i : Int) % 2, 0, 0, 0⟩ : S46)) (fun _ hk => hk.elim) (fun _ _ => trivial) HRR.out HBB.out HBB.out.size ?al2 ?_); (case al2 => omega); intro v9n w3 hR3 hb3 _ _)
      go_roundw
      case rel =>
        refine ⟨i + 1, by omega, by go_num, ?_, hb3⟩
        rw [HT.out, ← List.append_assoc, HFE.out]
        exact hR3
      case measure => simp [intOf]; omega
    · obtain rfl : i = 40 := by omega
      obtain ⟨fl, hfe⟩ : ∃ fl, l ++ tl 40 = fl := ⟨_, rfl⟩
      have hfl : fl.length = l.length + 40 := by rw [← hfe, List.length_append, tl_len]
      have hft : fl.take l.length = l := by rw [← hfe]; exact List.take_left' rfl
      rw [hfe] at HRR
      obtain ⟨A9, c9, hv9, hl9, hC9⟩ := Kd.R_reads HRR.out
      subst hv9
      have hlo : l.length ≤ c9 := by omega
      have hlf : l.length ≤ fl.length := by omega
      have hown := Kd.R_take (m := l.length) HRR.out hlf
      rw [hft] at hown
      have OWN := Aside0.mk hown
      have HFL := Aside0.mk hfl
      have HFE := Aside0.mk hfe
      have HC9 := Aside0.mk hC9
      obtain ⟨wa, hwa⟩ : ∃ wa : World, wa = wr := ⟨_, rfl⟩
      subst hwa
      have BW := HBB
      have FULL := HC9
      have HWA := Aside0.mk HBB.out.size
      have hoq : ∀ q, OwnOf (.slice A9 l.length c9) q → w.heap.size ≤ q ∧ q < wa.heap.size := fun q hq => ⟨Kd.R_base OWN.out q hq, Kd.R_lt OWN.out q hq⟩
      have HOQ0 := Aside0.mk hoq
      clear hoq
      clear hown hfl hfe hft HC9 HBB HRR HR1 HB1
      obtain ⟨X, hX⟩ : ∃ X, askP l id tasks = X := ⟨_, rfl⟩
      have hXl := askP_len l id tasks HL.out
      have hask := fun (W : World) (h : Kd.C k46 W A9 l.length l) => asked_box A9 c9 l id tasks W h hlo HL.out
      rw [hX] at hXl
      simp only [hX] at hask
      have HASK := Aside0.mk hask
      obtain ⟨hX1, hX2, hX3, hX4⟩ := hXl
      have HSX : Aside0 (Small X) := ⟨⟨by omega, by omega, by omega, by omega⟩⟩
      have HX := Aside0.mk hX
      clear hX hask
      go_wp2_with fail
      refine (HASK.out _ (Kd.R_reads' OWN.out).2.2).mono ?_
      rintro ep wp ⟨pa1, pn1, pa2, pn2, pa3, pn3, pa4, pn4, Wp, rfl, rfl, bnp, hbp, hzp, hyp, _⟩
      replace OWN := Aside0.mk (Kd.R_below OWN.out hbp)
      replace BW := Aside0.mk (below_then BW.out BW.out.size hbp)
      replace FULL := Aside0.mk (Kd.C_below FULL.out hbp)
      have hsp : wa.heap.size ≤ wp.heap.size := hzp
      have BX := Aside0.mk (bnp.mono (P' := Zn wa.heap.size wp.heap.size) (fun q hq => ⟨hq.1, hq.2⟩))
      have HZp := Aside0.mk hzp
      have HYp := Aside0.mk hyp
      clear bnp hbp hzp hyp
      go_wp2_with fail
      refine (HASK.out _ (Kd.R_reads' OWN.out).2.2).mono ?_
      rintro eq wq ⟨qa1, qn1, qa2, qn2, qa3, qn3, qa4, qn4, Wq, rfl, rfl, bnq, hbq, hzq, hyq, _⟩
      replace BX := Aside0.mk (BX.out.below hbq)
      replace OWN := Aside0.mk (Kd.R_below OWN.out hbq)
      replace BW := Aside0.mk (below_then BW.out BW.out.size hbq)
      replace FULL := Aside0.mk (Kd.C_below FULL.out hbq)
      have hsq : wp.heap.size ≤ wq.heap.size := Nat.le_trans (alloc_le _ _) hzq
      have BY := Aside0.mk (bnq.mono (P' := Zn wp.heap.size wq.heap.size) (fun q hq => ⟨Nat.le_trans (alloc_le _ _) hq.1, hq.2⟩))
      have HZq := Aside0.mk hzq
      have HYq := Aside0.mk hyq
      clear bnq hbq hzq hyq
      obtain ⟨xa1, xn1, xa2, xn2, xa3, xn3, xa4, xn4, xo, xq, x0, x1, x2, x3, x4, x5, x6, xk⟩ := BX.out.opn
      have xO := Aside0.mk xo
      have xQ := Aside0.mk xq
      have xK := Aside0.mk xk
      clear xo xq xk
      go_wp2_with fail
      clear x0 x1 x2 x3 x4 x5 x6
      refine (kept_box xO.out HSX.out).mono ?_
      rintro er0 wr0 ⟨r0a1, r0n1, r0a2, r0n2, r0a3, r0n3, r0a4, r0n4, Wr0, rfl, hwr0, bnr0, hbr0, hzr0, hyr0, _⟩
      replace BX := Aside0.mk (BX.out.below hbr0)
      replace BY := Aside0.mk (BY.out.below hbr0)
      replace OWN := Aside0.mk (Kd.R_below OWN.out hbr0)
      replace BW := Aside0.mk (below_then BW.out BW.out.size hbr0)
      replace FULL := Aside0.mk (Kd.C_below FULL.out hbr0)
      have hsr0 : wq.heap.size ≤ wr0.heap.size := Nat.le_trans (alloc_le _ _) hzr0
      have BS := Aside0.mk (bnr0.mono (P' := Zn wq.heap.size wr0.heap.size) (fun q hq => ⟨Nat.le_trans (alloc_le _ _) hq.1, hq.2⟩))
      have HZr0 := Aside0.mk hzr0
      have HYr0 := Aside0.mk hyr0
      clear bnr0 hbr0 hzr0 hyr0
      go_wp2_with fail
      rw [← hwr0]
      have hfl2 : fl.length ≤ 4398046511016 := by have := HFL.out; omega
      go_loopw [15] (fun v15 wr => LChk Wr0 fl.length v15 wr) (fun v15 _ => fl.length - (intOf v15).toNat)
      case atStart => exact ⟨0, Nat.zero_le _, rfl, Below.refl _ _⟩
      case round =>
        obtain ⟨i, hi, rfl, hb⟩ := hrel
        have HBB := Aside0.mk hb
        clear hb
        by_cases hlt : i < fl.length
        · obtain ⟨adf, e1, g0, g1, g2, g3⟩ := at_T46 (Kd.C_below FULL.out HBB.out) (i : Int) (by omega) (by omega)
          cases e1
          rw [Int.toNat_natCast] at g0 g1 g2 g3
          have hi0 : (0 : Int) ≤ (i : Int) := by omega
          have hif : (i : Int) < (fl.length : Int) := by omega
          by_cases hll : i < l.length
          · obtain ⟨adl, e2, q0, q1, q2, q3⟩ := at_T46 (Kd.C_below HR.out (below_then BW.out BW.out.size HBB.out)) (i : Int) (by omega) (by omega)
            cases e2
            rw [Int.toNat_natCast] at q0 q1 q2 q3
            rw [fl_lo HFE.out hll] at g0 g1 g2 g3
            obtain ⟨⟨t0, t1, t2, t3⟩, ht⟩ : ∃ t, rd_T46 l (i : Int) = t := ⟨_, rfl⟩
            rw [ht] at g0 g1 g2 g3 q0 q1 q2 q3
            simp only at g0 g1 g2 g3 q0 q1 q2 q3
            have hil : (i : Int) < (l.length : Int) := by omega
            have hnl : decide ((l.length : Int) ≤ (i : Int)) = false := decide_eq_false (by omega)
            have hnl2 : decide (l.length ≤ i) = false := decide_eq_false (by omega)
            clear ht
            go_wp2_with fail
            go_quiet (fail)
            go_wp2_with fail
            go_roundw
            case rel => exact ⟨i + 1, by omega, by go_num, pw_below_drewN HBB.out _⟩
            case measure => simp [intOf]; omega
          · have hfh := fl_hi HFE.out (i := i) (by omega) (by have := HFL.out; omega)
            rw [hfh] at g0
            have hnil : decide ((i : Int) < (l.length : Int)) = false := decide_eq_false (by omega)
            have hnil2 : decide (i < l.length) = false := decide_eq_false (by omega)
            have hge2 : l.length ≤ i := by omega
            have hge : (l.length : Int) ≤ (i : Int) := by omega
            clear hfh g1 g2 g3
            go_wp2_with fail
            go_quiet (fail)
            go_wp2_with fail
            go_roundw
            case rel => exact ⟨i + 1, by omega, by go_num, pw_below_drewN HBB.out _⟩
            case measure => simp [intOf]; omega
        · go_wp2_with fail
          obtain ⟨wc, hwc⟩ : ∃ wc : World, wc = wr := ⟨_, rfl⟩
          subst hwc
          clear hi hlt
          replace BX := Aside0.mk (BX.out.below HBB.out)
          replace BY := Aside0.mk (BY.out.below HBB.out)
          replace BS := Aside0.mk (BS.out.below HBB.out)
          replace OWN := Aside0.mk (Kd.R_below OWN.out HBB.out)
          replace BW := Aside0.mk (below_then BW.out BW.out.size HBB.out)
          replace FULL := Aside0.mk (Kd.C_below FULL.out HBB.out)
          clear HBB
          obtain ⟨ya1, yn1, ya2, yn2, ya3, yn3, ya4, yn4, yo, yq, y0, y1, y2, y3, y4, y5, y6, yk⟩ := BY.out.opn
          have yO := Aside0.mk yo
          have yQ := Aside0.mk yq
          have yK := Aside0.mk yk
          clear yo yq yk
          obtain ⟨sa1, sn1, sa2, sn2, sa3, sn3, sa4, sn4, so, sq, s0, s1, s2, s3, s4, s5, s6, sk⟩ := BS.out.opn
          have sO := Aside0.mk so
          have sQ := Aside0.mk sq
          have sK := Aside0.mk sk
          clear so sq sk
          obtain ⟨kr, hkr⟩ := refT_bne l id tasks HL.out
          rw [HX.out] at hkr
          have HKR := Aside0.mk hkr
          have HR5 := Aside0.mk (Kd.C_below HR.out BW.out)
          clear hkr
          go_region_held3 (fun w' => w'.cell? ⟨wq.heap.size, 0, none⟩ = some (.slice ya1 X.a.length yn1) ∧ w'.cell? ⟨wq.heap.size, 1, none⟩ = some (.slice ya2 X.b.length yn2) ∧ w'.cell? ⟨wq.heap.size, 2, none⟩ = some (.slice ya3 X.c.length yn3) ∧ w'.cell? ⟨wq.heap.size, 3, none⟩ = some (.slice ya4 X.p.length yn4) ∧ w'.cell? ⟨wq.heap.size, 4, none⟩ = some (.int .i64 X.e) ∧ w'.cell? ⟨wq.heap.size, 5, none⟩ = some (.int .i64 X.f) ∧ w'.cell? ⟨wq.heap.size, 6, none⟩ = some (.int .i64 X.h) ∧ w'.cell? ⟨wr0.heap.size, 0, none⟩ = some (.slice sa1 X.a.length sn1) ∧ w'.cell? ⟨wr0.heap.size, 1, none⟩ = some (.slice sa2 X.b.length sn2) ∧ w'.cell? ⟨wr0.heap.size, 2, none⟩ = some (.slice sa3 X.c.length sn3) ∧ w'.cell? ⟨wr0.heap.size, 3, none⟩ = some (.slice sa4 X.p.length sn4) ∧ w'.cell? ⟨wr0.heap.size, 4, none⟩ = some (.int .i64 X.e) ∧ w'.cell? ⟨wr0.heap.size, 5, none⟩ = some (.int .i64 X.f) ∧ w'.cell? ⟨wr0.heap.size, 6, none⟩ = some (.int .i64 X.h)) (first | go_keep | with_reducible exact ⟨cell_below y0 hbt, cell_below y1 hbt, cell_below y2 hbt, cell_below y3 hbt, cell_below y4 hbt, cell_below y5 hbt, cell_below y6 hbt, cell_below s0 hbt, cell_below s1 hbt, cell_below s2 hbt, cell_below s3 hbt, cell_below s4 hbt, cell_below s5 hbt, cell_below s6 hbt⟩ | with_reducible exact ⟨cell_below y0 hbu, cell_below y1 hbu, cell_below y2 hbu, cell_below y3 hbu, cell_below y4 hbu, cell_below y5 hbu, cell_below y6 hbu, cell_below s0 hbu, cell_below s1 hbu, cell_below s2 hbu, cell_below s3 hbu, cell_below s4 hbu, cell_below s5 hbu, cell_below s6 hbu⟩)
            (first
              | (go_at_call 27; refine (same_box (yO.out.belowB (below_drew (Below.refl _ _))) (sO.out.belowB (below_drew (Below.refl _ _))) HSX.out).mono ?_; rintro et wt ⟨rfl, hbt'⟩; have hbt : Below wc.heap.size wc wt := ⟨hbt'.os, hbt'.tape, hbt'.output, hbt'.size, hbt'.block⟩; clear hbt')
              | (go_at_call 21; refine (eddylaw18_refusable.calls kr A0 c0 l id tasks (X.e != 0) _ (Kd.C_below HR5.out hbt) HC.out HKR.out).mono ?_; rintro eu wu ⟨rfl, hbu'⟩; have hbu : Below wc.heap.size wc wu := below_then hbt hbt.size hbu'))
          go_wp2_with fail
          replace BX := Aside0.mk (BX.out.below hbu)
          replace BY := Aside0.mk (BY.out.below hbu)
          replace BS := Aside0.mk (BS.out.below hbu)
          replace OWN := Aside0.mk (Kd.R_below OWN.out hbu)
          replace BW := Aside0.mk (below_then BW.out BW.out.size hbu)
          replace FULL := Aside0.mk (Kd.C_below FULL.out hbu)
          clear hbt hbu hbu' y0 y1 y2 y3 y4 y5 y6 s0 s1 s2 s3 s4 s5 s6
          have hwa := HWA.out
          have HOQ : Aside0 (∀ q, OwnOf (.slice A9 l.length c9) q → w.heap.size ≤ q ∧ q < wa.heap.size) := ⟨HOQ0.out⟩
          have hown := R_own46 OWN.out
          have HOWN := Aside0.mk hown
          clear hown
          go_loopw [16] (fun v16 wr => LOwn wu w.heap.size (.slice A9 l.length c9) l.length v16 wr) (fun v16 _ => l.length - (intOf v16).toNat)
          case atStart => exact ⟨0, l, Nat.zero_le _, rfl, rfl, HOWN.out, Chg.refl _ _⟩
          case round =>
            obtain ⟨i, ys, hi, rfl, hyl, hry, hcy⟩ := hrel
            have HRY := Aside0.mk hry
            have HCY := Aside0.mk hcy
            clear hry hcy
            by_cases hlt : i < l.length
            · obtain ⟨g, cap, hgv, _, _, _⟩ := Kd.R_form HRY.out (by omega)
              injection hgv with e1 e2 e3
              have hBm := below_chg BW.out HCY.out (fun q hq => (HOQ.out q hq).1)
              subst e1
              subst e3
              clear e2
              have hi0 : (0 : Int) ≤ (i : Int) := by omega
              have hilt : (i : Int) < (l.length : Int) := by omega
              by_cases hm0 : 0 < m.length
              · have hmod : i % m.length < m.length := Nat.mod_lt _ hm0
                obtain ⟨adm, e4, q0, q1, q2, q3⟩ := at_T46 (Kd.C_below HRM.out hBm) ((i % m.length : Nat) : Int) (by omega) (by omega)
                cases e4
                rw [Int.toNat_natCast] at q0 q1 q2 q3
                obtain ⟨⟨t0, t1, t2, t3⟩, ht⟩ : ∃ t, rd_T46 m ((i % m.length : Nat) : Int) = t := ⟨_, rfl⟩
                rw [ht] at q0 q1 q2 q3
                simp only at q0 q1 q2 q3
                obtain ⟨⟨u0, u1, u2, u3, z0, z1, z2, z3⟩, f0, f1, f2, f3, hR3, hg3⟩ := put46 HRY.out i hlt t0 t1 t2 t3
                have HR3 := Aside0.mk hR3
                have HG3 := Aside0.mk hg3
                have hm1 : (0 : Int) < (m.length : Int) := by omega
                have hmz : ¬ (m.length : Int) = 0 := by omega
                clear ht hR3 hg3 hBm
                go_wp2_with fail
                go_roundw
                case rel => exact ⟨i + 1, _, by omega, by go_num, by rw [List.length_set]; exact hyl, HR3.out, HCY.out.then_ (Chg.of_grown HG3.out (fun q hq => by injection hq with hq; subst hq; rfl)) (fun q _ hq => hq)⟩
                case measure => simp [intOf]; omega
              · obtain ⟨⟨u0, u1, u2, u3, z0, z1, z2, z3⟩, f0, f1, f2, f3, hR3, hg3⟩ := put46 HRY.out i hlt 1 0 0 0
                have HR3 := Aside0.mk hR3
                have HG3 := Aside0.mk hg3
                have hm1 : ¬ (0 : Int) < (m.length : Int) := by omega
                clear hR3 hg3 hBm
                go_wp2_with fail
                go_roundw
                case rel => exact ⟨i + 1, _, by omega, by go_num, by rw [List.length_set]; exact hyl, HR3.out, HCY.out.then_ (Chg.of_grown HG3.out (fun q hq => by injection hq with hq; subst hq; rfl)) (fun q _ hq => hq)⟩
                case measure => simp [intOf]; omega
            · go_wp2_with fail
              obtain ⟨wd, hwd⟩ : ∃ wd : World, wd = wr := ⟨_, rfl⟩
              subst hwd
              obtain ⟨l2, hl2⟩ : ∃ l2, ys = l2 := ⟨_, rfl⟩
              subst hl2
              clear hlt hi
              have hcy := HCY.out
              replace BX := Aside0.mk (BX.out.chg hcy (fun q hq hS => by have h1 := HOQ.out q hS; unfold Zn at hq; omega) (fun hS => by have h1 := HOQ.out _ hS; omega))
              replace BY := Aside0.mk (BY.out.chg hcy (fun q hq hS => by have h1 := HOQ.out q hS; unfold Zn at hq; omega) (fun hS => by have h1 := HOQ.out _ hS; omega))
              replace BS := Aside0.mk (BS.out.chg hcy (fun q hq hS => by have h1 := HOQ.out q hS; unfold Zn at hq; omega) (fun hS => by have h1 := HOQ.out _ hS; omega))
              replace BW := Aside0.mk (below_chg BW.out hcy (fun q hS => (HOQ.out q hS).1))
              have OWN2 := Aside0.mk HRY.out
              have hsd : wr0.heap.size ≤ wd.heap.size := by have h1 := BS.out.lt; omega
              clear hcy HCY HRY OWN FULL HOWN
              obtain ⟨X2, hX2⟩ : ∃ X2, askP ys id tasks = X2 := ⟨_, rfl⟩
              have hl2 : ys.length ≤ 4398046510976 := by rw [hyl]; exact HL.out
              have hX2l := askP_len ys id tasks hl2
              have hask2 : ∀ W : World, Kd.C k46 W A9 ys.length ys → Calls Try.prog 25 #[.slice A9 l.length c9, .int .i64 id, .int .i64 tasks] W (AskBox W (askP ys id tasks)) := fun W h => by
                have := asked_box A9 c9 ys id tasks W h (by rw [hyl]; exact hlo) hl2
                rw [hyl] at this
                exact this
              have hask3 := fun (B : Option Addr) (d : Nat) (W : World) (h : Kd.C k46 W B ys.length ys) (hd : ys.length ≤ d) => asked_box B d ys id tasks W h hd hl2
              rw [hX2] at hX2l
              simp only [hX2] at hask2 hask3
              have HASK2 := Aside0.mk hask2
              have HASK3 := Aside0.mk hask3
              obtain ⟨hX21, hX22, hX23, hX24⟩ := hX2l
              have HSX2 : Aside0 (Small X2) := ⟨⟨by omega, by omega, by omega, by omega⟩⟩
              have HYL := Aside0.mk hyl
              clear hX2 hask2 hask3 hyl hl2
              refine (HASK2.out _ (Kd.R_reads' OWN2.out).2.2).mono ?_
              rintro ez wz ⟨za1, zn1, za2, zn2, za3, zn3, za4, zn4, Wz, rfl, rfl, bnz, hbz, hzz, hyz, _⟩
              replace BX := Aside0.mk (BX.out.below hbz)
              replace BY := Aside0.mk (BY.out.below hbz)
              replace BS := Aside0.mk (BS.out.below hbz)
              replace OWN2 := Aside0.mk (Kd.R_below OWN2.out hbz)
              replace BW := Aside0.mk (below_then BW.out BW.out.size hbz)
              have hsz : wd.heap.size ≤ wz.heap.size := hzz
              have BZ := Aside0.mk (bnz.mono (P' := Zn wd.heap.size wz.heap.size) (fun q hq => ⟨hq.1, hq.2⟩))
              have HZz := Aside0.mk hzz
              have HYz := Aside0.mk hyz
              clear bnz hbz hzz hyz
              have hc2 : Kd.C k46 (wz.alloc (.cells #[.slice za1 X2.a.length zn1, .slice za2 X2.b.length zn2, .slice za3 X2.c.length zn3, .slice za4 X2.p.length zn4, .int .i64 X2.e, .int .i64 X2.f, .int .i64 X2.h] 52)) A9 l.length ys := HYL.out ▸ (Kd.R_reads' OWN2.out).2.2
              have HC2 := Aside0.mk hc2
              clear hc2
              go_wp2_with (at_builtin; go_loud (refine Kd.R_append_rows k46 (Rr := k46.K _) (wz.alloc (.cells #[.slice za1 X2.a.length zn1, .slice za2 X2.b.length zn2, .slice za3 X2.c.length zn3, .slice za4 X2.p.length zn4, .int .i64 X2.e, .int .i64 X2.f, .int .i64 X2.h] 52)).heap.size (by rfl) (.const (.slice none 0 0)) (.tmp 134) 23 46 (.agg #[.int .i64 0, .int .i64 0, .int .i64 0, .int .i64 0]) 32 (by rfl) Try.underlying23 info46 rfl (by decide) (by decide) (.slice none 0 0) [] ys A9 l.length c9 (fun _ => True) (fun _ => False) (by rfl) (by rfl) (Kd.R_nil _ _ _ _ _) HC2.out (fun x cs h => (k46_open h) ▸ k46_mkM _ _ _ x) (fun _ h => h.elim) (fun _ _ => trivial) (Below.refl _ _) (Nat.le_refl _) ?al5 ?_); (case al5 => simp; omega); intro v5 w5 hR5 hb5 _ _; obtain ⟨A5, c5, hv5, hc5, hC5⟩ := Kd.R_reads hR5; simp only [List.nil_append] at hv5 hc5 hC5; subst hv5)
              replace BX := Aside0.mk (BX.out.below hb5)
              replace BY := Aside0.mk (BY.out.below hb5)
              replace BS := Aside0.mk (BS.out.below hb5)
              replace BZ := Aside0.mk (BZ.out.below hb5)
              replace BW := Aside0.mk (below_then BW.out BW.out.size hb5)
              have hs5 : wz.heap.size ≤ w5.heap.size := Nat.le_trans (alloc_le _ _) hb5.size
              clear hR5 hb5 HC2 OWN2
              refine (HASK3.out A5 c5 _ hC5 hc5).mono ?_
              rintro ef wf ⟨fa1, fn1, fa2, fn2, fa3, fn3, fa4, fn4, Wf, rfl, rfl, bnf, hbf, hzf, hyf, _⟩
              replace BX := Aside0.mk (BX.out.below hbf)
              replace BY := Aside0.mk (BY.out.below hbf)
              replace BS := Aside0.mk (BS.out.below hbf)
              replace BZ := Aside0.mk (BZ.out.below hbf)
              replace BW := Aside0.mk (below_then BW.out BW.out.size hbf)
              have hsf : w5.heap.size ≤ wf.heap.size := hzf
              have BF := Aside0.mk (bnf.mono (P' := Zn w5.heap.size wf.heap.size) (fun q hq => ⟨hq.1, hq.2⟩))
              have HZf := Aside0.mk hzf
              have HYf := Aside0.mk hyf
              clear bnf hbf hzf hyf
              obtain ⟨m0a1, m0n1, m0a2, m0n2, m0a3, m0n3, m0a4, m0n4, m0o, m0q, m00, m01, m02, m03, m04, m05, m06, m0k⟩ := BZ.out.opn
              have m0O := Aside0.mk m0o
              have m0Q := Aside0.mk m0q
              have m0K := Aside0.mk m0k
              clear m0o m0q m0k
              obtain ⟨m1a1, m1n1, m1a2, m1n2, m1a3, m1n3, m1a4, m1n4, m1o, m1q, m10, m11, m12, m13, m14, m15, m16, m1k⟩ := BF.out.opn
              have m1O := Aside0.mk m1o
              have m1Q := Aside0.mk m1q
              have m1K := Aside0.mk m1k
              clear m1o m1q m1k
              go_wp2_with fail
              refine (same_box m0O.out m1O.out HSX2.out).mono ?_
              rintro es1 ws1 ⟨rfl, hbs1⟩
              replace BX := Aside0.mk (BX.out.below hbs1)
              replace BY := Aside0.mk (BY.out.below hbs1)
              replace BS := Aside0.mk (BS.out.below hbs1)
              replace BZ := Aside0.mk (BZ.out.below hbs1)
              replace BF := Aside0.mk (BF.out.below hbs1)
              replace BW := Aside0.mk (below_then BW.out BW.out.size hbs1)
              clear hbs1 m00 m01 m02 m03 m04 m05 m06 m10 m11 m12 m13 m14 m15 m16
              obtain ⟨m2a1, m2n1, m2a2, m2n2, m2a3, m2n3, m2a4, m2n4, m2o, m2q, m20, m21, m22, m23, m24, m25, m26, m2k⟩ := BX.out.opn
              have m2O := Aside0.mk m2o
              have m2Q := Aside0.mk m2q
              have m2K := Aside0.mk m2k
              clear m2o m2q m2k
              obtain ⟨m3a1, m3n1, m3a2, m3n2, m3a3, m3n3, m3a4, m3n4, m3o, m3q, m30, m31, m32, m33, m34, m35, m36, m3k⟩ := BS.out.opn
              have m3O := Aside0.mk m3o
              have m3Q := Aside0.mk m3q
              have m3K := Aside0.mk m3k
              clear m3o m3q m3k
              go_wp2_with fail
              refine (same_box m2O.out m3O.out HSX.out).mono ?_
              rintro es2 ws2 ⟨rfl, hbs2⟩
              replace BX := Aside0.mk (BX.out.below hbs2)
              replace BY := Aside0.mk (BY.out.below hbs2)
              replace BS := Aside0.mk (BS.out.below hbs2)
              replace BZ := Aside0.mk (BZ.out.below hbs2)
              replace BF := Aside0.mk (BF.out.below hbs2)
              replace BW := Aside0.mk (below_then BW.out BW.out.size hbs2)
              clear hbs2 m20 m21 m22 m23 m24 m25 m26 m30 m31 m32 m33 m34 m35 m36
              obtain ⟨m4a1, m4n1, m4a2, m4n2, m4a3, m4n3, m4a4, m4n4, m4o, m4q, m40, m41, m42, m43, m44, m45, m46, m4k⟩ := BY.out.opn
              have m4O := Aside0.mk m4o
              have m4Q := Aside0.mk m4q
              have m4K := Aside0.mk m4k
              clear m4o m4q m4k
              obtain ⟨m5a1, m5n1, m5a2, m5n2, m5a3, m5n3, m5a4, m5n4, m5o, m5q, m50, m51, m52, m53, m54, m55, m56, m5k⟩ := BS.out.opn
              have m5O := Aside0.mk m5o
              have m5Q := Aside0.mk m5q
              have m5K := Aside0.mk m5k
              clear m5o m5q m5k
              go_wp2_with fail
              refine (same_box m4O.out m5O.out HSX.out).mono ?_
              rintro es3 ws3 ⟨rfl, hbs3⟩
              replace BX := Aside0.mk (BX.out.below hbs3)
              replace BY := Aside0.mk (BY.out.below hbs3)
              replace BS := Aside0.mk (BS.out.below hbs3)
              replace BZ := Aside0.mk (BZ.out.below hbs3)
              replace BF := Aside0.mk (BF.out.below hbs3)
              replace BW := Aside0.mk (below_then BW.out BW.out.size hbs3)
              clear hbs3 m40 m41 m42 m43 m44 m45 m46 m50 m51 m52 m53 m54 m55 m56
              have hss : wf.heap.size ≤ ws3.heap.size := by have h1 := BF.out.lt; omega
              obtain ⟨m6a1, m6n1, m6a2, m6n2, m6a3, m6n3, m6a4, m6n4, m6o, m6q, m60, m61, m62, m63, m64, m65, m66, m6k⟩ := BZ.out.opn
              have m6O := Aside0.mk m6o
              have m6Q := Aside0.mk m6q
              have m6K := Aside0.mk m6k
              clear m6o m6q m6k
              go_wp2_with fail
              clear m60 m61 m62 m63 m64 m65 m66
              refine (kept_box m6O.out HSX2.out).mono ?_
              rintro en wn ⟨na1, nn1, na2, nn2, na3, nn3, na4, nn4, Wn, rfl, rfl, bnn, hbn, hzn, hyn, _⟩
              replace BX := Aside0.mk (BX.out.below hbn)
              replace BY := Aside0.mk (BY.out.below hbn)
              replace BS := Aside0.mk (BS.out.below hbn)
              replace BZ := Aside0.mk (BZ.out.below hbn)
              replace BF := Aside0.mk (BF.out.below hbn)
              replace BW := Aside0.mk (below_then BW.out BW.out.size hbn)
              have hsn : ws3.heap.size ≤ wn.heap.size := hzn
              have BN := Aside0.mk (bnn.mono (P' := Zn ws3.heap.size wn.heap.size) (fun q hq => ⟨hq.1, hq.2⟩))
              have HZn := Aside0.mk hzn
              have HYn := Aside0.mk hyn
              clear bnn hbn hzn hyn
              obtain ⟨m7a1, m7n1, m7a2, m7n2, m7a3, m7n3, m7a4, m7n4, m7o, m7q, m70, m71, m72, m73, m74, m75, m76, m7k⟩ := BX.out.opn
              have m7O := Aside0.mk m7o
              have m7Q := Aside0.mk m7q
              have m7K := Aside0.mk m7k
              clear m7o m7q m7k
              go_wp2_with fail
              clear m70 m71 m72 m73 m74 m75 m76
              refine (writes_box 7000 m7O.out HSX.out (by omega) (by omega)).mono ?_
              rintro e20 w20 ⟨rfl, yx, ho, hal, hc⟩
              have hbx : ¬ In4 (.slice m7a1 X.a.length m7n1) (.slice m7a2 X.b.length m7n2) (.slice m7a3 X.c.length m7n3) (.slice m7a4 X.p.length m7n4) wp.heap.size := fun hS => by have h1 := m7Q.out _ hS; unfold Zn at h1; omega
              have bx2 := Box.turned ho m7Q.out m7K.out hal hc hbx
              have hs20 : wn.heap.size ≤ w20.heap.size := Nat.le_trans (alloc_le _ _) hc.size
              have hwa := HWA.out
              replace BY := Aside0.mk (BY.out.chg hc (fun q hq hS => by have h1 := m7Q.out q hS; unfold Zn at h1; first | (unfold Zn at hq; omega) | (unfold Zn2 at hq; omega)) (fun hS => by have h1 := m7Q.out _ hS; unfold Zn at h1; omega))
              replace BS := Aside0.mk (BS.out.chg hc (fun q hq hS => by have h1 := m7Q.out q hS; unfold Zn at h1; first | (unfold Zn at hq; omega) | (unfold Zn2 at hq; omega)) (fun hS => by have h1 := m7Q.out _ hS; unfold Zn at h1; omega))
              replace BZ := Aside0.mk (BZ.out.chg hc (fun q hq hS => by have h1 := m7Q.out q hS; unfold Zn at h1; first | (unfold Zn at hq; omega) | (unfold Zn2 at hq; omega)) (fun hS => by have h1 := m7Q.out _ hS; unfold Zn at h1; omega))
              replace BF := Aside0.mk (BF.out.chg hc (fun q hq hS => by have h1 := m7Q.out q hS; unfold Zn at h1; first | (unfold Zn at hq; omega) | (unfold Zn2 at hq; omega)) (fun hS => by have h1 := m7Q.out _ hS; unfold Zn at h1; omega))
              replace BN := Aside0.mk (BN.out.chg hc (fun q hq hS => by have h1 := m7Q.out q hS; unfold Zn at h1; first | (unfold Zn at hq; omega) | (unfold Zn2 at hq; omega)) (fun hS => by have h1 := m7Q.out _ hS; unfold Zn at h1; omega))
              replace BW := Aside0.mk (below_chg BW.out hc (fun q hS => by have h1 := m7Q.out q hS; unfold Zn at h1; omega))
              replace BX := Aside0.mk bx2
              obtain ⟨g1, g2, g3, g4, g5, g6, g7⟩ := hal
              have HSY : Aside0 (Small yx) := ⟨⟨by omega, by omega, by omega, by omega⟩⟩
              have HYX := Aside0.mk (show yx.a.length ≤ 4398046510976 ∧ yx.b.length ≤ 4398046510976 ∧ yx.c.length ≤ 4398046510976 ∧ yx.p.length ≤ 4398046510976 from ⟨by omega, by omega, by omega, by omega⟩)
              clear ho hc hbx bx2 g1 g2 g3 g4 g5 g6 g7
              obtain ⟨m8a1, m8n1, m8a2, m8n2, m8a3, m8n3, m8a4, m8n4, m8o, m8q, m80, m81, m82, m83, m84, m85, m86, m8k⟩ := BX.out.opn
              have m8O := Aside0.mk m8o
              have m8Q := Aside0.mk m8q
              have m8K := Aside0.mk m8k
              clear m8o m8q m8k
              go_wp2_with fail
              clear m80 m81 m82 m83 m84 m85 m86
              refine (grows_box 8000 m8O.out HSY.out (by omega) (by omega)).mono ?_
              rintro e21 w21 ⟨g1, gn1, g2, gn2, g3, gn3, g4, gn4, yg, W21, rfl, rfl, bg, hc, hz21, hy21, l1, l2, l3, l4⟩
              have bg2 := bg.mono (P' := Zn2 wa.heap.size wp.heap.size w20.heap.size w21.heap.size) (fun q hq => hq.imp (fun hq => m8Q.out q hq) (fun hq => hq))
              replace BY := Aside0.mk (BY.out.chg hc (fun q hq hS => by have h1 := m8Q.out q hS; unfold Zn at h1; first | (unfold Zn at hq; omega) | (unfold Zn2 at hq; omega)) (fun hS => by have h1 := m8Q.out _ hS; unfold Zn at h1; omega))
              replace BS := Aside0.mk (BS.out.chg hc (fun q hq hS => by have h1 := m8Q.out q hS; unfold Zn at h1; first | (unfold Zn at hq; omega) | (unfold Zn2 at hq; omega)) (fun hS => by have h1 := m8Q.out _ hS; unfold Zn at h1; omega))
              replace BZ := Aside0.mk (BZ.out.chg hc (fun q hq hS => by have h1 := m8Q.out q hS; unfold Zn at h1; first | (unfold Zn at hq; omega) | (unfold Zn2 at hq; omega)) (fun hS => by have h1 := m8Q.out _ hS; unfold Zn at h1; omega))
              replace BF := Aside0.mk (BF.out.chg hc (fun q hq hS => by have h1 := m8Q.out q hS; unfold Zn at h1; first | (unfold Zn at hq; omega) | (unfold Zn2 at hq; omega)) (fun hS => by have h1 := m8Q.out _ hS; unfold Zn at h1; omega))
              replace BN := Aside0.mk (BN.out.chg hc (fun q hq hS => by have h1 := m8Q.out q hS; unfold Zn at h1; first | (unfold Zn at hq; omega) | (unfold Zn2 at hq; omega)) (fun hS => by have h1 := m8Q.out _ hS; unfold Zn at h1; omega))
              replace BW := Aside0.mk (below_chg BW.out hc (fun q hS => by have h1 := m8Q.out q hS; unfold Zn at h1; omega))
              have BG := Aside0.mk bg2
              have HSG : Aside0 (Small yg) := ⟨by obtain ⟨h1, h2, h3, h4⟩ := HYX.out; exact ⟨by omega, by omega, by omega, by omega⟩⟩
              clear bg bg2 hc hy21 l1 l2 l3 l4 BX
              obtain ⟨m9a1, m9n1, m9a2, m9n2, m9a3, m9n3, m9a4, m9n4, m9o, m9q, m90, m91, m92, m93, m94, m95, m96, m9k⟩ := BG.out.opn
              have m9O := Aside0.mk m9o
              have m9Q := Aside0.mk m9q
              have m9K := Aside0.mk m9k
              clear m9o m9q m9k
              go_wp2_with fail
              clear m90 m91 m92 m93 m94 m95 m96
              refine (kept_box m9O.out HSG.out).mono ?_
              rintro ek wk ⟨ka1, kn1, ka2, kn2, ka3, kn3, ka4, kn4, Wk, rfl, rfl, bnk, hbk, hzk, hyk, _⟩
              replace BY := Aside0.mk (BY.out.below hbk)
              replace BS := Aside0.mk (BS.out.below hbk)
              replace BZ := Aside0.mk (BZ.out.below hbk)
              replace BF := Aside0.mk (BF.out.below hbk)
              replace BN := Aside0.mk (BN.out.below hbk)
              replace BG := Aside0.mk (BG.out.below hbk)
              replace BW := Aside0.mk (below_then BW.out BW.out.size hbk)
              have hsk : w21.heap.size ≤ wk.heap.size := Nat.le_trans (alloc_le _ _) hzk
              have BK := Aside0.mk (bnk.mono (P' := Zn w21.heap.size wk.heap.size) (fun q hq => ⟨Nat.le_trans (alloc_le _ _) hq.1, hq.2⟩))
              have HZk := Aside0.mk hzk
              have HYk := Aside0.mk hyk
              clear bnk hbk hzk hyk
              go_wp2_with fail
              refine (asked_box Am cm m id tasks _ (Kd.C_below HRM.out BW.out) HCM.out HLM.out).mono ?_
              rintro e22 w22 ⟨h1, hn1, h2, hn2, h3, hn3, h4, hn4, W22, rfl, _, _, _, _, _, hb22⟩
              replace BY := Aside0.mk (BY.out.below hb22)
              replace BS := Aside0.mk (BS.out.below hb22)
              replace BZ := Aside0.mk (BZ.out.below hb22)
              replace BF := Aside0.mk (BF.out.below hb22)
              replace BN := Aside0.mk (BN.out.below hb22)
              replace BG := Aside0.mk (BG.out.below hb22)
              replace BK := Aside0.mk (BK.out.below hb22)
              replace BW := Aside0.mk (below_then BW.out BW.out.size hb22)
              have hs22 : wk.heap.size ≤ w22.heap.size := Nat.le_trans (alloc_le _ _) hb22.size
              clear hb22
              obtain ⟨o1a1, o1n1, o1a2, o1n2, o1a3, o1n3, o1a4, o1n4, o1o, o1q, o10, o11, o12, o13, o14, o15, o16, o1k⟩ := BY.out.opn
              have o1O := Aside0.mk o1o
              have o1Q := Aside0.mk o1q
              have o1K := Aside0.mk o1k
              clear o1o o1q o1k
              obtain ⟨o2a1, o2n1, o2a2, o2n2, o2a3, o2n3, o2a4, o2n4, o2o, o2q, o20, o21, o22, o23, o24, o25, o26, o2k⟩ := BS.out.opn
              have o2O := Aside0.mk o2o
              have o2Q := Aside0.mk o2q
              have o2K := Aside0.mk o2k
              clear o2o o2q o2k
              go_wp2_with fail
              refine (same_box o1O.out o2O.out HSX.out).mono ?_
              rintro es4 ws4 ⟨rfl, hbs4⟩
              replace BY := Aside0.mk (BY.out.below hbs4)
              replace BS := Aside0.mk (BS.out.below hbs4)
              replace BZ := Aside0.mk (BZ.out.below hbs4)
              replace BF := Aside0.mk (BF.out.below hbs4)
              replace BN := Aside0.mk (BN.out.below hbs4)
              replace BG := Aside0.mk (BG.out.below hbs4)
              replace BK := Aside0.mk (BK.out.below hbs4)
              replace BW := Aside0.mk (below_then BW.out BW.out.size hbs4)
              clear hbs4 o10 o11 o12 o13 o14 o15 o16 o20 o21 o22 o23 o24 o25 o26
              obtain ⟨o3a1, o3n1, o3a2, o3n2, o3a3, o3n3, o3a4, o3n4, o3o, o3q, o30, o31, o32, o33, o34, o35, o36, o3k⟩ := BZ.out.opn
              have o3O := Aside0.mk o3o
              have o3Q := Aside0.mk o3q
              have o3K := Aside0.mk o3k
              clear o3o o3q o3k
              obtain ⟨o4a1, o4n1, o4a2, o4n2, o4a3, o4n3, o4a4, o4n4, o4o, o4q, o40, o41, o42, o43, o44, o45, o46, o4k⟩ := BN.out.opn
              have o4O := Aside0.mk o4o
              have o4Q := Aside0.mk o4q
              have o4K := Aside0.mk o4k
              clear o4o o4q o4k
              go_wp2_with fail
              refine (same_box o3O.out o4O.out HSX2.out).mono ?_
              rintro es5 ws5 ⟨rfl, hbs5⟩
              replace BY := Aside0.mk (BY.out.below hbs5)
              replace BS := Aside0.mk (BS.out.below hbs5)
              replace BZ := Aside0.mk (BZ.out.below hbs5)
              replace BF := Aside0.mk (BF.out.below hbs5)
              replace BN := Aside0.mk (BN.out.below hbs5)
              replace BG := Aside0.mk (BG.out.below hbs5)
              replace BK := Aside0.mk (BK.out.below hbs5)
              replace BW := Aside0.mk (below_then BW.out BW.out.size hbs5)
              clear hbs5 o30 o31 o32 o33 o34 o35 o36 o40 o41 o42 o43 o44 o45 o46
              obtain ⟨o5a1, o5n1, o5a2, o5n2, o5a3, o5n3, o5a4, o5n4, o5o, o5q, o50, o51, o52, o53, o54, o55, o56, o5k⟩ := BG.out.opn
              have o5O := Aside0.mk o5o
              have o5Q := Aside0.mk o5q
              have o5K := Aside0.mk o5k
              clear o5o o5q o5k
              obtain ⟨o6a1, o6n1, o6a2, o6n2, o6a3, o6n3, o6a4, o6n4, o6o, o6q, o60, o61, o62, o63, o64, o65, o66, o6k⟩ := BK.out.opn
              have o6O := Aside0.mk o6o
              have o6Q := Aside0.mk o6q
              have o6K := Aside0.mk o6k
              clear o6o o6q o6k
              go_wp2_with fail
              refine (same_box o5O.out o6O.out HSG.out).mono ?_
              rintro es6 ws6 ⟨rfl, hbs6⟩
              replace BY := Aside0.mk (BY.out.below hbs6)
              replace BS := Aside0.mk (BS.out.below hbs6)
              replace BZ := Aside0.mk (BZ.out.below hbs6)
              replace BF := Aside0.mk (BF.out.below hbs6)
              replace BN := Aside0.mk (BN.out.below hbs6)
              replace BG := Aside0.mk (BG.out.below hbs6)
              replace BK := Aside0.mk (BK.out.below hbs6)
              replace BW := Aside0.mk (below_then BW.out BW.out.size hbs6)
              clear hbs6 o50 o51 o52 o53 o54 o55 o56 o60 o61 o62 o63 o64 o65 o66
              have hs23 : wk.heap.size ≤ ws6.heap.size := by have h1 := BK.out.lt; omega
              obtain ⟨o7a1, o7n1, o7a2, o7n2, o7a3, o7n3, o7a4, o7n4, o7o, o7q, o70, o71, o72, o73, o74, o75, o76, o7k⟩ := BY.out.opn
              have o7O := Aside0.mk o7o
              have o7Q := Aside0.mk o7q
              have o7K := Aside0.mk o7k
              clear o7o o7q o7k
              go_wp2_with fail
              clear o70 o71 o72 o73 o74 o75 o76
              refine (writes_box 9000 o7O.out HSX.out (by omega) (by omega)).mono ?_
              rintro e24 w24 ⟨rfl, yy, ho, hal, hc⟩
              have hbx : ¬ In4 (.slice o7a1 X.a.length o7n1) (.slice o7a2 X.b.length o7n2) (.slice o7a3 X.c.length o7n3) (.slice o7a4 X.p.length o7n4) wq.heap.size := fun hS => by have h1 := o7Q.out _ hS; unfold Zn at h1; omega
              have bx2 := Box.turned ho o7Q.out o7K.out hal hc hbx
              have hs24 : ws6.heap.size ≤ w24.heap.size := hc.size
              replace BS := Aside0.mk (BS.out.chg hc (fun q hq hS => by have h1 := o7Q.out q hS; unfold Zn at h1; first | (unfold Zn at hq; omega) | (unfold Zn2 at hq; omega)) (fun hS => by have h1 := o7Q.out _ hS; unfold Zn at h1; omega))
              replace BZ := Aside0.mk (BZ.out.chg hc (fun q hq hS => by have h1 := o7Q.out q hS; unfold Zn at h1; first | (unfold Zn at hq; omega) | (unfold Zn2 at hq; omega)) (fun hS => by have h1 := o7Q.out _ hS; unfold Zn at h1; omega))
              replace BF := Aside0.mk (BF.out.chg hc (fun q hq hS => by have h1 := o7Q.out q hS; unfold Zn at h1; first | (unfold Zn at hq; omega) | (unfold Zn2 at hq; omega)) (fun hS => by have h1 := o7Q.out _ hS; unfold Zn at h1; omega))
              replace BN := Aside0.mk (BN.out.chg hc (fun q hq hS => by have h1 := o7Q.out q hS; unfold Zn at h1; first | (unfold Zn at hq; omega) | (unfold Zn2 at hq; omega)) (fun hS => by have h1 := o7Q.out _ hS; unfold Zn at h1; omega))
              replace BG := Aside0.mk (BG.out.chg hc (fun q hq hS => by have h1 := o7Q.out q hS; unfold Zn at h1; first | (unfold Zn at hq; omega) | (unfold Zn2 at hq; omega)) (fun hS => by have h1 := o7Q.out _ hS; unfold Zn at h1; omega))
              replace BK := Aside0.mk (BK.out.chg hc (fun q hq hS => by have h1 := o7Q.out q hS; unfold Zn at h1; first | (unfold Zn at hq; omega) | (unfold Zn2 at hq; omega)) (fun hS => by have h1 := o7Q.out _ hS; unfold Zn at h1; omega))
              replace BW := Aside0.mk (below_chg BW.out hc (fun q hS => by have h1 := o7Q.out q hS; unfold Zn at h1; omega))
              replace BY := Aside0.mk bx2
              obtain ⟨g1, g2, g3, g4, g5, g6, g7⟩ := hal
              have HSY2 : Aside0 (Small yy) := ⟨⟨by omega, by omega, by omega, by omega⟩⟩
              have HYX2 := Aside0.mk (show yy.a.length ≤ 4398046510976 ∧ yy.b.length ≤ 4398046510976 ∧ yy.c.length ≤ 4398046510976 ∧ yy.p.length ≤ 4398046510976 from ⟨by omega, by omega, by omega, by omega⟩)
              clear ho hc hbx bx2 g1 g2 g3 g4 g5 g6 g7
              obtain ⟨o8a1, o8n1, o8a2, o8n2, o8a3, o8n3, o8a4, o8n4, o8o, o8q, o80, o81, o82, o83, o84, o85, o86, o8k⟩ := BY.out.opn
              have o8O := Aside0.mk o8o
              have o8Q := Aside0.mk o8q
              have o8K := Aside0.mk o8k
              clear o8o o8q o8k
              go_wp2_with fail
              clear o80 o81 o82 o83 o84 o85 o86
              refine (grows_box 9500 o8O.out HSY2.out (by omega) (by omega)).mono ?_
              rintro e25 w25 ⟨g1, gn1, g2, gn2, g3, gn3, g4, gn4, yh, W25, rfl, rfl, bg, hc, hz25, hy25, l1, l2, l3, l4⟩
              have bg2 := bg.mono (P' := Zn2 wp.heap.size wq.heap.size w24.heap.size w25.heap.size) (fun q hq => hq.imp (fun hq => o8Q.out q hq) (fun hq => hq))
              replace BS := Aside0.mk (BS.out.chg hc (fun q hq hS => by have h1 := o8Q.out q hS; unfold Zn at h1; first | (unfold Zn at hq; omega) | (unfold Zn2 at hq; omega)) (fun hS => by have h1 := o8Q.out _ hS; unfold Zn at h1; omega))
              replace BZ := Aside0.mk (BZ.out.chg hc (fun q hq hS => by have h1 := o8Q.out q hS; unfold Zn at h1; first | (unfold Zn at hq; omega) | (unfold Zn2 at hq; omega)) (fun hS => by have h1 := o8Q.out _ hS; unfold Zn at h1; omega))
              replace BF := Aside0.mk (BF.out.chg hc (fun q hq hS => by have h1 := o8Q.out q hS; unfold Zn at h1; first | (unfold Zn at hq; omega) | (unfold Zn2 at hq; omega)) (fun hS => by have h1 := o8Q.out _ hS; unfold Zn at h1; omega))
              replace BN := Aside0.mk (BN.out.chg hc (fun q hq hS => by have h1 := o8Q.out q hS; unfold Zn at h1; first | (unfold Zn at hq; omega) | (unfold Zn2 at hq; omega)) (fun hS => by have h1 := o8Q.out _ hS; unfold Zn at h1; omega))
              replace BG := Aside0.mk (BG.out.chg hc (fun q hq hS => by have h1 := o8Q.out q hS; unfold Zn at h1; first | (unfold Zn at hq; omega) | (unfold Zn2 at hq; omega)) (fun hS => by have h1 := o8Q.out _ hS; unfold Zn at h1; omega))
              replace BK := Aside0.mk (BK.out.chg hc (fun q hq hS => by have h1 := o8Q.out q hS; unfold Zn at h1; first | (unfold Zn at hq; omega) | (unfold Zn2 at hq; omega)) (fun hS => by have h1 := o8Q.out _ hS; unfold Zn at h1; omega))
              replace BW := Aside0.mk (below_chg BW.out hc (fun q hS => by have h1 := o8Q.out q hS; unfold Zn at h1; omega))
              have BH := Aside0.mk bg2
              have HSH : Aside0 (Small yh) := ⟨by obtain ⟨h1, h2, h3, h4⟩ := HYX2.out; exact ⟨by omega, by omega, by omega, by omega⟩⟩
              clear bg bg2 hc hy25 l1 l2 l3 l4 BY
              obtain ⟨o9a1, o9n1, o9a2, o9n2, o9a3, o9n3, o9a4, o9n4, o9o, o9q, o90, o91, o92, o93, o94, o95, o96, o9k⟩ := BH.out.opn
              have o9O := Aside0.mk o9o
              have o9Q := Aside0.mk o9q
              have o9K := Aside0.mk o9k
              clear o9o o9q o9k
              go_wp2_with fail
              clear o90 o91 o92 o93 o94 o95 o96
              refine (kept_box o9O.out HSH.out).mono ?_
              rintro ej wj ⟨ja1, jn1, ja2, jn2, ja3, jn3, ja4, jn4, Wj, rfl, rfl, bnj, hbj, hzj, hyj, _⟩
              replace BS := Aside0.mk (BS.out.below hbj)
              replace BZ := Aside0.mk (BZ.out.below hbj)
              replace BF := Aside0.mk (BF.out.below hbj)
              replace BN := Aside0.mk (BN.out.below hbj)
              replace BG := Aside0.mk (BG.out.below hbj)
              replace BK := Aside0.mk (BK.out.below hbj)
              replace BH := Aside0.mk (BH.out.below hbj)
              replace BW := Aside0.mk (below_then BW.out BW.out.size hbj)
              have hsj : w25.heap.size ≤ wj.heap.size := Nat.le_trans (alloc_le _ _) hzj
              have BJ := Aside0.mk (bnj.mono (P' := Zn w25.heap.size wj.heap.size) (fun q hq => ⟨Nat.le_trans (alloc_le _ _) hq.1, hq.2⟩))
              have HZj := Aside0.mk hzj
              have HYj := Aside0.mk hyj
              clear bnj hbj hzj hyj
              have hr9 : Kd.C k46 (wj.alloc (.cells #[.slice ja1 yh.a.length jn1, .slice ja2 yh.b.length jn2, .slice ja3 yh.c.length jn3, .slice ja4 yh.p.length jn4, .int .i64 yh.e, .int .i64 yh.f, .int .i64 yh.h] 52)) A0 l.length l := Kd.C_below HR.out BW.out
              have HR9 := Aside0.mk hr9
              clear hr9
              go_wp2_with (at_builtin; go_loud (refine Kd.R_append_rows k46 (Rr := k46.K _) (wj.alloc (.cells #[.slice ja1 yh.a.length jn1, .slice ja2 yh.b.length jn2, .slice ja3 yh.c.length jn3, .slice ja4 yh.p.length jn4, .int .i64 yh.e, .int .i64 yh.f, .int .i64 yh.h] 52)).heap.size (by rfl) (.const (.slice none 0 0)) (.tmp 189) 23 46 (.agg #[.int .i64 0, .int .i64 0, .int .i64 0, .int .i64 0]) 32 (by rfl) Try.underlying23 info46 rfl (by decide) (by decide) (.slice none 0 0) [] l A0 l.length c0 (fun _ => True) (fun _ => False) (by rfl) (by rfl) (Kd.R_nil _ _ _ _ _) HR9.out (fun x cs h => (k46_open h) ▸ k46_mkM _ _ _ x) (fun _ h => h.elim) (fun _ _ => trivial) (Below.refl _ _) (Nat.le_refl _) ?al9 ?_); (case al9 => simp; omega); intro v9b w9 hR9 hb9 _ _; obtain ⟨A7, c7, hv7, hc7, hC7⟩ := Kd.R_reads hR9; simp only [List.nil_append] at hv7 hc7 hC7; subst hv7)
              replace BS := Aside0.mk (BS.out.below hb9)
              replace BZ := Aside0.mk (BZ.out.below hb9)
              replace BF := Aside0.mk (BF.out.below hb9)
              replace BN := Aside0.mk (BN.out.below hb9)
              replace BG := Aside0.mk (BG.out.below hb9)
              replace BK := Aside0.mk (BK.out.below hb9)
              replace BH := Aside0.mk (BH.out.below hb9)
              replace BJ := Aside0.mk (BJ.out.below hb9)
              replace BW := Aside0.mk (below_then BW.out BW.out.size hb9)
              clear hR9 hb9 HR9
              have hask9 : Calls Try.prog 25 #[.slice A7 l.length c7, .int .i64 id, .int .i64 tasks] w9 (AskBox w9 X) := by
                have := asked_box A7 c7 l id tasks w9 hC7 hc7 HL.out
                rw [HX.out] at this
                exact this
              refine (hask9).mono ?_
              rintro ev wv ⟨va1, vn1, va2, vn2, va3, vn3, va4, vn4, Wv, rfl, rfl, bnv, hbv, hzv, hyv, _⟩
              replace BS := Aside0.mk (BS.out.below hbv)
              replace BZ := Aside0.mk (BZ.out.below hbv)
              replace BF := Aside0.mk (BF.out.below hbv)
              replace BN := Aside0.mk (BN.out.below hbv)
              replace BG := Aside0.mk (BG.out.below hbv)
              replace BK := Aside0.mk (BK.out.below hbv)
              replace BH := Aside0.mk (BH.out.below hbv)
              replace BJ := Aside0.mk (BJ.out.below hbv)
              replace BW := Aside0.mk (below_then BW.out BW.out.size hbv)
              have hsv : w9.heap.size ≤ wv.heap.size := hzv
              have BA := Aside0.mk (bnv.mono (P' := Zn w9.heap.size wv.heap.size) (fun q hq => ⟨hq.1, hq.2⟩))
              have HZv := Aside0.mk hzv
              have HYv := Aside0.mk hyv
              clear bnv hbv hzv hyv
              obtain ⟨t1a1, t1n1, t1a2, t1n2, t1a3, t1n3, t1a4, t1n4, t1o, t1q, t10, t11, t12, t13, t14, t15, t16, t1k⟩ := BA.out.opn
              have t1O := Aside0.mk t1o
              have t1Q := Aside0.mk t1q
              have t1K := Aside0.mk t1k
              clear t1o t1q t1k
              obtain ⟨t2a1, t2n1, t2a2, t2n2, t2a3, t2n3, t2a4, t2n4, t2o, t2q, t20, t21, t22, t23, t24, t25, t26, t2k⟩ := BS.out.opn
              have t2O := Aside0.mk t2o
              have t2Q := Aside0.mk t2q
              have t2K := Aside0.mk t2k
              clear t2o t2q t2k
              go_wp2_with fail
              refine (same_box t1O.out t2O.out HSX.out).mono ?_
              rintro es7 ws7 ⟨rfl, hbs7⟩
              replace BS := Aside0.mk (BS.out.below hbs7)
              replace BZ := Aside0.mk (BZ.out.below hbs7)
              replace BF := Aside0.mk (BF.out.below hbs7)
              replace BN := Aside0.mk (BN.out.below hbs7)
              replace BG := Aside0.mk (BG.out.below hbs7)
              replace BK := Aside0.mk (BK.out.below hbs7)
              replace BH := Aside0.mk (BH.out.below hbs7)
              replace BJ := Aside0.mk (BJ.out.below hbs7)
              replace BA := Aside0.mk (BA.out.below hbs7)
              replace BW := Aside0.mk (below_then BW.out BW.out.size hbs7)
              clear hbs7 t10 t11 t12 t13 t14 t15 t16 t20 t21 t22 t23 t24 t25 t26
              obtain ⟨t3a1, t3n1, t3a2, t3n2, t3a3, t3n3, t3a4, t3n4, t3o, t3q, t30, t31, t32, t33, t34, t35, t36, t3k⟩ := BG.out.opn
              have t3O := Aside0.mk t3o
              have t3Q := Aside0.mk t3q
              have t3K := Aside0.mk t3k
              clear t3o t3q t3k
              obtain ⟨t4a1, t4n1, t4a2, t4n2, t4a3, t4n3, t4a4, t4n4, t4o, t4q, t40, t41, t42, t43, t44, t45, t46, t4k⟩ := BK.out.opn
              have t4O := Aside0.mk t4o
              have t4Q := Aside0.mk t4q
              have t4K := Aside0.mk t4k
              clear t4o t4q t4k
              go_wp2_with fail
              refine (same_box t3O.out t4O.out HSG.out).mono ?_
              rintro es8 ws8 ⟨rfl, hbs8⟩
              replace BS := Aside0.mk (BS.out.below hbs8)
              replace BZ := Aside0.mk (BZ.out.below hbs8)
              replace BF := Aside0.mk (BF.out.below hbs8)
              replace BN := Aside0.mk (BN.out.below hbs8)
              replace BG := Aside0.mk (BG.out.below hbs8)
              replace BK := Aside0.mk (BK.out.below hbs8)
              replace BH := Aside0.mk (BH.out.below hbs8)
              replace BJ := Aside0.mk (BJ.out.below hbs8)
              replace BA := Aside0.mk (BA.out.below hbs8)
              replace BW := Aside0.mk (below_then BW.out BW.out.size hbs8)
              clear hbs8 t30 t31 t32 t33 t34 t35 t36 t40 t41 t42 t43 t44 t45 t46
              obtain ⟨t5a1, t5n1, t5a2, t5n2, t5a3, t5n3, t5a4, t5n4, t5o, t5q, t50, t51, t52, t53, t54, t55, t56, t5k⟩ := BH.out.opn
              have t5O := Aside0.mk t5o
              have t5Q := Aside0.mk t5q
              have t5K := Aside0.mk t5k
              clear t5o t5q t5k
              obtain ⟨t6a1, t6n1, t6a2, t6n2, t6a3, t6n3, t6a4, t6n4, t6o, t6q, t60, t61, t62, t63, t64, t65, t66, t6k⟩ := BJ.out.opn
              have t6O := Aside0.mk t6o
              have t6Q := Aside0.mk t6q
              have t6K := Aside0.mk t6k
              clear t6o t6q t6k
              go_wp2_with fail
              refine (same_box t5O.out t6O.out HSH.out).mono ?_
              rintro es9 ws9 ⟨rfl, hbs9⟩
              replace BS := Aside0.mk (BS.out.below hbs9)
              replace BZ := Aside0.mk (BZ.out.below hbs9)
              replace BF := Aside0.mk (BF.out.below hbs9)
              replace BN := Aside0.mk (BN.out.below hbs9)
              replace BG := Aside0.mk (BG.out.below hbs9)
              replace BK := Aside0.mk (BK.out.below hbs9)
              replace BH := Aside0.mk (BH.out.below hbs9)
              replace BJ := Aside0.mk (BJ.out.below hbs9)
              replace BA := Aside0.mk (BA.out.below hbs9)
              replace BW := Aside0.mk (below_then BW.out BW.out.size hbs9)
              clear hbs9 t50 t51 t52 t53 t54 t55 t56 t60 t61 t62 t63 t64 t65 t66
              obtain ⟨t7a1, t7n1, t7a2, t7n2, t7a3, t7n3, t7a4, t7n4, t7o, t7q, t70, t71, t72, t73, t74, t75, t76, t7k⟩ := BZ.out.opn
              have t7O := Aside0.mk t7o
              have t7Q := Aside0.mk t7q
              have t7K := Aside0.mk t7k
              clear t7o t7q t7k
              obtain ⟨t8a1, t8n1, t8a2, t8n2, t8a3, t8n3, t8a4, t8n4, t8o, t8q, t80, t81, t82, t83, t84, t85, t86, t8k⟩ := BN.out.opn
              have t8O := Aside0.mk t8o
              have t8Q := Aside0.mk t8q
              have t8K := Aside0.mk t8k
              clear t8o t8q t8k
              go_wp2_with fail
              refine (same_box t7O.out t8O.out HSX2.out).mono ?_
              rintro es10 ws10 ⟨rfl, hbs10⟩
              replace BS := Aside0.mk (BS.out.below hbs10)
              replace BZ := Aside0.mk (BZ.out.below hbs10)
              replace BF := Aside0.mk (BF.out.below hbs10)
              replace BN := Aside0.mk (BN.out.below hbs10)
              replace BG := Aside0.mk (BG.out.below hbs10)
              replace BK := Aside0.mk (BK.out.below hbs10)
              replace BH := Aside0.mk (BH.out.below hbs10)
              replace BJ := Aside0.mk (BJ.out.below hbs10)
              replace BA := Aside0.mk (BA.out.below hbs10)
              replace BW := Aside0.mk (below_then BW.out BW.out.size hbs10)
              clear hbs10 t70 t71 t72 t73 t74 t75 t76 t80 t81 t82 t83 t84 t85 t86
              go_wp2_with fail
              go_ret
              exact ⟨rfl, BW.out⟩
end Go.Proofs.Ytammigfckdgljaa.PWitnessSplit
