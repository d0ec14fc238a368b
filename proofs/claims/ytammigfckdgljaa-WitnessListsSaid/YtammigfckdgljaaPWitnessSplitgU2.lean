import Derived.Test.YtammigfckdgljaaPWitnessSplitgU2d
namespace Go.Proofs.Ytammigfckdgljaa.PWitnessSplit
open Go.RowKit Go.Proofs.YtammigfckdgljaaW.PrintWords Go.Proofs.YtammigfckdgljaaW.PrintLast Go.Proofs.YtammigfckdgljaaW.PrintMore
attribute [local go_sem] max2_int min2_int max_two min_two max_three min_three max_four min_four
set_option linter.unusedVariables false
set_option linter.unusedSimpArgs false

set_option maxHeartbeats 8000000 in
set_option maxRecDepth 100000 in
theorem eddylaw18_refusable.calls (k : Nat) (A0 : Option Addr) (c0 : Nat) (l0 : List (S46)) (a1 : Int) (a2 : Int) (r : Bool) (w : World) (hr0 : Kd.C k46 w A0 l0.length l0) (hc0 : l0.length ≤ c0) (h : eddylaw18_refusable.f k l0 a1 a2 = some r) :
  Calls Try.prog 21 #[.slice A0 l0.length c0, .int .i64 a1, .int .i64 a2] w fun e w' => e = .returned (.bool r) ∧ Below w.heap.size w w' := by
 have hu46 := Try.underlying46
 have HR0 := Aside0.mk hr0
 have HC0 := Aside0.mk hc0
 clear hr0 hc0
 have HB := Aside0.mk (Below.refl w.heap.size w)
 have H : (if a2 < 1 then (eddylaw18_refusable.j0 k l0 a1 a2 true) else (eddylaw18_refusable.j0 k l0 a1 a2 (decide (a2 > 12)))) = some r := h
 clear h
 have HC4 := Aside0.mk H
 clear H
 go_enter Try.func21, Try.ntmps21
 go_upto_region 1 with (fail)
 go_cut [19] (fun v19 wc => ∃ (kq : Nat) (x19_3 : Bool), v19 = .bool x19_3 ∧ Aside0 (eddylaw18_refusable.j0 kq l0 a1 a2 x19_3 = some r) ∧ Aside0 (kq ≤ k) ∧ Aside0 (Below w.heap.size w wc))
 case first =>
  have H := HC4.out
  clear HC4
  by_cases c5 : a2 < 1
  ·
   rw [if_pos c5] at H
   have c5b0 : decide (a2 < 1) = true := decide_eq_true c5
   clear c5
   (first | rw [c5b0] | (simp only [i64_w, i32_w]; rw [c5b0]) | skip)
   have H' := Aside0.mk H
   clear H
   go_wp2
   go_meet
   case rel => exact ⟨_, (true), (by first | rfl | (simp; done) | (simp [*]; done)), H', ⟨by first | omega | exact Nat.le_refl _⟩, ⟨by repeat (first | (with_reducible first | exact HB.out | apply below_alloc | apply pw_below_drewN | apply below_drew1) | exact HB.out)⟩⟩
  ·
   rw [if_neg c5] at H
   have c5b0 : decide (a2 < 1) = false := decide_eq_false c5
   clear c5
   (first | rw [c5b0] | (simp only [i64_w, i32_w]; rw [c5b0]) | skip)
   have H' := Aside0.mk H
   clear H
   go_wp2
   go_meet
   case rel => exact ⟨_, (decide (a2 > 12)), (by first | rfl | (simp; done) | (simp [*]; done)), H', ⟨by first | omega | exact Nat.le_refl _⟩, ⟨by repeat (first | (with_reducible first | exact HB.out | apply below_alloc | apply pw_below_drewN | apply below_drew1) | exact HB.out)⟩⟩
 case rest =>
  clear HC4
  try clear c2
  try clear p2
  try clear c5
  try clear c5b0
  obtain ⟨kq, x19_3, rfl, HA, HJ3, HB⟩ := hcut
  cases kq with
  | zero => exact absurd HA.out (by simp [eddylaw18_refusable.j0])
  | succ kj3 =>
   have H := HA.out
   clear HA
   simp only [eddylaw18_refusable.j0] at H
   by_cases c6 : x19_3 = true
   ·
    subst c6
    have H1 : (some true) = some r := by rw [if_pos rfl] at H; exact H
    clear H
    have H := H1
    clear H1
    obtain rfl := Option.some.inj H
    go_wp2
    go_ret
    exact ⟨by first | rfl | (simp [errW_none, errW_some] <;> rfl) | (simp [*, errW_none, errW_some] <;> rfl), by repeat (first | (with_reducible first | exact HB.out | apply below_alloc | apply pw_below_drewN | apply below_drew1) | exact HB.out)⟩
   ·
    replace c6 := Bool.eq_false_iff.mpr c6
    subst c6
    have H1 : (eddylaw18_refusable.l0 kj3 l0 a1 a2 0) = some r := by rw [if_neg (show ¬ (false = true) by decide)] at H; exact H
    clear H
    have H := H1
    clear H1
    have H' := Aside0.mk H
    clear H
    go_wp2
    go_loopg [7] kj3 (fun kq v7 w' => ∃ (x7_2 : Int), v7 = .int .i64 x7_2 ∧ Aside0 (eddylaw18_refusable.l0 kq l0 a1 a2 x7_2 = some r) ∧ Aside0 (kq ≤ kj3) ∧ Aside0 (Below w.heap.size w w'))
    case atStart => exact ⟨(0), (by first | rfl | (simp; done) | (simp [*]; done)), H', ⟨Nat.le_refl _⟩, ⟨by repeat (first | (with_reducible first | exact HB.out | apply below_alloc | apply pw_below_drewN | apply below_drew1) | exact HB.out)⟩⟩
    case round =>
     clear H'
     try clear c2
     try clear p2
     try clear c5
     try clear c5b0
     try clear c6
     try clear p2
     obtain ⟨x7_2, rfl, HA, HK2, HB⟩ := hrel
     cases gk with
     | zero => exact absurd HA.out (by simp [eddylaw18_refusable.l0])
     | succ k2 =>
      have H := HA.out
      clear HA
      simp only [eddylaw18_refusable.l0] at H
      by_cases c7 : x7_2 < (l0.length : Int)
      ·
       as_aux_lemma =>
        rw [if_pos c7] at H
        have c7b0 : decide (x7_2 < (l0.length : Int)) = true := decide_eq_true c7
        clear c7
        by_cases c8 : 0 ≤ x7_2
        ·
         as_aux_lemma =>
          rw [if_pos c8] at H
          have c8b0 : decide (0 ≤ x7_2) = true := decide_eq_true c8
          clear c8
          have HC9 := Aside0.mk H
          clear H
          have p147 : 0 ≤ (x7_2 : Int) := of_decide_eq_true (by first | (with_reducible assumption) | assumption)
          have q147 : x7_2 < (l0.length : Int) := of_decide_eq_true (by first | (with_reducible assumption) | assumption)
          obtain ⟨ad147, e147, hx147_0, hx147_1, hx147_2, hx147_3⟩ := at_T46 HR0.out x7_2 p147 q147
          cases e147
          replace hx147_0 := (HB.out.cell (World.block_lt_of_cell? w _ hx147_0)).trans hx147_0
          replace hx147_1 := (HB.out.cell (World.block_lt_of_cell? w _ hx147_1)).trans hx147_1
          replace hx147_2 := (HB.out.cell (World.block_lt_of_cell? w _ hx147_2)).trans hx147_2
          replace hx147_3 := (HB.out.cell (World.block_lt_of_cell? w _ hx147_3)).trans hx147_3
          replace p147 := eq_true p147
          replace q147 := eq_true q147
          go_upto_region 7 with (first | ((with_reducible refine gate_dst (N := 8) rfl ?_); refine box_event ?hg (N := 8) ?hd (cs := #[.int .i64 0, .int .i64 0, .int .i64 0, .int .i64 0]) (t := 46) ?hr ?_; (case hd => rfl); (case hg => rfl); (case hr => first | (go_simp; done) | (go_simp; rfl)); intro gb148 hg w10 hbox hb; have n0_ := Aside0.mk (below_step (by repeat (first | (with_reducible first | exact HB.out | apply below_alloc | apply pw_below_drewN | apply below_drew1) | exact HB.out)) hb); have n1_ := Aside0.mk (hbox); have n2_ := Aside0.mk ((by rw [hg]; exact (below_size (by repeat (first | (with_reducible first | exact HB.out | apply below_alloc | apply pw_below_drewN | apply below_drew1) | exact HB.out))) : w.heap.size ≤ gb148)); have n3_ := Aside0.mk ((by rw [hg]; exact (below_size (by repeat (first | (with_reducible first | exact HB.out | apply below_alloc | apply pw_below_drewN | apply below_drew1) | exact HB.out))) : w.heap.size ≤ gb148)); clear HB; have HB := n0_; have BK148 := n1_; have GW148 := n2_; have GE148 := n3_; clear n0_ n1_ n2_ n3_; clear hb hbox hg; have hcz11_0 : w10.cell? ⟨gb148, 0, none⟩ = some (.int .i64 0) := (blk_cell BK148.out 0).trans rfl; have hcz11_1 : w10.cell? ⟨gb148, 1, none⟩ = some (.int .i64 0) := (blk_cell BK148.out 1).trans rfl; have hcz11_2 : w10.cell? ⟨gb148, 2, none⟩ = some (.int .i64 0) := (blk_cell BK148.out 2).trans rfl; have hcz11_3 : w10.cell? ⟨gb148, 3, none⟩ = some (.int .i64 0) := (blk_cell BK148.out 3).trans rfl; have hfz11_0 := blk_frozen BK148.out 0; have hfz11_1 := blk_frozen BK148.out 1; have hfz11_2 := blk_frozen BK148.out 2; have hfz11_3 := blk_frozen BK148.out 3))
          (try simp only [Act.put, List.setIfInBounds_toArray, List.set_cons_zero, List.set_cons_succ])
          go_cut [73] (fun v73 wc => ∃ (kq : Nat) (x73_8 : Bool), v73 = .bool x73_8 ∧ Aside0 (eddylaw18_refusable.j2 kq l0 a1 a2 x7_2 x73_8 ((rd_T46 l0 x7_2).f0) ((rd_T46 l0 x7_2).f1) ((rd_T46 l0 x7_2).f2) ((rd_T46 l0 x7_2).f3) = some r) ∧ Aside0 (kq ≤ k2) ∧ Aside0 (wc.heap[gb148]? = some (.cells #[.int .i64 ((rd_T46 l0 x7_2).f0), .int .i64 ((rd_T46 l0 x7_2).f1), .int .i64 ((rd_T46 l0 x7_2).f2), .int .i64 ((rd_T46 l0 x7_2).f3)] 46 (0, 0))) ∧ Aside0 (Below w.heap.size w wc))
          case first =>
           have H := HC9.out
           clear HC9
           by_cases c12 : ((rd_T46 l0 x7_2).f0) < 1
           ·
            rw [if_pos c12] at H
            have c12b0 : decide (((rd_T46 l0 x7_2).f0) < 1) = true := decide_eq_true c12
            clear c12
            (first | rw [c12b0] | (simp only [i64_w, i32_w]; rw [c12b0]) | skip)
            have H' := Aside0.mk H
            clear H
            have hcz13_0 : w10.cell? ⟨gb148, 0, none⟩ = some (.int .i64 0) := (blk_cell BK148.out 0).trans rfl
            have hcz13_1 : w10.cell? ⟨gb148, 1, none⟩ = some (.int .i64 0) := (blk_cell BK148.out 1).trans rfl
            have hcz13_2 : w10.cell? ⟨gb148, 2, none⟩ = some (.int .i64 0) := (blk_cell BK148.out 2).trans rfl
            have hcz13_3 : w10.cell? ⟨gb148, 3, none⟩ = some (.int .i64 0) := (blk_cell BK148.out 3).trans rfl
            have hfz13_0 := blk_frozen BK148.out 0
            have hfz13_1 := blk_frozen BK148.out 1
            have hfz13_2 := blk_frozen BK148.out 2
            have hfz13_3 := blk_frozen BK148.out 3
            go_wp2
            go_meet
            case rel => exact ⟨_, (true), (by first | rfl | (simp; done) | (simp [*]; done)), H', ⟨by have := HJ3.out; have := HK2.out; first | omega | exact Nat.le_refl _⟩, ⟨by (with_reducible repeat (first | refine blk_drewN ?_ _ | refine blk_drew ?_ | refine blk_alloc ?_ _)); refine blk_put (cs := #[.int .i64 ((rd_T46 l0 x7_2).f0), .int .i64 ((rd_T46 l0 x7_2).f1), .int .i64 ((rd_T46 l0 x7_2).f2), .int .i64 0]) ?_ 3 _ rfl; (with_reducible repeat (first | refine blk_drewN ?_ _ | refine blk_drew ?_ | refine blk_alloc ?_ _)); refine blk_put (cs := #[.int .i64 ((rd_T46 l0 x7_2).f0), .int .i64 ((rd_T46 l0 x7_2).f1), .int .i64 0, .int .i64 0]) ?_ 2 _ rfl; (with_reducible repeat (first | refine blk_drewN ?_ _ | refine blk_drew ?_ | refine blk_alloc ?_ _)); refine blk_put (cs := #[.int .i64 ((rd_T46 l0 x7_2).f0), .int .i64 0, .int .i64 0, .int .i64 0]) ?_ 1 _ rfl; (with_reducible repeat (first | refine blk_drewN ?_ _ | refine blk_drew ?_ | refine blk_alloc ?_ _)); refine blk_put (cs := #[.int .i64 0, .int .i64 0, .int .i64 0, .int .i64 0]) ?_ 0 _ rfl; (with_reducible repeat (first | refine blk_drewN ?_ _ | refine blk_drew ?_ | refine blk_alloc ?_ _)); exact BK148.out⟩, ⟨by repeat (first | (with_reducible first | exact HB.out | apply below_alloc | apply pw_below_drewN | apply below_drew1 | refine below_set ?_ GE148.out) | exact HB.out)⟩⟩
           ·
            as_aux_lemma =>
             rw [if_neg c12] at H
             have c12b0 : decide (((rd_T46 l0 x7_2).f0) < 1) = false := decide_eq_false c12
             clear c12
             (first | rw [c12b0] | (simp only [i64_w, i32_w]; rw [c12b0]) | skip)
             by_cases c14 : ((rd_T46 l0 x7_2).f0) > 11
             ·
              rw [if_pos c14] at H
              have c14b0 : decide (11 < ((rd_T46 l0 x7_2).f0)) = true := decide_eq_true c14
              clear c14
              have H' := Aside0.mk H
              clear H
              have hcz15_0 : w10.cell? ⟨gb148, 0, none⟩ = some (.int .i64 0) := (blk_cell BK148.out 0).trans rfl
              have hcz15_1 : w10.cell? ⟨gb148, 1, none⟩ = some (.int .i64 0) := (blk_cell BK148.out 1).trans rfl
              have hcz15_2 : w10.cell? ⟨gb148, 2, none⟩ = some (.int .i64 0) := (blk_cell BK148.out 2).trans rfl
              have hcz15_3 : w10.cell? ⟨gb148, 3, none⟩ = some (.int .i64 0) := (blk_cell BK148.out 3).trans rfl
              have hfz15_0 := blk_frozen BK148.out 0
              have hfz15_1 := blk_frozen BK148.out 1
              have hfz15_2 := blk_frozen BK148.out 2
              have hfz15_3 := blk_frozen BK148.out 3
              go_wp2
              go_meet
              case rel => exact ⟨_, (true), (by first | rfl | (simp; done) | (simp [*]; done)), H', ⟨by have := HJ3.out; have := HK2.out; first | omega | exact Nat.le_refl _⟩, ⟨by (with_reducible repeat (first | refine blk_drewN ?_ _ | refine blk_drew ?_ | refine blk_alloc ?_ _)); refine blk_put (cs := #[.int .i64 ((rd_T46 l0 x7_2).f0), .int .i64 ((rd_T46 l0 x7_2).f1), .int .i64 ((rd_T46 l0 x7_2).f2), .int .i64 0]) ?_ 3 _ rfl; (with_reducible repeat (first | refine blk_drewN ?_ _ | refine blk_drew ?_ | refine blk_alloc ?_ _)); refine blk_put (cs := #[.int .i64 ((rd_T46 l0 x7_2).f0), .int .i64 ((rd_T46 l0 x7_2).f1), .int .i64 0, .int .i64 0]) ?_ 2 _ rfl; (with_reducible repeat (first | refine blk_drewN ?_ _ | refine blk_drew ?_ | refine blk_alloc ?_ _)); refine blk_put (cs := #[.int .i64 ((rd_T46 l0 x7_2).f0), .int .i64 0, .int .i64 0, .int .i64 0]) ?_ 1 _ rfl; (with_reducible repeat (first | refine blk_drewN ?_ _ | refine blk_drew ?_ | refine blk_alloc ?_ _)); refine blk_put (cs := #[.int .i64 0, .int .i64 0, .int .i64 0, .int .i64 0]) ?_ 0 _ rfl; (with_reducible repeat (first | refine blk_drewN ?_ _ | refine blk_drew ?_ | refine blk_alloc ?_ _)); exact BK148.out⟩, ⟨by repeat (first | (with_reducible first | exact HB.out | apply below_alloc | apply pw_below_drewN | apply below_drew1 | refine below_set ?_ GE148.out) | exact HB.out)⟩⟩
             ·
              as_aux_lemma =>
               rw [if_neg c14] at H
               have c14b0 : decide (11 < ((rd_T46 l0 x7_2).f0)) = false := decide_eq_false c14
               clear c14
               by_cases c16 : ((rd_T46 l0 x7_2).f1) < 0
               ·
                rw [if_pos c16] at H
                have c16b0 : decide (((rd_T46 l0 x7_2).f1) < 0) = true := decide_eq_true c16
                clear c16
                have H' := Aside0.mk H
                clear H
                have hcz17_0 : w10.cell? ⟨gb148, 0, none⟩ = some (.int .i64 0) := (blk_cell BK148.out 0).trans rfl
                have hcz17_1 : w10.cell? ⟨gb148, 1, none⟩ = some (.int .i64 0) := (blk_cell BK148.out 1).trans rfl
                have hcz17_2 : w10.cell? ⟨gb148, 2, none⟩ = some (.int .i64 0) := (blk_cell BK148.out 2).trans rfl
                have hcz17_3 : w10.cell? ⟨gb148, 3, none⟩ = some (.int .i64 0) := (blk_cell BK148.out 3).trans rfl
                have hfz17_0 := blk_frozen BK148.out 0
                have hfz17_1 := blk_frozen BK148.out 1
                have hfz17_2 := blk_frozen BK148.out 2
                have hfz17_3 := blk_frozen BK148.out 3
                go_wp2
                go_meet
                case rel => exact ⟨_, (true), (by first | rfl | (simp; done) | (simp [*]; done)), H', ⟨by have := HJ3.out; have := HK2.out; first | omega | exact Nat.le_refl _⟩, ⟨by (with_reducible repeat (first | refine blk_drewN ?_ _ | refine blk_drew ?_ | refine blk_alloc ?_ _)); refine blk_put (cs := #[.int .i64 ((rd_T46 l0 x7_2).f0), .int .i64 ((rd_T46 l0 x7_2).f1), .int .i64 ((rd_T46 l0 x7_2).f2), .int .i64 0]) ?_ 3 _ rfl; (with_reducible repeat (first | refine blk_drewN ?_ _ | refine blk_drew ?_ | refine blk_alloc ?_ _)); refine blk_put (cs := #[.int .i64 ((rd_T46 l0 x7_2).f0), .int .i64 ((rd_T46 l0 x7_2).f1), .int .i64 0, .int .i64 0]) ?_ 2 _ rfl; (with_reducible repeat (first | refine blk_drewN ?_ _ | refine blk_drew ?_ | refine blk_alloc ?_ _)); refine blk_put (cs := #[.int .i64 ((rd_T46 l0 x7_2).f0), .int .i64 0, .int .i64 0, .int .i64 0]) ?_ 1 _ rfl; (with_reducible repeat (first | refine blk_drewN ?_ _ | refine blk_drew ?_ | refine blk_alloc ?_ _)); refine blk_put (cs := #[.int .i64 0, .int .i64 0, .int .i64 0, .int .i64 0]) ?_ 0 _ rfl; (with_reducible repeat (first | refine blk_drewN ?_ _ | refine blk_drew ?_ | refine blk_alloc ?_ _)); exact BK148.out⟩, ⟨by repeat (first | (with_reducible first | exact HB.out | apply below_alloc | apply pw_below_drewN | apply below_drew1 | refine below_set ?_ GE148.out) | exact HB.out)⟩⟩
               ·
                as_aux_lemma =>
                 rw [if_neg c16] at H
                 have c16b0 : decide (((rd_T46 l0 x7_2).f1) < 0) = false := decide_eq_false c16
                 clear c16
                 by_cases c18 : ((rd_T46 l0 x7_2).f1) ≥ a2
                 ·
                  rw [if_pos c18] at H
                  have c18b0 : decide (a2 ≤ ((rd_T46 l0 x7_2).f1)) = true := decide_eq_true c18
                  clear c18
                  have H' := Aside0.mk H
                  clear H
                  have hcz19_0 : w10.cell? ⟨gb148, 0, none⟩ = some (.int .i64 0) := (blk_cell BK148.out 0).trans rfl
                  have hcz19_1 : w10.cell? ⟨gb148, 1, none⟩ = some (.int .i64 0) := (blk_cell BK148.out 1).trans rfl
                  have hcz19_2 : w10.cell? ⟨gb148, 2, none⟩ = some (.int .i64 0) := (blk_cell BK148.out 2).trans rfl
                  have hcz19_3 : w10.cell? ⟨gb148, 3, none⟩ = some (.int .i64 0) := (blk_cell BK148.out 3).trans rfl
                  have hfz19_0 := blk_frozen BK148.out 0
                  have hfz19_1 := blk_frozen BK148.out 1
                  have hfz19_2 := blk_frozen BK148.out 2
                  have hfz19_3 := blk_frozen BK148.out 3
                  go_wp2
                  go_meet
                  case rel => exact ⟨_, (true), (by first | rfl | (simp; done) | (simp [*]; done)), H', ⟨by have := HJ3.out; have := HK2.out; first | omega | exact Nat.le_refl _⟩, ⟨by (with_reducible repeat (first | refine blk_drewN ?_ _ | refine blk_drew ?_ | refine blk_alloc ?_ _)); refine blk_put (cs := #[.int .i64 ((rd_T46 l0 x7_2).f0), .int .i64 ((rd_T46 l0 x7_2).f1), .int .i64 ((rd_T46 l0 x7_2).f2), .int .i64 0]) ?_ 3 _ rfl; (with_reducible repeat (first | refine blk_drewN ?_ _ | refine blk_drew ?_ | refine blk_alloc ?_ _)); refine blk_put (cs := #[.int .i64 ((rd_T46 l0 x7_2).f0), .int .i64 ((rd_T46 l0 x7_2).f1), .int .i64 0, .int .i64 0]) ?_ 2 _ rfl; (with_reducible repeat (first | refine blk_drewN ?_ _ | refine blk_drew ?_ | refine blk_alloc ?_ _)); refine blk_put (cs := #[.int .i64 ((rd_T46 l0 x7_2).f0), .int .i64 0, .int .i64 0, .int .i64 0]) ?_ 1 _ rfl; (with_reducible repeat (first | refine blk_drewN ?_ _ | refine blk_drew ?_ | refine blk_alloc ?_ _)); refine blk_put (cs := #[.int .i64 0, .int .i64 0, .int .i64 0, .int .i64 0]) ?_ 0 _ rfl; (with_reducible repeat (first | refine blk_drewN ?_ _ | refine blk_drew ?_ | refine blk_alloc ?_ _)); exact BK148.out⟩, ⟨by repeat (first | (with_reducible first | exact HB.out | apply below_alloc | apply pw_below_drewN | apply below_drew1 | refine below_set ?_ GE148.out) | exact HB.out)⟩⟩
                 ·
                  as_aux_lemma =>
                   rw [if_neg c18] at H
                   have c18b0 : decide (a2 ≤ ((rd_T46 l0 x7_2).f1)) = false := decide_eq_false c18
                   clear c18
                   by_cases c20 : ((rd_T46 l0 x7_2).f2) < 0
                   ·
                    rw [if_pos c20] at H
                    have c20b0 : decide (((rd_T46 l0 x7_2).f2) < 0) = true := decide_eq_true c20
                    clear c20
                    have H' := Aside0.mk H
                    clear H
                    have hcz21_0 : w10.cell? ⟨gb148, 0, none⟩ = some (.int .i64 0) := (blk_cell BK148.out 0).trans rfl
                    have hcz21_1 : w10.cell? ⟨gb148, 1, none⟩ = some (.int .i64 0) := (blk_cell BK148.out 1).trans rfl
                    have hcz21_2 : w10.cell? ⟨gb148, 2, none⟩ = some (.int .i64 0) := (blk_cell BK148.out 2).trans rfl
                    have hcz21_3 : w10.cell? ⟨gb148, 3, none⟩ = some (.int .i64 0) := (blk_cell BK148.out 3).trans rfl
                    have hfz21_0 := blk_frozen BK148.out 0
                    have hfz21_1 := blk_frozen BK148.out 1
                    have hfz21_2 := blk_frozen BK148.out 2
                    have hfz21_3 := blk_frozen BK148.out 3
                    go_wp2
                    go_meet
                    case rel => exact ⟨_, (true), (by first | rfl | (simp; done) | (simp [*]; done)), H', ⟨by have := HJ3.out; have := HK2.out; first | omega | exact Nat.le_refl _⟩, ⟨by (with_reducible repeat (first | refine blk_drewN ?_ _ | refine blk_drew ?_ | refine blk_alloc ?_ _)); refine blk_put (cs := #[.int .i64 ((rd_T46 l0 x7_2).f0), .int .i64 ((rd_T46 l0 x7_2).f1), .int .i64 ((rd_T46 l0 x7_2).f2), .int .i64 0]) ?_ 3 _ rfl; (with_reducible repeat (first | refine blk_drewN ?_ _ | refine blk_drew ?_ | refine blk_alloc ?_ _)); refine blk_put (cs := #[.int .i64 ((rd_T46 l0 x7_2).f0), .int .i64 ((rd_T46 l0 x7_2).f1), .int .i64 0, .int .i64 0]) ?_ 2 _ rfl; (with_reducible repeat (first | refine blk_drewN ?_ _ | refine blk_drew ?_ | refine blk_alloc ?_ _)); refine blk_put (cs := #[.int .i64 ((rd_T46 l0 x7_2).f0), .int .i64 0, .int .i64 0, .int .i64 0]) ?_ 1 _ rfl; (with_reducible repeat (first | refine blk_drewN ?_ _ | refine blk_drew ?_ | refine blk_alloc ?_ _)); refine blk_put (cs := #[.int .i64 0, .int .i64 0, .int .i64 0, .int .i64 0]) ?_ 0 _ rfl; (with_reducible repeat (first | refine blk_drewN ?_ _ | refine blk_drew ?_ | refine blk_alloc ?_ _)); exact BK148.out⟩, ⟨by repeat (first | (with_reducible first | exact HB.out | apply below_alloc | apply pw_below_drewN | apply below_drew1 | refine below_set ?_ GE148.out) | exact HB.out)⟩⟩
                   ·
                    as_aux_lemma =>
                     rw [if_neg c20] at H
                     have c20b0 : decide (((rd_T46 l0 x7_2).f2) < 0) = false := decide_eq_false c20
                     clear c20
                     by_cases c22 : ((rd_T46 l0 x7_2).f2) > 3
                     ·
                      rw [if_pos c22] at H
                      have c22b0 : decide (3 < ((rd_T46 l0 x7_2).f2)) = true := decide_eq_true c22
                      clear c22
                      have H' := Aside0.mk H
                      clear H
                      have hcz23_0 : w10.cell? ⟨gb148, 0, none⟩ = some (.int .i64 0) := (blk_cell BK148.out 0).trans rfl
                      have hcz23_1 : w10.cell? ⟨gb148, 1, none⟩ = some (.int .i64 0) := (blk_cell BK148.out 1).trans rfl
                      have hcz23_2 : w10.cell? ⟨gb148, 2, none⟩ = some (.int .i64 0) := (blk_cell BK148.out 2).trans rfl
                      have hcz23_3 : w10.cell? ⟨gb148, 3, none⟩ = some (.int .i64 0) := (blk_cell BK148.out 3).trans rfl
                      have hfz23_0 := blk_frozen BK148.out 0
                      have hfz23_1 := blk_frozen BK148.out 1
                      have hfz23_2 := blk_frozen BK148.out 2
                      have hfz23_3 := blk_frozen BK148.out 3
                      go_wp2
                      go_meet
                      case rel => exact ⟨_, (true), (by first | rfl | (simp; done) | (simp [*]; done)), H', ⟨by have := HJ3.out; have := HK2.out; first | omega | exact Nat.le_refl _⟩, ⟨by (with_reducible repeat (first | refine blk_drewN ?_ _ | refine blk_drew ?_ | refine blk_alloc ?_ _)); refine blk_put (cs := #[.int .i64 ((rd_T46 l0 x7_2).f0), .int .i64 ((rd_T46 l0 x7_2).f1), .int .i64 ((rd_T46 l0 x7_2).f2), .int .i64 0]) ?_ 3 _ rfl; (with_reducible repeat (first | refine blk_drewN ?_ _ | refine blk_drew ?_ | refine blk_alloc ?_ _)); refine blk_put (cs := #[.int .i64 ((rd_T46 l0 x7_2).f0), .int .i64 ((rd_T46 l0 x7_2).f1), .int .i64 0, .int .i64 0]) ?_ 2 _ rfl; (with_reducible repeat (first | refine blk_drewN ?_ _ | refine blk_drew ?_ | refine blk_alloc ?_ _)); refine blk_put (cs := #[.int .i64 ((rd_T46 l0 x7_2).f0), .int .i64 0, .int .i64 0, .int .i64 0]) ?_ 1 _ rfl; (with_reducible repeat (first | refine blk_drewN ?_ _ | refine blk_drew ?_ | refine blk_alloc ?_ _)); refine blk_put (cs := #[.int .i64 0, .int .i64 0, .int .i64 0, .int .i64 0]) ?_ 0 _ rfl; (with_reducible repeat (first | refine blk_drewN ?_ _ | refine blk_drew ?_ | refine blk_alloc ?_ _)); exact BK148.out⟩, ⟨by repeat (first | (with_reducible first | exact HB.out | apply below_alloc | apply pw_below_drewN | apply below_drew1 | refine below_set ?_ GE148.out) | exact HB.out)⟩⟩
                     ·
                      as_aux_lemma =>
                       rw [if_neg c22] at H
                       have c22b0 : decide (3 < ((rd_T46 l0 x7_2).f2)) = false := decide_eq_false c22
                       clear c22
                       by_cases c24 : ((rd_T46 l0 x7_2).f3) < 0
                       ·
                        rw [if_pos c24] at H
                        have c24b0 : decide (((rd_T46 l0 x7_2).f3) < 0) = true := decide_eq_true c24
                        clear c24
                        have H' := Aside0.mk H
                        clear H
                        have hcz25_0 : w10.cell? ⟨gb148, 0, none⟩ = some (.int .i64 0) := (blk_cell BK148.out 0).trans rfl
                        have hcz25_1 : w10.cell? ⟨gb148, 1, none⟩ = some (.int .i64 0) := (blk_cell BK148.out 1).trans rfl
                        have hcz25_2 : w10.cell? ⟨gb148, 2, none⟩ = some (.int .i64 0) := (blk_cell BK148.out 2).trans rfl
                        have hcz25_3 : w10.cell? ⟨gb148, 3, none⟩ = some (.int .i64 0) := (blk_cell BK148.out 3).trans rfl
                        have hfz25_0 := blk_frozen BK148.out 0
                        have hfz25_1 := blk_frozen BK148.out 1
                        have hfz25_2 := blk_frozen BK148.out 2
                        have hfz25_3 := blk_frozen BK148.out 3
                        go_wp2
                        go_meet
                        case rel => exact ⟨_, (true), (by first | rfl | (simp; done) | (simp [*]; done)), H', ⟨by have := HJ3.out; have := HK2.out; first | omega | exact Nat.le_refl _⟩, ⟨by (with_reducible repeat (first | refine blk_drewN ?_ _ | refine blk_drew ?_ | refine blk_alloc ?_ _)); refine blk_put (cs := #[.int .i64 ((rd_T46 l0 x7_2).f0), .int .i64 ((rd_T46 l0 x7_2).f1), .int .i64 ((rd_T46 l0 x7_2).f2), .int .i64 0]) ?_ 3 _ rfl; (with_reducible repeat (first | refine blk_drewN ?_ _ | refine blk_drew ?_ | refine blk_alloc ?_ _)); refine blk_put (cs := #[.int .i64 ((rd_T46 l0 x7_2).f0), .int .i64 ((rd_T46 l0 x7_2).f1), .int .i64 0, .int .i64 0]) ?_ 2 _ rfl; (with_reducible repeat (first | refine blk_drewN ?_ _ | refine blk_drew ?_ | refine blk_alloc ?_ _)); refine blk_put (cs := #[.int .i64 ((rd_T46 l0 x7_2).f0), .int .i64 0, .int .i64 0, .int .i64 0]) ?_ 1 _ rfl; (with_reducible repeat (first | refine blk_drewN ?_ _ | refine blk_drew ?_ | refine blk_alloc ?_ _)); refine blk_put (cs := #[.int .i64 0, .int .i64 0, .int .i64 0, .int .i64 0]) ?_ 0 _ rfl; (with_reducible repeat (first | refine blk_drewN ?_ _ | refine blk_drew ?_ | refine blk_alloc ?_ _)); exact BK148.out⟩, ⟨by repeat (first | (with_reducible first | exact HB.out | apply below_alloc | apply pw_below_drewN | apply below_drew1 | refine below_set ?_ GE148.out) | exact HB.out)⟩⟩
                       ·
                        as_aux_lemma =>
                         rw [if_neg c24] at H
                         have c24b0 : decide (((rd_T46 l0 x7_2).f3) < 0) = false := decide_eq_false c24
                         clear c24
                         by_cases c26 : ((rd_T46 l0 x7_2).f3) > 9999
                         ·
                          rw [if_pos c26] at H
                          have c26b0 : decide (9999 < ((rd_T46 l0 x7_2).f3)) = true := decide_eq_true c26
                          clear c26
                          have H' := Aside0.mk H
                          clear H
                          have hcz27_0 : w10.cell? ⟨gb148, 0, none⟩ = some (.int .i64 0) := (blk_cell BK148.out 0).trans rfl
                          have hcz27_1 : w10.cell? ⟨gb148, 1, none⟩ = some (.int .i64 0) := (blk_cell BK148.out 1).trans rfl
                          have hcz27_2 : w10.cell? ⟨gb148, 2, none⟩ = some (.int .i64 0) := (blk_cell BK148.out 2).trans rfl
                          have hcz27_3 : w10.cell? ⟨gb148, 3, none⟩ = some (.int .i64 0) := (blk_cell BK148.out 3).trans rfl
                          have hfz27_0 := blk_frozen BK148.out 0
                          have hfz27_1 := blk_frozen BK148.out 1
                          have hfz27_2 := blk_frozen BK148.out 2
                          have hfz27_3 := blk_frozen BK148.out 3
                          go_wp2
                          go_meet
                          case rel => exact ⟨_, ((((rd_T46 l0 x7_2).f0) != 9)), (by first | rfl | (simp; done) | (simp [*]; done)), H', ⟨by have := HJ3.out; have := HK2.out; first | omega | exact Nat.le_refl _⟩, ⟨by (with_reducible repeat (first | refine blk_drewN ?_ _ | refine blk_drew ?_ | refine blk_alloc ?_ _)); refine blk_put (cs := #[.int .i64 ((rd_T46 l0 x7_2).f0), .int .i64 ((rd_T46 l0 x7_2).f1), .int .i64 ((rd_T46 l0 x7_2).f2), .int .i64 0]) ?_ 3 _ rfl; (with_reducible repeat (first | refine blk_drewN ?_ _ | refine blk_drew ?_ | refine blk_alloc ?_ _)); refine blk_put (cs := #[.int .i64 ((rd_T46 l0 x7_2).f0), .int .i64 ((rd_T46 l0 x7_2).f1), .int .i64 0, .int .i64 0]) ?_ 2 _ rfl; (with_reducible repeat (first | refine blk_drewN ?_ _ | refine blk_drew ?_ | refine blk_alloc ?_ _)); refine blk_put (cs := #[.int .i64 ((rd_T46 l0 x7_2).f0), .int .i64 0, .int .i64 0, .int .i64 0]) ?_ 1 _ rfl; (with_reducible repeat (first | refine blk_drewN ?_ _ | refine blk_drew ?_ | refine blk_alloc ?_ _)); refine blk_put (cs := #[.int .i64 0, .int .i64 0, .int .i64 0, .int .i64 0]) ?_ 0 _ rfl; (with_reducible repeat (first | refine blk_drewN ?_ _ | refine blk_drew ?_ | refine blk_alloc ?_ _)); exact BK148.out⟩, ⟨by repeat (first | (with_reducible first | exact HB.out | apply below_alloc | apply pw_below_drewN | apply below_drew1 | refine below_set ?_ GE148.out) | exact HB.out)⟩⟩
                         ·
                          rw [if_neg c26] at H
                          have c26b0 : decide (9999 < ((rd_T46 l0 x7_2).f3)) = false := decide_eq_false c26
                          clear c26
                          have H' := Aside0.mk H
                          clear H
                          have hcz28_0 : w10.cell? ⟨gb148, 0, none⟩ = some (.int .i64 0) := (blk_cell BK148.out 0).trans rfl
                          have hcz28_1 : w10.cell? ⟨gb148, 1, none⟩ = some (.int .i64 0) := (blk_cell BK148.out 1).trans rfl
                          have hcz28_2 : w10.cell? ⟨gb148, 2, none⟩ = some (.int .i64 0) := (blk_cell BK148.out 2).trans rfl
                          have hcz28_3 : w10.cell? ⟨gb148, 3, none⟩ = some (.int .i64 0) := (blk_cell BK148.out 3).trans rfl
                          have hfz28_0 := blk_frozen BK148.out 0
                          have hfz28_1 := blk_frozen BK148.out 1
                          have hfz28_2 := blk_frozen BK148.out 2
                          have hfz28_3 := blk_frozen BK148.out 3
                          go_wp2
                          go_meet
                          case rel => exact ⟨_, (false), (by first | rfl | (simp; done) | (simp [*]; done)), H', ⟨by have := HJ3.out; have := HK2.out; first | omega | exact Nat.le_refl _⟩, ⟨by (with_reducible repeat (first | refine blk_drewN ?_ _ | refine blk_drew ?_ | refine blk_alloc ?_ _)); refine blk_put (cs := #[.int .i64 ((rd_T46 l0 x7_2).f0), .int .i64 ((rd_T46 l0 x7_2).f1), .int .i64 ((rd_T46 l0 x7_2).f2), .int .i64 0]) ?_ 3 _ rfl; (with_reducible repeat (first | refine blk_drewN ?_ _ | refine blk_drew ?_ | refine blk_alloc ?_ _)); refine blk_put (cs := #[.int .i64 ((rd_T46 l0 x7_2).f0), .int .i64 ((rd_T46 l0 x7_2).f1), .int .i64 0, .int .i64 0]) ?_ 2 _ rfl; (with_reducible repeat (first | refine blk_drewN ?_ _ | refine blk_drew ?_ | refine blk_alloc ?_ _)); refine blk_put (cs := #[.int .i64 ((rd_T46 l0 x7_2).f0), .int .i64 0, .int .i64 0, .int .i64 0]) ?_ 1 _ rfl; (with_reducible repeat (first | refine blk_drewN ?_ _ | refine blk_drew ?_ | refine blk_alloc ?_ _)); refine blk_put (cs := #[.int .i64 0, .int .i64 0, .int .i64 0, .int .i64 0]) ?_ 0 _ rfl; (with_reducible repeat (first | refine blk_drewN ?_ _ | refine blk_drew ?_ | refine blk_alloc ?_ _)); exact BK148.out⟩, ⟨by repeat (first | (with_reducible first | exact HB.out | apply below_alloc | apply pw_below_drewN | apply below_drew1 | refine below_set ?_ GE148.out) | exact HB.out)⟩⟩
          case rest =>
           clear HC9
           try clear c1
           try clear p1
           try clear q1
           try clear hx1
           try clear c2
           try clear p2
           try clear c5
           try clear c5b0
           try clear c6
           try clear c7
           try clear c7b0
           try clear c8
           try clear c8b0
           try clear c12
           try clear c12b0
           try clear c14
           try clear c14b0
           try clear p14
           try clear q14
           try clear hx14
           try clear c16
           try clear c16b0
           try clear c18
           try clear c18b0
           try clear c20
           try clear c20b0
           try clear c21
           try clear c22
           try clear c22b0
           try clear c24
           try clear c24b0
           try clear c26
           try clear c26b0
           try clear hcz11_0
           try clear hcz11_1
           try clear hcz11_2
           try clear hcz11_3
           try clear hcz13_0
           try clear hcz13_1
           try clear hcz13_2
           try clear hcz13_3
           try clear hcz15_0
           try clear hcz15_1
           try clear hcz15_2
           try clear hcz15_3
           try clear hcz17_0
           try clear hcz17_1
           try clear hcz17_2
           try clear hcz17_3
           try clear hcz19_0
           try clear hcz19_1
           try clear hcz19_2
           try clear hcz19_3
           try clear hcz21_0
           try clear hcz21_1
           try clear hcz21_2
           try clear hcz21_3
           try clear hcz23_0
           try clear hcz23_1
           try clear hcz23_2
           try clear hcz23_3
           try clear hcz25_0
           try clear hcz25_1
           try clear hcz25_2
           try clear hcz25_3
           try clear hcz27_0
           try clear hcz27_1
           try clear hcz27_2
           try clear hcz27_3
           try clear hcz28_0
           try clear hcz28_1
           try clear hcz28_2
           try clear hcz28_3
           try clear hfz11_0
           try clear hfz11_1
           try clear hfz11_2
           try clear hfz11_3
           try clear hfz13_0
           try clear hfz13_1
           try clear hfz13_2
           try clear hfz13_3
           try clear hfz15_0
           try clear hfz15_1
           try clear hfz15_2
           try clear hfz15_3
           try clear hfz17_0
           try clear hfz17_1
           try clear hfz17_2
           try clear hfz17_3
           try clear hfz19_0
           try clear hfz19_1
           try clear hfz19_2
           try clear hfz19_3
           try clear hfz21_0
           try clear hfz21_1
           try clear hfz21_2
           try clear hfz21_3
           try clear hfz23_0
           try clear hfz23_1
           try clear hfz23_2
           try clear hfz23_3
           try clear hfz25_0
           try clear hfz25_1
           try clear hfz25_2
           try clear hfz25_3
           try clear hfz27_0
           try clear hfz27_1
           try clear hfz27_2
           try clear hfz27_3
           try clear hfz28_0
           try clear hfz28_1
           try clear hfz28_2
           try clear hfz28_3
           try clear hx147_0
           try clear hx147_1
           try clear hx147_2
           try clear hx147_3
           try clear p147
           try clear p2
           try clear q147
           obtain ⟨kq, x73_8, rfl, HA, HJ8, BK148, HB⟩ := hcut
           cases kq with
           | zero => exact absurd HA.out (by simp [eddylaw18_refusable.j2])
           | succ kj8 =>
            have H := HA.out
            clear HA
            simp only [eddylaw18_refusable.j2] at H
            by_cases c29 : x73_8 = true
            ·
             subst c29
             have H1 : (some true) = some r := by rw [if_pos rfl] at H; exact H
             clear H
             have H := H1
             clear H1
             obtain rfl := Option.some.inj H
             go_wp2
             go_ret
             exact ⟨by first | rfl | (simp [errW_none, errW_some] <;> rfl) | (simp [*, errW_none, errW_some] <;> rfl), by repeat (first | (with_reducible first | exact HB.out | apply below_alloc | apply pw_below_drewN | apply below_drew1 | refine below_set ?_ GE148.out) | exact HB.out)⟩
            ·
             as_aux_lemma =>
              replace c29 := Bool.eq_false_iff.mpr c29
              subst c29
              have H1 : (if ((rd_T46 l0 x7_2).f2) = 0 then (if ((rd_T46 l0 x7_2).f3) = 0 then (if ((rd_T46 l0 x7_2).f0) > 1 then (if ((rd_T46 l0 x7_2).f0) < 9 then (some true) else (if ((rd_T46 l0 x7_2).f1) = 0 then (eddylaw18_refusable.l0 kj8 l0 a1 a2 (wrap64 (x7_2 + 1))) else (if ((rd_T46 l0 x7_2).f0) > 4 then (if ((rd_T46 l0 x7_2).f0) > 9 then (some true) else (eddylaw18_refusable.l0 kj8 l0 a1 a2 (wrap64 (x7_2 + 1)))) else (if ((rd_T46 l0 x7_2).f0) > 9 then (some true) else (eddylaw18_refusable.l0 kj8 l0 a1 a2 (wrap64 (x7_2 + 1))))))) else (if ((rd_T46 l0 x7_2).f1) = 0 then (eddylaw18_refusable.l0 kj8 l0 a1 a2 (wrap64 (x7_2 + 1))) else (if ((rd_T46 l0 x7_2).f0) > 4 then (if ((rd_T46 l0 x7_2).f0) < 9 then (some true) else (if ((rd_T46 l0 x7_2).f0) > 9 then (some true) else (eddylaw18_refusable.l0 kj8 l0 a1 a2 (wrap64 (x7_2 + 1))))) else (if ((rd_T46 l0 x7_2).f0) > 9 then (some true) else (eddylaw18_refusable.l0 kj8 l0 a1 a2 (wrap64 (x7_2 + 1))))))) else (if ((rd_T46 l0 x7_2).f0) = 1 then (some true) else (if ((rd_T46 l0 x7_2).f0) = 10 then (some true) else (if ((rd_T46 l0 x7_2).f1) = 0 then (eddylaw18_refusable.l0 kj8 l0 a1 a2 (wrap64 (x7_2 + 1))) else (if ((rd_T46 l0 x7_2).f0) > 4 then (if ((rd_T46 l0 x7_2).f0) < 9 then (some true) else (if ((rd_T46 l0 x7_2).f0) > 9 then (some true) else (eddylaw18_refusable.l0 kj8 l0 a1 a2 (wrap64 (x7_2 + 1))))) else (if ((rd_T46 l0 x7_2).f0) > 9 then (some true) else (eddylaw18_refusable.l0 kj8 l0 a1 a2 (wrap64 (x7_2 + 1))))))))) else (if ((rd_T46 l0 x7_2).f0) > 2 then (some true) else (if ((rd_T46 l0 x7_2).f3) = 0 then (if ((rd_T46 l0 x7_2).f0) > 1 then (if ((rd_T46 l0 x7_2).f0) < 9 then (some true) else (if ((rd_T46 l0 x7_2).f1) = 0 then (eddylaw18_refusable.l0 kj8 l0 a1 a2 (wrap64 (x7_2 + 1))) else (if ((rd_T46 l0 x7_2).f0) > 4 then (if ((rd_T46 l0 x7_2).f0) > 9 then (some true) else (eddylaw18_refusable.l0 kj8 l0 a1 a2 (wrap64 (x7_2 + 1)))) else (if ((rd_T46 l0 x7_2).f0) > 9 then (some true) else (eddylaw18_refusable.l0 kj8 l0 a1 a2 (wrap64 (x7_2 + 1))))))) else (if ((rd_T46 l0 x7_2).f1) = 0 then (eddylaw18_refusable.l0 kj8 l0 a1 a2 (wrap64 (x7_2 + 1))) else (if ((rd_T46 l0 x7_2).f0) > 4 then (if ((rd_T46 l0 x7_2).f0) < 9 then (some true) else (if ((rd_T46 l0 x7_2).f0) > 9 then (some true) else (eddylaw18_refusable.l0 kj8 l0 a1 a2 (wrap64 (x7_2 + 1))))) else (if ((rd_T46 l0 x7_2).f0) > 9 then (some true) else (eddylaw18_refusable.l0 kj8 l0 a1 a2 (wrap64 (x7_2 + 1))))))) else (if ((rd_T46 l0 x7_2).f0) = 1 then (some true) else (if ((rd_T46 l0 x7_2).f0) = 10 then (some true) else (if ((rd_T46 l0 x7_2).f1) = 0 then (eddylaw18_refusable.l0 kj8 l0 a1 a2 (wrap64 (x7_2 + 1))) else (if ((rd_T46 l0 x7_2).f0) > 4 then (if ((rd_T46 l0 x7_2).f0) < 9 then (some true) else (if ((rd_T46 l0 x7_2).f0) > 9 then (some true) else (eddylaw18_refusable.l0 kj8 l0 a1 a2 (wrap64 (x7_2 + 1))))) else (if ((rd_T46 l0 x7_2).f0) > 9 then (some true) else (eddylaw18_refusable.l0 kj8 l0 a1 a2 (wrap64 (x7_2 + 1))))))))))) = some r := by rw [if_neg (show ¬ (false = true) by decide)] at H; exact H
              clear H
              have H := H1
              clear H1
              by_cases c30 : ((rd_T46 l0 x7_2).f2) = 0
              ·
               as_aux_lemma =>
                rw [if_pos c30] at H
                have c30b0 : (((rd_T46 l0 x7_2).f2) == 0) = true := beq_iff_eq.mpr c30
                have c30b1 : (((rd_T46 l0 x7_2).f2) != 0) = false := bne_eq_false_iff_eq.mpr c30
                clear c30
                by_cases c31 : ((rd_T46 l0 x7_2).f3) = 0
                ·
                 as_aux_lemma =>
                  rw [if_pos c31] at H
                  have c31b0 : (((rd_T46 l0 x7_2).f3) == 0) = true := beq_iff_eq.mpr c31
                  have c31b1 : (((rd_T46 l0 x7_2).f3) != 0) = false := bne_eq_false_iff_eq.mpr c31
                  clear c31
                  by_cases c32 : ((rd_T46 l0 x7_2).f0) > 1
                  ·
                   as_aux_lemma =>
                    rw [if_pos c32] at H
                    have c32b0 : decide (1 < ((rd_T46 l0 x7_2).f0)) = true := decide_eq_true c32
                    clear c32
                    by_cases c33 : ((rd_T46 l0 x7_2).f0) < 9
                    ·
                     rw [if_pos c33] at H
                     have c33b0 : decide (((rd_T46 l0 x7_2).f0) < 9) = true := decide_eq_true c33
                     clear c33
                     obtain rfl := Option.some.inj H
                     have hcz34_0 : wc.cell? ⟨gb148, 0, none⟩ = some (.int .i64 ((rd_T46 l0 x7_2).f0)) := (blk_cell BK148.out 0).trans rfl
                     have hcz34_1 : wc.cell? ⟨gb148, 1, none⟩ = some (.int .i64 ((rd_T46 l0 x7_2).f1)) := (blk_cell BK148.out 1).trans rfl
                     have hcz34_2 : wc.cell? ⟨gb148, 2, none⟩ = some (.int .i64 ((rd_T46 l0 x7_2).f2)) := (blk_cell BK148.out 2).trans rfl
                     have hcz34_3 : wc.cell? ⟨gb148, 3, none⟩ = some (.int .i64 ((rd_T46 l0 x7_2).f3)) := (blk_cell BK148.out 3).trans rfl
                     have hfz34_0 := blk_frozen BK148.out 0
                     have hfz34_1 := blk_frozen BK148.out 1
                     have hfz34_2 := blk_frozen BK148.out 2
                     have hfz34_3 := blk_frozen BK148.out 3
                     go_wp2
                     go_ret
                     exact ⟨by first | rfl | (simp [errW_none, errW_some] <;> rfl) | (simp [*, errW_none, errW_some] <;> rfl), by repeat (first | (with_reducible first | exact HB.out | apply below_alloc | apply pw_below_drewN | apply below_drew1 | refine below_set ?_ GE148.out) | exact HB.out)⟩
                    ·
                     as_aux_lemma =>
                      rw [if_neg c33] at H
                      have c33b0 : decide (((rd_T46 l0 x7_2).f0) < 9) = false := decide_eq_false c33
                      clear c33
                      by_cases c35 : ((rd_T46 l0 x7_2).f1) = 0
                      ·
                       rw [if_pos c35] at H
                       have c35b0 : (((rd_T46 l0 x7_2).f1) == 0) = true := beq_iff_eq.mpr c35
                       have c35b1 : (((rd_T46 l0 x7_2).f1) != 0) = false := bne_eq_false_iff_eq.mpr c35
                       clear c35
                       have H' := Aside0.mk H
                       clear H
                       have hcz36_0 : wc.cell? ⟨gb148, 0, none⟩ = some (.int .i64 ((rd_T46 l0 x7_2).f0)) := (blk_cell BK148.out 0).trans rfl
                       have hcz36_1 : wc.cell? ⟨gb148, 1, none⟩ = some (.int .i64 ((rd_T46 l0 x7_2).f1)) := (blk_cell BK148.out 1).trans rfl
                       have hcz36_2 : wc.cell? ⟨gb148, 2, none⟩ = some (.int .i64 ((rd_T46 l0 x7_2).f2)) := (blk_cell BK148.out 2).trans rfl
                       have hcz36_3 : wc.cell? ⟨gb148, 3, none⟩ = some (.int .i64 ((rd_T46 l0 x7_2).f3)) := (blk_cell BK148.out 3).trans rfl
                       have hfz36_0 := blk_frozen BK148.out 0
                       have hfz36_1 := blk_frozen BK148.out 1
                       have hfz36_2 := blk_frozen BK148.out 2
                       have hfz36_3 := blk_frozen BK148.out 3
                       go_wp2
                       go_roundg kj8
                       case measure => have := HJ3.out; have := HK2.out; have := HJ8.out; omega
                       case rel => exact ⟨(wrap64 (x7_2 + 1)), (by first | rfl | (simp; done) | (simp [*]; done)), H', ⟨by have := HJ3.out; have := HK2.out; have := HJ8.out; omega⟩, ⟨by repeat (first | (with_reducible first | exact HB.out | apply below_alloc | apply pw_below_drewN | apply below_drew1 | refine below_set ?_ GE148.out) | exact HB.out)⟩⟩
                      ·
                       as_aux_lemma =>
                        rw [if_neg c35] at H
                        have c35b0 : (((rd_T46 l0 x7_2).f1) == 0) = false := beq_eq_false_iff_ne.mpr c35
                        have c35b1 : (((rd_T46 l0 x7_2).f1) != 0) = true := bne_iff_ne.mpr c35
                        by_cases c37 : ((rd_T46 l0 x7_2).f0) > 4
                        ·
                         as_aux_lemma =>
                          rw [if_pos c37] at H
                          have c37b0 : decide (4 < ((rd_T46 l0 x7_2).f0)) = true := decide_eq_true c37
                          clear c37
                          by_cases c38 : ((rd_T46 l0 x7_2).f0) > 9
                          ·
                           rw [if_pos c38] at H
                           have c38b0 : decide (9 < ((rd_T46 l0 x7_2).f0)) = true := decide_eq_true c38
                           clear c38
                           obtain rfl := Option.some.inj H
                           have hcz39_0 : wc.cell? ⟨gb148, 0, none⟩ = some (.int .i64 ((rd_T46 l0 x7_2).f0)) := (blk_cell BK148.out 0).trans rfl
                           have hcz39_1 : wc.cell? ⟨gb148, 1, none⟩ = some (.int .i64 ((rd_T46 l0 x7_2).f1)) := (blk_cell BK148.out 1).trans rfl
                           have hcz39_2 : wc.cell? ⟨gb148, 2, none⟩ = some (.int .i64 ((rd_T46 l0 x7_2).f2)) := (blk_cell BK148.out 2).trans rfl
                           have hcz39_3 : wc.cell? ⟨gb148, 3, none⟩ = some (.int .i64 ((rd_T46 l0 x7_2).f3)) := (blk_cell BK148.out 3).trans rfl
                           have hfz39_0 := blk_frozen BK148.out 0
                           have hfz39_1 := blk_frozen BK148.out 1
                           have hfz39_2 := blk_frozen BK148.out 2
                           have hfz39_3 := blk_frozen BK148.out 3
                           go_wp2
                           go_ret
                           exact ⟨by first | rfl | (simp [errW_none, errW_some] <;> rfl) | (simp [*, errW_none, errW_some] <;> rfl), by repeat (first | (with_reducible first | exact HB.out | apply below_alloc | apply pw_below_drewN | apply below_drew1 | refine below_set ?_ GE148.out) | exact HB.out)⟩
                          ·
                           rw [if_neg c38] at H
                           have c38b0 : decide (9 < ((rd_T46 l0 x7_2).f0)) = false := decide_eq_false c38
                           clear c38
                           have H' := Aside0.mk H
                           clear H
                           have hcz40_0 : wc.cell? ⟨gb148, 0, none⟩ = some (.int .i64 ((rd_T46 l0 x7_2).f0)) := (blk_cell BK148.out 0).trans rfl
                           have hcz40_1 : wc.cell? ⟨gb148, 1, none⟩ = some (.int .i64 ((rd_T46 l0 x7_2).f1)) := (blk_cell BK148.out 1).trans rfl
                           have hcz40_2 : wc.cell? ⟨gb148, 2, none⟩ = some (.int .i64 ((rd_T46 l0 x7_2).f2)) := (blk_cell BK148.out 2).trans rfl
                           have hcz40_3 : wc.cell? ⟨gb148, 3, none⟩ = some (.int .i64 ((rd_T46 l0 x7_2).f3)) := (blk_cell BK148.out 3).trans rfl
                           have hfz40_0 := blk_frozen BK148.out 0
                           have hfz40_1 := blk_frozen BK148.out 1
                           have hfz40_2 := blk_frozen BK148.out 2
                           have hfz40_3 := blk_frozen BK148.out 3
                           go_wp2
                           go_roundg kj8
                           case measure => have := HJ3.out; have := HK2.out; have := HJ8.out; omega
                           case rel => exact ⟨(wrap64 (x7_2 + 1)), (by first | rfl | (simp; done) | (simp [*]; done)), H', ⟨by have := HJ3.out; have := HK2.out; have := HJ8.out; omega⟩, ⟨by repeat (first | (with_reducible first | exact HB.out | apply below_alloc | apply pw_below_drewN | apply below_drew1 | refine below_set ?_ GE148.out) | exact HB.out)⟩⟩
                        ·
                         as_aux_lemma =>
                          rw [if_neg c37] at H
                          have c37b0 : decide (4 < ((rd_T46 l0 x7_2).f0)) = false := decide_eq_false c37
                          clear c37
                          by_cases c41 : ((rd_T46 l0 x7_2).f0) > 9
                          ·
                           rw [if_pos c41] at H
                           have c41b0 : decide (9 < ((rd_T46 l0 x7_2).f0)) = true := decide_eq_true c41
                           clear c41
                           obtain rfl := Option.some.inj H
                           have hcz42_0 : wc.cell? ⟨gb148, 0, none⟩ = some (.int .i64 ((rd_T46 l0 x7_2).f0)) := (blk_cell BK148.out 0).trans rfl
                           have hcz42_1 : wc.cell? ⟨gb148, 1, none⟩ = some (.int .i64 ((rd_T46 l0 x7_2).f1)) := (blk_cell BK148.out 1).trans rfl
                           have hcz42_2 : wc.cell? ⟨gb148, 2, none⟩ = some (.int .i64 ((rd_T46 l0 x7_2).f2)) := (blk_cell BK148.out 2).trans rfl
                           have hcz42_3 : wc.cell? ⟨gb148, 3, none⟩ = some (.int .i64 ((rd_T46 l0 x7_2).f3)) := (blk_cell BK148.out 3).trans rfl
                           have hfz42_0 := blk_frozen BK148.out 0
                           have hfz42_1 := blk_frozen BK148.out 1
                           have hfz42_2 := blk_frozen BK148.out 2
                           have hfz42_3 := blk_frozen BK148.out 3
                           go_wp2
                           go_ret
                           exact ⟨by first | rfl | (simp [errW_none, errW_some] <;> rfl) | (simp [*, errW_none, errW_some] <;> rfl), by repeat (first | (with_reducible first | exact HB.out | apply below_alloc | apply pw_below_drewN | apply below_drew1 | refine below_set ?_ GE148.out) | exact HB.out)⟩
                          ·
                           rw [if_neg c41] at H
                           have c41b0 : decide (9 < ((rd_T46 l0 x7_2).f0)) = false := decide_eq_false c41
                           clear c41
                           have H' := Aside0.mk H
                           clear H
                           have hcz43_0 : wc.cell? ⟨gb148, 0, none⟩ = some (.int .i64 ((rd_T46 l0 x7_2).f0)) := (blk_cell BK148.out 0).trans rfl
                           have hcz43_1 : wc.cell? ⟨gb148, 1, none⟩ = some (.int .i64 ((rd_T46 l0 x7_2).f1)) := (blk_cell BK148.out 1).trans rfl
                           have hcz43_2 : wc.cell? ⟨gb148, 2, none⟩ = some (.int .i64 ((rd_T46 l0 x7_2).f2)) := (blk_cell BK148.out 2).trans rfl
                           have hcz43_3 : wc.cell? ⟨gb148, 3, none⟩ = some (.int .i64 ((rd_T46 l0 x7_2).f3)) := (blk_cell BK148.out 3).trans rfl
                           have hfz43_0 := blk_frozen BK148.out 0
                           have hfz43_1 := blk_frozen BK148.out 1
                           have hfz43_2 := blk_frozen BK148.out 2
                           have hfz43_3 := blk_frozen BK148.out 3
                           go_wp2
                           go_roundg kj8
                           case measure => have := HJ3.out; have := HK2.out; have := HJ8.out; omega
                           case rel => exact ⟨(wrap64 (x7_2 + 1)), (by first | rfl | (simp; done) | (simp [*]; done)), H', ⟨by have := HJ3.out; have := HK2.out; have := HJ8.out; omega⟩, ⟨by repeat (first | (with_reducible first | exact HB.out | apply below_alloc | apply pw_below_drewN | apply below_drew1 | refine below_set ?_ GE148.out) | exact HB.out)⟩⟩
                  ·
                   as_aux_lemma =>
                    rw [if_neg c32] at H
                    have c32b0 : decide (1 < ((rd_T46 l0 x7_2).f0)) = false := decide_eq_false c32
                    clear c32
                    by_cases c44 : ((rd_T46 l0 x7_2).f1) = 0
                    ·
                     rw [if_pos c44] at H
                     have c44b0 : (((rd_T46 l0 x7_2).f1) == 0) = true := beq_iff_eq.mpr c44
                     have c44b1 : (((rd_T46 l0 x7_2).f1) != 0) = false := bne_eq_false_iff_eq.mpr c44
                     clear c44
                     have H' := Aside0.mk H
                     clear H
                     have hcz45_0 : wc.cell? ⟨gb148, 0, none⟩ = some (.int .i64 ((rd_T46 l0 x7_2).f0)) := (blk_cell BK148.out 0).trans rfl
                     have hcz45_1 : wc.cell? ⟨gb148, 1, none⟩ = some (.int .i64 ((rd_T46 l0 x7_2).f1)) := (blk_cell BK148.out 1).trans rfl
                     have hcz45_2 : wc.cell? ⟨gb148, 2, none⟩ = some (.int .i64 ((rd_T46 l0 x7_2).f2)) := (blk_cell BK148.out 2).trans rfl
                     have hcz45_3 : wc.cell? ⟨gb148, 3, none⟩ = some (.int .i64 ((rd_T46 l0 x7_2).f3)) := (blk_cell BK148.out 3).trans rfl
                     have hfz45_0 := blk_frozen BK148.out 0
                     have hfz45_1 := blk_frozen BK148.out 1
                     have hfz45_2 := blk_frozen BK148.out 2
                     have hfz45_3 := blk_frozen BK148.out 3
                     go_wp2
                     go_roundg kj8
                     case measure => have := HJ3.out; have := HK2.out; have := HJ8.out; omega
                     case rel => exact ⟨(wrap64 (x7_2 + 1)), (by first | rfl | (simp; done) | (simp [*]; done)), H', ⟨by have := HJ3.out; have := HK2.out; have := HJ8.out; omega⟩, ⟨by repeat (first | (with_reducible first | exact HB.out | apply below_alloc | apply pw_below_drewN | apply below_drew1 | refine below_set ?_ GE148.out) | exact HB.out)⟩⟩
                    ·
                     as_aux_lemma =>
                      rw [if_neg c44] at H
                      have c44b0 : (((rd_T46 l0 x7_2).f1) == 0) = false := beq_eq_false_iff_ne.mpr c44
                      have c44b1 : (((rd_T46 l0 x7_2).f1) != 0) = true := bne_iff_ne.mpr c44
                      by_cases c46 : ((rd_T46 l0 x7_2).f0) > 4
                      ·
                       as_aux_lemma =>
                        rw [if_pos c46] at H
                        have c46b0 : decide (4 < ((rd_T46 l0 x7_2).f0)) = true := decide_eq_true c46
                        clear c46
                        by_cases c47 : ((rd_T46 l0 x7_2).f0) < 9
                        ·
                         rw [if_pos c47] at H
                         have c47b0 : decide (((rd_T46 l0 x7_2).f0) < 9) = true := decide_eq_true c47
                         clear c47
                         obtain rfl := Option.some.inj H
                         have hcz48_0 : wc.cell? ⟨gb148, 0, none⟩ = some (.int .i64 ((rd_T46 l0 x7_2).f0)) := (blk_cell BK148.out 0).trans rfl
                         have hcz48_1 : wc.cell? ⟨gb148, 1, none⟩ = some (.int .i64 ((rd_T46 l0 x7_2).f1)) := (blk_cell BK148.out 1).trans rfl
                         have hcz48_2 : wc.cell? ⟨gb148, 2, none⟩ = some (.int .i64 ((rd_T46 l0 x7_2).f2)) := (blk_cell BK148.out 2).trans rfl
                         have hcz48_3 : wc.cell? ⟨gb148, 3, none⟩ = some (.int .i64 ((rd_T46 l0 x7_2).f3)) := (blk_cell BK148.out 3).trans rfl
                         have hfz48_0 := blk_frozen BK148.out 0
                         have hfz48_1 := blk_frozen BK148.out 1
                         have hfz48_2 := blk_frozen BK148.out 2
                         have hfz48_3 := blk_frozen BK148.out 3
                         go_wp2
                         go_ret
                         exact ⟨by first | rfl | (simp [errW_none, errW_some] <;> rfl) | (simp [*, errW_none, errW_some] <;> rfl), by repeat (first | (with_reducible first | exact HB.out | apply below_alloc | apply pw_below_drewN | apply below_drew1 | refine below_set ?_ GE148.out) | exact HB.out)⟩
                        ·
                         as_aux_lemma =>
                          rw [if_neg c47] at H
                          have c47b0 : decide (((rd_T46 l0 x7_2).f0) < 9) = false := decide_eq_false c47
                          clear c47
                          by_cases c49 : ((rd_T46 l0 x7_2).f0) > 9
                          ·
                           rw [if_pos c49] at H
                           have c49b0 : decide (9 < ((rd_T46 l0 x7_2).f0)) = true := decide_eq_true c49
                           clear c49
                           obtain rfl := Option.some.inj H
                           have hcz50_0 : wc.cell? ⟨gb148, 0, none⟩ = some (.int .i64 ((rd_T46 l0 x7_2).f0)) := (blk_cell BK148.out 0).trans rfl
                           have hcz50_1 : wc.cell? ⟨gb148, 1, none⟩ = some (.int .i64 ((rd_T46 l0 x7_2).f1)) := (blk_cell BK148.out 1).trans rfl
                           have hcz50_2 : wc.cell? ⟨gb148, 2, none⟩ = some (.int .i64 ((rd_T46 l0 x7_2).f2)) := (blk_cell BK148.out 2).trans rfl
                           have hcz50_3 : wc.cell? ⟨gb148, 3, none⟩ = some (.int .i64 ((rd_T46 l0 x7_2).f3)) := (blk_cell BK148.out 3).trans rfl
                           have hfz50_0 := blk_frozen BK148.out 0
                           have hfz50_1 := blk_frozen BK148.out 1
                           have hfz50_2 := blk_frozen BK148.out 2
                           have hfz50_3 := blk_frozen BK148.out 3
                           go_wp2
                           go_ret
                           exact ⟨by first | rfl | (simp [errW_none, errW_some] <;> rfl) | (simp [*, errW_none, errW_some] <;> rfl), by repeat (first | (with_reducible first | exact HB.out | apply below_alloc | apply pw_below_drewN | apply below_drew1 | refine below_set ?_ GE148.out) | exact HB.out)⟩
                          ·
                           rw [if_neg c49] at H
                           have c49b0 : decide (9 < ((rd_T46 l0 x7_2).f0)) = false := decide_eq_false c49
                           clear c49
                           have H' := Aside0.mk H
                           clear H
                           have hcz51_0 : wc.cell? ⟨gb148, 0, none⟩ = some (.int .i64 ((rd_T46 l0 x7_2).f0)) := (blk_cell BK148.out 0).trans rfl
                           have hcz51_1 : wc.cell? ⟨gb148, 1, none⟩ = some (.int .i64 ((rd_T46 l0 x7_2).f1)) := (blk_cell BK148.out 1).trans rfl
                           have hcz51_2 : wc.cell? ⟨gb148, 2, none⟩ = some (.int .i64 ((rd_T46 l0 x7_2).f2)) := (blk_cell BK148.out 2).trans rfl
                           have hcz51_3 : wc.cell? ⟨gb148, 3, none⟩ = some (.int .i64 ((rd_T46 l0 x7_2).f3)) := (blk_cell BK148.out 3).trans rfl
                           have hfz51_0 := blk_frozen BK148.out 0
                           have hfz51_1 := blk_frozen BK148.out 1
                           have hfz51_2 := blk_frozen BK148.out 2
                           have hfz51_3 := blk_frozen BK148.out 3
                           go_wp2
                           go_roundg kj8
                           case measure => have := HJ3.out; have := HK2.out; have := HJ8.out; omega
                           case rel => exact ⟨(wrap64 (x7_2 + 1)), (by first | rfl | (simp; done) | (simp [*]; done)), H', ⟨by have := HJ3.out; have := HK2.out; have := HJ8.out; omega⟩, ⟨by repeat (first | (with_reducible first | exact HB.out | apply below_alloc | apply pw_below_drewN | apply below_drew1 | refine below_set ?_ GE148.out) | exact HB.out)⟩⟩
                      ·
                       as_aux_lemma =>
                        rw [if_neg c46] at H
                        have c46b0 : decide (4 < ((rd_T46 l0 x7_2).f0)) = false := decide_eq_false c46
                        clear c46
                        by_cases c52 : ((rd_T46 l0 x7_2).f0) > 9
                        ·
                         rw [if_pos c52] at H
                         have c52b0 : decide (9 < ((rd_T46 l0 x7_2).f0)) = true := decide_eq_true c52
                         clear c52
                         obtain rfl := Option.some.inj H
                         have hcz53_0 : wc.cell? ⟨gb148, 0, none⟩ = some (.int .i64 ((rd_T46 l0 x7_2).f0)) := (blk_cell BK148.out 0).trans rfl
                         have hcz53_1 : wc.cell? ⟨gb148, 1, none⟩ = some (.int .i64 ((rd_T46 l0 x7_2).f1)) := (blk_cell BK148.out 1).trans rfl
                         have hcz53_2 : wc.cell? ⟨gb148, 2, none⟩ = some (.int .i64 ((rd_T46 l0 x7_2).f2)) := (blk_cell BK148.out 2).trans rfl
                         have hcz53_3 : wc.cell? ⟨gb148, 3, none⟩ = some (.int .i64 ((rd_T46 l0 x7_2).f3)) := (blk_cell BK148.out 3).trans rfl
                         have hfz53_0 := blk_frozen BK148.out 0
                         have hfz53_1 := blk_frozen BK148.out 1
                         have hfz53_2 := blk_frozen BK148.out 2
                         have hfz53_3 := blk_frozen BK148.out 3
                         go_wp2
                         go_ret
                         exact ⟨by first | rfl | (simp [errW_none, errW_some] <;> rfl) | (simp [*, errW_none, errW_some] <;> rfl), by repeat (first | (with_reducible first | exact HB.out | apply below_alloc | apply pw_below_drewN | apply below_drew1 | refine below_set ?_ GE148.out) | exact HB.out)⟩
                        ·
                         rw [if_neg c52] at H
                         have c52b0 : decide (9 < ((rd_T46 l0 x7_2).f0)) = false := decide_eq_false c52
                         clear c52
                         have H' := Aside0.mk H
                         clear H
                         have hcz54_0 : wc.cell? ⟨gb148, 0, none⟩ = some (.int .i64 ((rd_T46 l0 x7_2).f0)) := (blk_cell BK148.out 0).trans rfl
                         have hcz54_1 : wc.cell? ⟨gb148, 1, none⟩ = some (.int .i64 ((rd_T46 l0 x7_2).f1)) := (blk_cell BK148.out 1).trans rfl
                         have hcz54_2 : wc.cell? ⟨gb148, 2, none⟩ = some (.int .i64 ((rd_T46 l0 x7_2).f2)) := (blk_cell BK148.out 2).trans rfl
                         have hcz54_3 : wc.cell? ⟨gb148, 3, none⟩ = some (.int .i64 ((rd_T46 l0 x7_2).f3)) := (blk_cell BK148.out 3).trans rfl
                         have hfz54_0 := blk_frozen BK148.out 0
                         have hfz54_1 := blk_frozen BK148.out 1
                         have hfz54_2 := blk_frozen BK148.out 2
                         have hfz54_3 := blk_frozen BK148.out 3
                         go_wp2
                         go_roundg kj8
                         case measure => have := HJ3.out; have := HK2.out; have := HJ8.out; omega
                         case rel => exact ⟨(wrap64 (x7_2 + 1)), (by first | rfl | (simp; done) | (simp [*]; done)), H', ⟨by have := HJ3.out; have := HK2.out; have := HJ8.out; omega⟩, ⟨by repeat (first | (with_reducible first | exact HB.out | apply below_alloc | apply pw_below_drewN | apply below_drew1 | refine below_set ?_ GE148.out) | exact HB.out)⟩⟩
                ·
                 as_aux_lemma =>
                  rw [if_neg c31] at H
                  have c31b0 : (((rd_T46 l0 x7_2).f3) == 0) = false := beq_eq_false_iff_ne.mpr c31
                  have c31b1 : (((rd_T46 l0 x7_2).f3) != 0) = true := bne_iff_ne.mpr c31
                  by_cases c55 : ((rd_T46 l0 x7_2).f0) = 1
                  ·
                   rw [if_pos c55] at H
                   have c55b0 : (((rd_T46 l0 x7_2).f0) == 1) = true := beq_iff_eq.mpr c55
                   have c55b1 : (((rd_T46 l0 x7_2).f0) != 1) = false := bne_eq_false_iff_eq.mpr c55
                   clear c55
                   obtain rfl := Option.some.inj H
                   have hcz56_0 : wc.cell? ⟨gb148, 0, none⟩ = some (.int .i64 ((rd_T46 l0 x7_2).f0)) := (blk_cell BK148.out 0).trans rfl
                   have hcz56_1 : wc.cell? ⟨gb148, 1, none⟩ = some (.int .i64 ((rd_T46 l0 x7_2).f1)) := (blk_cell BK148.out 1).trans rfl
                   have hcz56_2 : wc.cell? ⟨gb148, 2, none⟩ = some (.int .i64 ((rd_T46 l0 x7_2).f2)) := (blk_cell BK148.out 2).trans rfl
                   have hcz56_3 : wc.cell? ⟨gb148, 3, none⟩ = some (.int .i64 ((rd_T46 l0 x7_2).f3)) := (blk_cell BK148.out 3).trans rfl
                   have hfz56_0 := blk_frozen BK148.out 0
                   have hfz56_1 := blk_frozen BK148.out 1
                   have hfz56_2 := blk_frozen BK148.out 2
                   have hfz56_3 := blk_frozen BK148.out 3
                   go_wp2
                   go_ret
                   exact ⟨by first | rfl | (simp [errW_none, errW_some] <;> rfl) | (simp [*, errW_none, errW_some] <;> rfl), by repeat (first | (with_reducible first | exact HB.out | apply below_alloc | apply pw_below_drewN | apply below_drew1 | refine below_set ?_ GE148.out) | exact HB.out)⟩
                  ·
                   as_aux_lemma =>
                    rw [if_neg c55] at H
                    have c55b0 : (((rd_T46 l0 x7_2).f0) == 1) = false := beq_eq_false_iff_ne.mpr c55
                    have c55b1 : (((rd_T46 l0 x7_2).f0) != 1) = true := bne_iff_ne.mpr c55
                    by_cases c57 : ((rd_T46 l0 x7_2).f0) = 10
                    ·
                     rw [if_pos c57] at H
                     have c57b0 : (((rd_T46 l0 x7_2).f0) == 10) = true := beq_iff_eq.mpr c57
                     have c57b1 : (((rd_T46 l0 x7_2).f0) != 10) = false := bne_eq_false_iff_eq.mpr c57
                     clear c57
                     obtain rfl := Option.some.inj H
                     have hcz58_0 : wc.cell? ⟨gb148, 0, none⟩ = some (.int .i64 ((rd_T46 l0 x7_2).f0)) := (blk_cell BK148.out 0).trans rfl
                     have hcz58_1 : wc.cell? ⟨gb148, 1, none⟩ = some (.int .i64 ((rd_T46 l0 x7_2).f1)) := (blk_cell BK148.out 1).trans rfl
                     have hcz58_2 : wc.cell? ⟨gb148, 2, none⟩ = some (.int .i64 ((rd_T46 l0 x7_2).f2)) := (blk_cell BK148.out 2).trans rfl
                     have hcz58_3 : wc.cell? ⟨gb148, 3, none⟩ = some (.int .i64 ((rd_T46 l0 x7_2).f3)) := (blk_cell BK148.out 3).trans rfl
                     have hfz58_0 := blk_frozen BK148.out 0
                     have hfz58_1 := blk_frozen BK148.out 1
                     have hfz58_2 := blk_frozen BK148.out 2
                     have hfz58_3 := blk_frozen BK148.out 3
                     go_wp2
                     go_ret
                     exact ⟨by first | rfl | (simp [errW_none, errW_some] <;> rfl) | (simp [*, errW_none, errW_some] <;> rfl), by repeat (first | (with_reducible first | exact HB.out | apply below_alloc | apply pw_below_drewN | apply below_drew1 | refine below_set ?_ GE148.out) | exact HB.out)⟩
                    ·
                     as_aux_lemma =>
                      rw [if_neg c57] at H
                      have c57b0 : (((rd_T46 l0 x7_2).f0) == 10) = false := beq_eq_false_iff_ne.mpr c57
                      have c57b1 : (((rd_T46 l0 x7_2).f0) != 10) = true := bne_iff_ne.mpr c57
                      by_cases c59 : ((rd_T46 l0 x7_2).f1) = 0
                      ·
                       rw [if_pos c59] at H
                       have c59b0 : (((rd_T46 l0 x7_2).f1) == 0) = true := beq_iff_eq.mpr c59
                       have c59b1 : (((rd_T46 l0 x7_2).f1) != 0) = false := bne_eq_false_iff_eq.mpr c59
                       clear c59
                       have H' := Aside0.mk H
                       clear H
                       have hcz60_0 : wc.cell? ⟨gb148, 0, none⟩ = some (.int .i64 ((rd_T46 l0 x7_2).f0)) := (blk_cell BK148.out 0).trans rfl
                       have hcz60_1 : wc.cell? ⟨gb148, 1, none⟩ = some (.int .i64 ((rd_T46 l0 x7_2).f1)) := (blk_cell BK148.out 1).trans rfl
                       have hcz60_2 : wc.cell? ⟨gb148, 2, none⟩ = some (.int .i64 ((rd_T46 l0 x7_2).f2)) := (blk_cell BK148.out 2).trans rfl
                       have hcz60_3 : wc.cell? ⟨gb148, 3, none⟩ = some (.int .i64 ((rd_T46 l0 x7_2).f3)) := (blk_cell BK148.out 3).trans rfl
                       have hfz60_0 := blk_frozen BK148.out 0
                       have hfz60_1 := blk_frozen BK148.out 1
                       have hfz60_2 := blk_frozen BK148.out 2
                       have hfz60_3 := blk_frozen BK148.out 3
                       go_wp2
                       go_roundg kj8
                       case measure => have := HJ3.out; have := HK2.out; have := HJ8.out; omega
                       case rel => exact ⟨(wrap64 (x7_2 + 1)), (by first | rfl | (simp; done) | (simp [*]; done)), H', ⟨by have := HJ3.out; have := HK2.out; have := HJ8.out; omega⟩, ⟨by repeat (first | (with_reducible first | exact HB.out | apply below_alloc | apply pw_below_drewN | apply below_drew1 | refine below_set ?_ GE148.out) | exact HB.out)⟩⟩
                      ·
                       as_aux_lemma =>
                        rw [if_neg c59] at H
                        have c59b0 : (((rd_T46 l0 x7_2).f1) == 0) = false := beq_eq_false_iff_ne.mpr c59
                        have c59b1 : (((rd_T46 l0 x7_2).f1) != 0) = true := bne_iff_ne.mpr c59
                        by_cases c61 : ((rd_T46 l0 x7_2).f0) > 4
                        ·
                         as_aux_lemma =>
                          rw [if_pos c61] at H
                          have c61b0 : decide (4 < ((rd_T46 l0 x7_2).f0)) = true := decide_eq_true c61
                          clear c61
                          by_cases c62 : ((rd_T46 l0 x7_2).f0) < 9
                          ·
                           rw [if_pos c62] at H
                           have c62b0 : decide (((rd_T46 l0 x7_2).f0) < 9) = true := decide_eq_true c62
                           clear c62
                           obtain rfl := Option.some.inj H
                           have hcz63_0 : wc.cell? ⟨gb148, 0, none⟩ = some (.int .i64 ((rd_T46 l0 x7_2).f0)) := (blk_cell BK148.out 0).trans rfl
                           have hcz63_1 : wc.cell? ⟨gb148, 1, none⟩ = some (.int .i64 ((rd_T46 l0 x7_2).f1)) := (blk_cell BK148.out 1).trans rfl
                           have hcz63_2 : wc.cell? ⟨gb148, 2, none⟩ = some (.int .i64 ((rd_T46 l0 x7_2).f2)) := (blk_cell BK148.out 2).trans rfl
                           have hcz63_3 : wc.cell? ⟨gb148, 3, none⟩ = some (.int .i64 ((rd_T46 l0 x7_2).f3)) := (blk_cell BK148.out 3).trans rfl
                           have hfz63_0 := blk_frozen BK148.out 0
                           have hfz63_1 := blk_frozen BK148.out 1
                           have hfz63_2 := blk_frozen BK148.out 2
                           have hfz63_3 := blk_frozen BK148.out 3
                           go_wp2
                           go_ret
                           exact ⟨by first | rfl | (simp [errW_none, errW_some] <;> rfl) | (simp [*, errW_none, errW_some] <;> rfl), by repeat (first | (with_reducible first | exact HB.out | apply below_alloc | apply pw_below_drewN | apply below_drew1 | refine below_set ?_ GE148.out) | exact HB.out)⟩
                          ·
                           as_aux_lemma =>
                            rw [if_neg c62] at H
                            have c62b0 : decide (((rd_T46 l0 x7_2).f0) < 9) = false := decide_eq_false c62
                            clear c62
                            by_cases c64 : ((rd_T46 l0 x7_2).f0) > 9
                            ·
                             rw [if_pos c64] at H
                             have c64b0 : decide (9 < ((rd_T46 l0 x7_2).f0)) = true := decide_eq_true c64
                             clear c64
                             obtain rfl := Option.some.inj H
                             have hcz65_0 : wc.cell? ⟨gb148, 0, none⟩ = some (.int .i64 ((rd_T46 l0 x7_2).f0)) := (blk_cell BK148.out 0).trans rfl
                             have hcz65_1 : wc.cell? ⟨gb148, 1, none⟩ = some (.int .i64 ((rd_T46 l0 x7_2).f1)) := (blk_cell BK148.out 1).trans rfl
                             have hcz65_2 : wc.cell? ⟨gb148, 2, none⟩ = some (.int .i64 ((rd_T46 l0 x7_2).f2)) := (blk_cell BK148.out 2).trans rfl
                             have hcz65_3 : wc.cell? ⟨gb148, 3, none⟩ = some (.int .i64 ((rd_T46 l0 x7_2).f3)) := (blk_cell BK148.out 3).trans rfl
                             have hfz65_0 := blk_frozen BK148.out 0
                             have hfz65_1 := blk_frozen BK148.out 1
                             have hfz65_2 := blk_frozen BK148.out 2
                             have hfz65_3 := blk_frozen BK148.out 3
                             go_wp2
                             go_ret
                             exact ⟨by first | rfl | (simp [errW_none, errW_some] <;> rfl) | (simp [*, errW_none, errW_some] <;> rfl), by repeat (first | (with_reducible first | exact HB.out | apply below_alloc | apply pw_below_drewN | apply below_drew1 | refine below_set ?_ GE148.out) | exact HB.out)⟩
                            ·
                             rw [if_neg c64] at H
                             have c64b0 : decide (9 < ((rd_T46 l0 x7_2).f0)) = false := decide_eq_false c64
                             clear c64
                             have H' := Aside0.mk H
                             clear H
                             have hcz66_0 : wc.cell? ⟨gb148, 0, none⟩ = some (.int .i64 ((rd_T46 l0 x7_2).f0)) := (blk_cell BK148.out 0).trans rfl
                             have hcz66_1 : wc.cell? ⟨gb148, 1, none⟩ = some (.int .i64 ((rd_T46 l0 x7_2).f1)) := (blk_cell BK148.out 1).trans rfl
                             have hcz66_2 : wc.cell? ⟨gb148, 2, none⟩ = some (.int .i64 ((rd_T46 l0 x7_2).f2)) := (blk_cell BK148.out 2).trans rfl
                             have hcz66_3 : wc.cell? ⟨gb148, 3, none⟩ = some (.int .i64 ((rd_T46 l0 x7_2).f3)) := (blk_cell BK148.out 3).trans rfl
                             have hfz66_0 := blk_frozen BK148.out 0
                             have hfz66_1 := blk_frozen BK148.out 1
                             have hfz66_2 := blk_frozen BK148.out 2
                             have hfz66_3 := blk_frozen BK148.out 3
                             go_wp2
                             go_roundg kj8
                             case measure => have := HJ3.out; have := HK2.out; have := HJ8.out; omega
                             case rel => exact ⟨(wrap64 (x7_2 + 1)), (by first | rfl | (simp; done) | (simp [*]; done)), H', ⟨by have := HJ3.out; have := HK2.out; have := HJ8.out; omega⟩, ⟨by repeat (first | (with_reducible first | exact HB.out | apply below_alloc | apply pw_below_drewN | apply below_drew1 | refine below_set ?_ GE148.out) | exact HB.out)⟩⟩
                        ·
                         as_aux_lemma =>
                          rw [if_neg c61] at H
                          have c61b0 : decide (4 < ((rd_T46 l0 x7_2).f0)) = false := decide_eq_false c61
                          clear c61
                          by_cases c67 : ((rd_T46 l0 x7_2).f0) > 9
                          ·
                           rw [if_pos c67] at H
                           have c67b0 : decide (9 < ((rd_T46 l0 x7_2).f0)) = true := decide_eq_true c67
                           clear c67
                           obtain rfl := Option.some.inj H
                           have hcz68_0 : wc.cell? ⟨gb148, 0, none⟩ = some (.int .i64 ((rd_T46 l0 x7_2).f0)) := (blk_cell BK148.out 0).trans rfl
                           have hcz68_1 : wc.cell? ⟨gb148, 1, none⟩ = some (.int .i64 ((rd_T46 l0 x7_2).f1)) := (blk_cell BK148.out 1).trans rfl
                           have hcz68_2 : wc.cell? ⟨gb148, 2, none⟩ = some (.int .i64 ((rd_T46 l0 x7_2).f2)) := (blk_cell BK148.out 2).trans rfl
                           have hcz68_3 : wc.cell? ⟨gb148, 3, none⟩ = some (.int .i64 ((rd_T46 l0 x7_2).f3)) := (blk_cell BK148.out 3).trans rfl
                           have hfz68_0 := blk_frozen BK148.out 0
                           have hfz68_1 := blk_frozen BK148.out 1
                           have hfz68_2 := blk_frozen BK148.out 2
                           have hfz68_3 := blk_frozen BK148.out 3
                           go_wp2
                           go_ret
                           exact ⟨by first | rfl | (simp [errW_none, errW_some] <;> rfl) | (simp [*, errW_none, errW_some] <;> rfl), by repeat (first | (with_reducible first | exact HB.out | apply below_alloc | apply pw_below_drewN | apply below_drew1 | refine below_set ?_ GE148.out) | exact HB.out)⟩
                          ·
                           rw [if_neg c67] at H
                           have c67b0 : decide (9 < ((rd_T46 l0 x7_2).f0)) = false := decide_eq_false c67
                           clear c67
                           have H' := Aside0.mk H
                           clear H
                           have hcz69_0 : wc.cell? ⟨gb148, 0, none⟩ = some (.int .i64 ((rd_T46 l0 x7_2).f0)) := (blk_cell BK148.out 0).trans rfl
                           have hcz69_1 : wc.cell? ⟨gb148, 1, none⟩ = some (.int .i64 ((rd_T46 l0 x7_2).f1)) := (blk_cell BK148.out 1).trans rfl
                           have hcz69_2 : wc.cell? ⟨gb148, 2, none⟩ = some (.int .i64 ((rd_T46 l0 x7_2).f2)) := (blk_cell BK148.out 2).trans rfl
                           have hcz69_3 : wc.cell? ⟨gb148, 3, none⟩ = some (.int .i64 ((rd_T46 l0 x7_2).f3)) := (blk_cell BK148.out 3).trans rfl
                           have hfz69_0 := blk_frozen BK148.out 0
                           have hfz69_1 := blk_frozen BK148.out 1
                           have hfz69_2 := blk_frozen BK148.out 2
                           have hfz69_3 := blk_frozen BK148.out 3
                           go_wp2
                           go_roundg kj8
                           case measure => have := HJ3.out; have := HK2.out; have := HJ8.out; omega
                           case rel => exact ⟨(wrap64 (x7_2 + 1)), (by first | rfl | (simp; done) | (simp [*]; done)), H', ⟨by have := HJ3.out; have := HK2.out; have := HJ8.out; omega⟩, ⟨by repeat (first | (with_reducible first | exact HB.out | apply below_alloc | apply pw_below_drewN | apply below_drew1 | refine below_set ?_ GE148.out) | exact HB.out)⟩⟩
              ·
               as_aux_lemma =>
                rw [if_neg c30] at H
                have c30b0 : (((rd_T46 l0 x7_2).f2) == 0) = false := beq_eq_false_iff_ne.mpr c30
                have c30b1 : (((rd_T46 l0 x7_2).f2) != 0) = true := bne_iff_ne.mpr c30
                by_cases c70 : ((rd_T46 l0 x7_2).f0) > 2
                ·
                 rw [if_pos c70] at H
                 have c70b0 : decide (2 < ((rd_T46 l0 x7_2).f0)) = true := decide_eq_true c70
                 clear c70
                 obtain rfl := Option.some.inj H
                 have hcz71_0 : wc.cell? ⟨gb148, 0, none⟩ = some (.int .i64 ((rd_T46 l0 x7_2).f0)) := (blk_cell BK148.out 0).trans rfl
                 have hcz71_1 : wc.cell? ⟨gb148, 1, none⟩ = some (.int .i64 ((rd_T46 l0 x7_2).f1)) := (blk_cell BK148.out 1).trans rfl
                 have hcz71_2 : wc.cell? ⟨gb148, 2, none⟩ = some (.int .i64 ((rd_T46 l0 x7_2).f2)) := (blk_cell BK148.out 2).trans rfl
                 have hcz71_3 : wc.cell? ⟨gb148, 3, none⟩ = some (.int .i64 ((rd_T46 l0 x7_2).f3)) := (blk_cell BK148.out 3).trans rfl
                 have hfz71_0 := blk_frozen BK148.out 0
                 have hfz71_1 := blk_frozen BK148.out 1
                 have hfz71_2 := blk_frozen BK148.out 2
                 have hfz71_3 := blk_frozen BK148.out 3
                 go_wp2
                 go_ret
                 exact ⟨by first | rfl | (simp [errW_none, errW_some] <;> rfl) | (simp [*, errW_none, errW_some] <;> rfl), by repeat (first | (with_reducible first | exact HB.out | apply below_alloc | apply pw_below_drewN | apply below_drew1 | refine below_set ?_ GE148.out) | exact HB.out)⟩
                ·
                 as_aux_lemma =>
                  rw [if_neg c70] at H
                  have c70b0 : decide (2 < ((rd_T46 l0 x7_2).f0)) = false := decide_eq_false c70
                  clear c70
                  by_cases c72 : ((rd_T46 l0 x7_2).f3) = 0
                  ·
                   as_aux_lemma =>
                    rw [if_pos c72] at H
                    have c72b0 : (((rd_T46 l0 x7_2).f3) == 0) = true := beq_iff_eq.mpr c72
                    have c72b1 : (((rd_T46 l0 x7_2).f3) != 0) = false := bne_eq_false_iff_eq.mpr c72
                    clear c72
                    by_cases c73 : ((rd_T46 l0 x7_2).f0) > 1
                    ·
                     as_aux_lemma =>
                      rw [if_pos c73] at H
                      have c73b0 : decide (1 < ((rd_T46 l0 x7_2).f0)) = true := decide_eq_true c73
                      clear c73
                      by_cases c74 : ((rd_T46 l0 x7_2).f0) < 9
                      ·
                       rw [if_pos c74] at H
                       have c74b0 : decide (((rd_T46 l0 x7_2).f0) < 9) = true := decide_eq_true c74
                       clear c74
                       obtain rfl := Option.some.inj H
                       have hcz75_0 : wc.cell? ⟨gb148, 0, none⟩ = some (.int .i64 ((rd_T46 l0 x7_2).f0)) := (blk_cell BK148.out 0).trans rfl
                       have hcz75_1 : wc.cell? ⟨gb148, 1, none⟩ = some (.int .i64 ((rd_T46 l0 x7_2).f1)) := (blk_cell BK148.out 1).trans rfl
                       have hcz75_2 : wc.cell? ⟨gb148, 2, none⟩ = some (.int .i64 ((rd_T46 l0 x7_2).f2)) := (blk_cell BK148.out 2).trans rfl
                       have hcz75_3 : wc.cell? ⟨gb148, 3, none⟩ = some (.int .i64 ((rd_T46 l0 x7_2).f3)) := (blk_cell BK148.out 3).trans rfl
                       have hfz75_0 := blk_frozen BK148.out 0
                       have hfz75_1 := blk_frozen BK148.out 1
                       have hfz75_2 := blk_frozen BK148.out 2
                       have hfz75_3 := blk_frozen BK148.out 3
                       go_wp2
                       go_ret
                       exact ⟨by first | rfl | (simp [errW_none, errW_some] <;> rfl) | (simp [*, errW_none, errW_some] <;> rfl), by repeat (first | (with_reducible first | exact HB.out | apply below_alloc | apply pw_below_drewN | apply below_drew1 | refine below_set ?_ GE148.out) | exact HB.out)⟩
                      ·
                       as_aux_lemma =>
                        rw [if_neg c74] at H
                        have c74b0 : decide (((rd_T46 l0 x7_2).f0) < 9) = false := decide_eq_false c74
                        clear c74
                        by_cases c76 : ((rd_T46 l0 x7_2).f1) = 0
                        ·
                         rw [if_pos c76] at H
                         have c76b0 : (((rd_T46 l0 x7_2).f1) == 0) = true := beq_iff_eq.mpr c76
                         have c76b1 : (((rd_T46 l0 x7_2).f1) != 0) = false := bne_eq_false_iff_eq.mpr c76
                         clear c76
                         have H' := Aside0.mk H
                         clear H
                         have hcz77_0 : wc.cell? ⟨gb148, 0, none⟩ = some (.int .i64 ((rd_T46 l0 x7_2).f0)) := (blk_cell BK148.out 0).trans rfl
                         have hcz77_1 : wc.cell? ⟨gb148, 1, none⟩ = some (.int .i64 ((rd_T46 l0 x7_2).f1)) := (blk_cell BK148.out 1).trans rfl
                         have hcz77_2 : wc.cell? ⟨gb148, 2, none⟩ = some (.int .i64 ((rd_T46 l0 x7_2).f2)) := (blk_cell BK148.out 2).trans rfl
                         have hcz77_3 : wc.cell? ⟨gb148, 3, none⟩ = some (.int .i64 ((rd_T46 l0 x7_2).f3)) := (blk_cell BK148.out 3).trans rfl
                         have hfz77_0 := blk_frozen BK148.out 0
                         have hfz77_1 := blk_frozen BK148.out 1
                         have hfz77_2 := blk_frozen BK148.out 2
                         have hfz77_3 := blk_frozen BK148.out 3
                         go_wp2
                         go_roundg kj8
                         case measure => have := HJ3.out; have := HK2.out; have := HJ8.out; omega
                         case rel => exact ⟨(wrap64 (x7_2 + 1)), (by first | rfl | (simp; done) | (simp [*]; done)), H', ⟨by have := HJ3.out; have := HK2.out; have := HJ8.out; omega⟩, ⟨by repeat (first | (with_reducible first | exact HB.out | apply below_alloc | apply pw_below_drewN | apply below_drew1 | refine below_set ?_ GE148.out) | exact HB.out)⟩⟩
                        ·
                         as_aux_lemma =>
                          rw [if_neg c76] at H
                          have c76b0 : (((rd_T46 l0 x7_2).f1) == 0) = false := beq_eq_false_iff_ne.mpr c76
                          have c76b1 : (((rd_T46 l0 x7_2).f1) != 0) = true := bne_iff_ne.mpr c76
                          by_cases c78 : ((rd_T46 l0 x7_2).f0) > 4
                          ·
                           as_aux_lemma =>
                            rw [if_pos c78] at H
                            have c78b0 : decide (4 < ((rd_T46 l0 x7_2).f0)) = true := decide_eq_true c78
                            clear c78
                            by_cases c79 : ((rd_T46 l0 x7_2).f0) > 9
                            ·
                             rw [if_pos c79] at H
                             have c79b0 : decide (9 < ((rd_T46 l0 x7_2).f0)) = true := decide_eq_true c79
                             clear c79
                             obtain rfl := Option.some.inj H
                             have hcz80_0 : wc.cell? ⟨gb148, 0, none⟩ = some (.int .i64 ((rd_T46 l0 x7_2).f0)) := (blk_cell BK148.out 0).trans rfl
                             have hcz80_1 : wc.cell? ⟨gb148, 1, none⟩ = some (.int .i64 ((rd_T46 l0 x7_2).f1)) := (blk_cell BK148.out 1).trans rfl
                             have hcz80_2 : wc.cell? ⟨gb148, 2, none⟩ = some (.int .i64 ((rd_T46 l0 x7_2).f2)) := (blk_cell BK148.out 2).trans rfl
                             have hcz80_3 : wc.cell? ⟨gb148, 3, none⟩ = some (.int .i64 ((rd_T46 l0 x7_2).f3)) := (blk_cell BK148.out 3).trans rfl
                             have hfz80_0 := blk_frozen BK148.out 0
                             have hfz80_1 := blk_frozen BK148.out 1
                             have hfz80_2 := blk_frozen BK148.out 2
                             have hfz80_3 := blk_frozen BK148.out 3
                             go_wp2
                             go_ret
                             exact ⟨by first | rfl | (simp [errW_none, errW_some] <;> rfl) | (simp [*, errW_none, errW_some] <;> rfl), by repeat (first | (with_reducible first | exact HB.out | apply below_alloc | apply pw_below_drewN | apply below_drew1 | refine below_set ?_ GE148.out) | exact HB.out)⟩
                            ·
                             rw [if_neg c79] at H
                             have c79b0 : decide (9 < ((rd_T46 l0 x7_2).f0)) = false := decide_eq_false c79
                             clear c79
                             have H' := Aside0.mk H
                             clear H
                             have hcz81_0 : wc.cell? ⟨gb148, 0, none⟩ = some (.int .i64 ((rd_T46 l0 x7_2).f0)) := (blk_cell BK148.out 0).trans rfl
                             have hcz81_1 : wc.cell? ⟨gb148, 1, none⟩ = some (.int .i64 ((rd_T46 l0 x7_2).f1)) := (blk_cell BK148.out 1).trans rfl
                             have hcz81_2 : wc.cell? ⟨gb148, 2, none⟩ = some (.int .i64 ((rd_T46 l0 x7_2).f2)) := (blk_cell BK148.out 2).trans rfl
                             have hcz81_3 : wc.cell? ⟨gb148, 3, none⟩ = some (.int .i64 ((rd_T46 l0 x7_2).f3)) := (blk_cell BK148.out 3).trans rfl
                             have hfz81_0 := blk_frozen BK148.out 0
                             have hfz81_1 := blk_frozen BK148.out 1
                             have hfz81_2 := blk_frozen BK148.out 2
                             have hfz81_3 := blk_frozen BK148.out 3
                             go_wp2
                             go_roundg kj8
                             case measure => have := HJ3.out; have := HK2.out; have := HJ8.out; omega
                             case rel => exact ⟨(wrap64 (x7_2 + 1)), (by first | rfl | (simp; done) | (simp [*]; done)), H', ⟨by have := HJ3.out; have := HK2.out; have := HJ8.out; omega⟩, ⟨by repeat (first | (with_reducible first | exact HB.out | apply below_alloc | apply pw_below_drewN | apply below_drew1 | refine below_set ?_ GE148.out) | exact HB.out)⟩⟩
                          ·
                           as_aux_lemma =>
                            rw [if_neg c78] at H
                            have c78b0 : decide (4 < ((rd_T46 l0 x7_2).f0)) = false := decide_eq_false c78
                            clear c78
                            by_cases c82 : ((rd_T46 l0 x7_2).f0) > 9
                            ·
                             rw [if_pos c82] at H
                             have c82b0 : decide (9 < ((rd_T46 l0 x7_2).f0)) = true := decide_eq_true c82
                             clear c82
                             obtain rfl := Option.some.inj H
                             have hcz83_0 : wc.cell? ⟨gb148, 0, none⟩ = some (.int .i64 ((rd_T46 l0 x7_2).f0)) := (blk_cell BK148.out 0).trans rfl
                             have hcz83_1 : wc.cell? ⟨gb148, 1, none⟩ = some (.int .i64 ((rd_T46 l0 x7_2).f1)) := (blk_cell BK148.out 1).trans rfl
                             have hcz83_2 : wc.cell? ⟨gb148, 2, none⟩ = some (.int .i64 ((rd_T46 l0 x7_2).f2)) := (blk_cell BK148.out 2).trans rfl
                             have hcz83_3 : wc.cell? ⟨gb148, 3, none⟩ = some (.int .i64 ((rd_T46 l0 x7_2).f3)) := (blk_cell BK148.out 3).trans rfl
                             have hfz83_0 := blk_frozen BK148.out 0
                             have hfz83_1 := blk_frozen BK148.out 1
                             have hfz83_2 := blk_frozen BK148.out 2
                             have hfz83_3 := blk_frozen BK148.out 3
                             go_wp2
                             go_ret
                             exact ⟨by first | rfl | (simp [errW_none, errW_some] <;> rfl) | (simp [*, errW_none, errW_some] <;> rfl), by repeat (first | (with_reducible first | exact HB.out | apply below_alloc | apply pw_below_drewN | apply below_drew1 | refine below_set ?_ GE148.out) | exact HB.out)⟩
                            ·
                             rw [if_neg c82] at H
                             have c82b0 : decide (9 < ((rd_T46 l0 x7_2).f0)) = false := decide_eq_false c82
                             clear c82
                             have H' := Aside0.mk H
                             clear H
                             have hcz84_0 : wc.cell? ⟨gb148, 0, none⟩ = some (.int .i64 ((rd_T46 l0 x7_2).f0)) := (blk_cell BK148.out 0).trans rfl
                             have hcz84_1 : wc.cell? ⟨gb148, 1, none⟩ = some (.int .i64 ((rd_T46 l0 x7_2).f1)) := (blk_cell BK148.out 1).trans rfl
                             have hcz84_2 : wc.cell? ⟨gb148, 2, none⟩ = some (.int .i64 ((rd_T46 l0 x7_2).f2)) := (blk_cell BK148.out 2).trans rfl
                             have hcz84_3 : wc.cell? ⟨gb148, 3, none⟩ = some (.int .i64 ((rd_T46 l0 x7_2).f3)) := (blk_cell BK148.out 3).trans rfl
                             have hfz84_0 := blk_frozen BK148.out 0
                             have hfz84_1 := blk_frozen BK148.out 1
                             have hfz84_2 := blk_frozen BK148.out 2
                             have hfz84_3 := blk_frozen BK148.out 3
                             go_wp2
                             go_roundg kj8
                             case measure => have := HJ3.out; have := HK2.out; have := HJ8.out; omega
                             case rel => exact ⟨(wrap64 (x7_2 + 1)), (by first | rfl | (simp; done) | (simp [*]; done)), H', ⟨by have := HJ3.out; have := HK2.out; have := HJ8.out; omega⟩, ⟨by repeat (first | (with_reducible first | exact HB.out | apply below_alloc | apply pw_below_drewN | apply below_drew1 | refine below_set ?_ GE148.out) | exact HB.out)⟩⟩
                    ·
                     as_aux_lemma =>
                      rw [if_neg c73] at H
                      have c73b0 : decide (1 < ((rd_T46 l0 x7_2).f0)) = false := decide_eq_false c73
                      clear c73
                      by_cases c85 : ((rd_T46 l0 x7_2).f1) = 0
                      ·
                       rw [if_pos c85] at H
                       have c85b0 : (((rd_T46 l0 x7_2).f1) == 0) = true := beq_iff_eq.mpr c85
                       have c85b1 : (((rd_T46 l0 x7_2).f1) != 0) = false := bne_eq_false_iff_eq.mpr c85
                       clear c85
                       have H' := Aside0.mk H
                       clear H
                       have hcz86_0 : wc.cell? ⟨gb148, 0, none⟩ = some (.int .i64 ((rd_T46 l0 x7_2).f0)) := (blk_cell BK148.out 0).trans rfl
                       have hcz86_1 : wc.cell? ⟨gb148, 1, none⟩ = some (.int .i64 ((rd_T46 l0 x7_2).f1)) := (blk_cell BK148.out 1).trans rfl
                       have hcz86_2 : wc.cell? ⟨gb148, 2, none⟩ = some (.int .i64 ((rd_T46 l0 x7_2).f2)) := (blk_cell BK148.out 2).trans rfl
                       have hcz86_3 : wc.cell? ⟨gb148, 3, none⟩ = some (.int .i64 ((rd_T46 l0 x7_2).f3)) := (blk_cell BK148.out 3).trans rfl
                       have hfz86_0 := blk_frozen BK148.out 0
                       have hfz86_1 := blk_frozen BK148.out 1
                       have hfz86_2 := blk_frozen BK148.out 2
                       have hfz86_3 := blk_frozen BK148.out 3
                       go_wp2
                       go_roundg kj8
                       case measure => have := HJ3.out; have := HK2.out; have := HJ8.out; omega
                       case rel => exact ⟨(wrap64 (x7_2 + 1)), (by first | rfl | (simp; done) | (simp [*]; done)), H', ⟨by have := HJ3.out; have := HK2.out; have := HJ8.out; omega⟩, ⟨by repeat (first | (with_reducible first | exact HB.out | apply below_alloc | apply pw_below_drewN | apply below_drew1 | refine below_set ?_ GE148.out) | exact HB.out)⟩⟩
                      ·
                       as_aux_lemma =>
                        rw [if_neg c85] at H
                        have c85b0 : (((rd_T46 l0 x7_2).f1) == 0) = false := beq_eq_false_iff_ne.mpr c85
                        have c85b1 : (((rd_T46 l0 x7_2).f1) != 0) = true := bne_iff_ne.mpr c85
                        by_cases c87 : ((rd_T46 l0 x7_2).f0) > 4
                        ·
                         as_aux_lemma =>
                          rw [if_pos c87] at H
                          have c87b0 : decide (4 < ((rd_T46 l0 x7_2).f0)) = true := decide_eq_true c87
                          clear c87
                          by_cases c88 : ((rd_T46 l0 x7_2).f0) < 9
                          ·
                           rw [if_pos c88] at H
                           have c88b0 : decide (((rd_T46 l0 x7_2).f0) < 9) = true := decide_eq_true c88
                           clear c88
                           obtain rfl := Option.some.inj H
                           have hcz89_0 : wc.cell? ⟨gb148, 0, none⟩ = some (.int .i64 ((rd_T46 l0 x7_2).f0)) := (blk_cell BK148.out 0).trans rfl
                           have hcz89_1 : wc.cell? ⟨gb148, 1, none⟩ = some (.int .i64 ((rd_T46 l0 x7_2).f1)) := (blk_cell BK148.out 1).trans rfl
                           have hcz89_2 : wc.cell? ⟨gb148, 2, none⟩ = some (.int .i64 ((rd_T46 l0 x7_2).f2)) := (blk_cell BK148.out 2).trans rfl
                           have hcz89_3 : wc.cell? ⟨gb148, 3, none⟩ = some (.int .i64 ((rd_T46 l0 x7_2).f3)) := (blk_cell BK148.out 3).trans rfl
                           have hfz89_0 := blk_frozen BK148.out 0
                           have hfz89_1 := blk_frozen BK148.out 1
                           have hfz89_2 := blk_frozen BK148.out 2
                           have hfz89_3 := blk_frozen BK148.out 3
                           go_wp2
                           go_ret
                           exact ⟨by first | rfl | (simp [errW_none, errW_some] <;> rfl) | (simp [*, errW_none, errW_some] <;> rfl), by repeat (first | (with_reducible first | exact HB.out | apply below_alloc | apply pw_below_drewN | apply below_drew1 | refine below_set ?_ GE148.out) | exact HB.out)⟩
                          ·
                           as_aux_lemma =>
                            rw [if_neg c88] at H
                            have c88b0 : decide (((rd_T46 l0 x7_2).f0) < 9) = false := decide_eq_false c88
                            clear c88
                            by_cases c90 : ((rd_T46 l0 x7_2).f0) > 9
                            ·
                             rw [if_pos c90] at H
                             have c90b0 : decide (9 < ((rd_T46 l0 x7_2).f0)) = true := decide_eq_true c90
                             clear c90
                             obtain rfl := Option.some.inj H
                             have hcz91_0 : wc.cell? ⟨gb148, 0, none⟩ = some (.int .i64 ((rd_T46 l0 x7_2).f0)) := (blk_cell BK148.out 0).trans rfl
                             have hcz91_1 : wc.cell? ⟨gb148, 1, none⟩ = some (.int .i64 ((rd_T46 l0 x7_2).f1)) := (blk_cell BK148.out 1).trans rfl
                             have hcz91_2 : wc.cell? ⟨gb148, 2, none⟩ = some (.int .i64 ((rd_T46 l0 x7_2).f2)) := (blk_cell BK148.out 2).trans rfl
                             have hcz91_3 : wc.cell? ⟨gb148, 3, none⟩ = some (.int .i64 ((rd_T46 l0 x7_2).f3)) := (blk_cell BK148.out 3).trans rfl
                             have hfz91_0 := blk_frozen BK148.out 0
                             have hfz91_1 := blk_frozen BK148.out 1
                             have hfz91_2 := blk_frozen BK148.out 2
                             have hfz91_3 := blk_frozen BK148.out 3
                             go_wp2
                             go_ret
                             exact ⟨by first | rfl | (simp [errW_none, errW_some] <;> rfl) | (simp [*, errW_none, errW_some] <;> rfl), by repeat (first | (with_reducible first | exact HB.out | apply below_alloc | apply pw_below_drewN | apply below_drew1 | refine below_set ?_ GE148.out) | exact HB.out)⟩
                            ·
                             rw [if_neg c90] at H
                             have c90b0 : decide (9 < ((rd_T46 l0 x7_2).f0)) = false := decide_eq_false c90
                             clear c90
                             have H' := Aside0.mk H
                             clear H
                             have hcz92_0 : wc.cell? ⟨gb148, 0, none⟩ = some (.int .i64 ((rd_T46 l0 x7_2).f0)) := (blk_cell BK148.out 0).trans rfl
                             have hcz92_1 : wc.cell? ⟨gb148, 1, none⟩ = some (.int .i64 ((rd_T46 l0 x7_2).f1)) := (blk_cell BK148.out 1).trans rfl
                             have hcz92_2 : wc.cell? ⟨gb148, 2, none⟩ = some (.int .i64 ((rd_T46 l0 x7_2).f2)) := (blk_cell BK148.out 2).trans rfl
                             have hcz92_3 : wc.cell? ⟨gb148, 3, none⟩ = some (.int .i64 ((rd_T46 l0 x7_2).f3)) := (blk_cell BK148.out 3).trans rfl
                             have hfz92_0 := blk_frozen BK148.out 0
                             have hfz92_1 := blk_frozen BK148.out 1
                             have hfz92_2 := blk_frozen BK148.out 2
                             have hfz92_3 := blk_frozen BK148.out 3
                             go_wp2
                             go_roundg kj8
                             case measure => have := HJ3.out; have := HK2.out; have := HJ8.out; omega
                             case rel => exact ⟨(wrap64 (x7_2 + 1)), (by first | rfl | (simp; done) | (simp [*]; done)), H', ⟨by have := HJ3.out; have := HK2.out; have := HJ8.out; omega⟩, ⟨by repeat (first | (with_reducible first | exact HB.out | apply below_alloc | apply pw_below_drewN | apply below_drew1 | refine below_set ?_ GE148.out) | exact HB.out)⟩⟩
                        ·
                         as_aux_lemma =>
                          rw [if_neg c87] at H
                          have c87b0 : decide (4 < ((rd_T46 l0 x7_2).f0)) = false := decide_eq_false c87
                          clear c87
                          by_cases c93 : ((rd_T46 l0 x7_2).f0) > 9
                          ·
                           rw [if_pos c93] at H
                           have c93b0 : decide (9 < ((rd_T46 l0 x7_2).f0)) = true := decide_eq_true c93
                           clear c93
                           obtain rfl := Option.some.inj H
                           have hcz94_0 : wc.cell? ⟨gb148, 0, none⟩ = some (.int .i64 ((rd_T46 l0 x7_2).f0)) := (blk_cell BK148.out 0).trans rfl
                           have hcz94_1 : wc.cell? ⟨gb148, 1, none⟩ = some (.int .i64 ((rd_T46 l0 x7_2).f1)) := (blk_cell BK148.out 1).trans rfl
                           have hcz94_2 : wc.cell? ⟨gb148, 2, none⟩ = some (.int .i64 ((rd_T46 l0 x7_2).f2)) := (blk_cell BK148.out 2).trans rfl
                           have hcz94_3 : wc.cell? ⟨gb148, 3, none⟩ = some (.int .i64 ((rd_T46 l0 x7_2).f3)) := (blk_cell BK148.out 3).trans rfl
                           have hfz94_0 := blk_frozen BK148.out 0
                           have hfz94_1 := blk_frozen BK148.out 1
                           have hfz94_2 := blk_frozen BK148.out 2
                           have hfz94_3 := blk_frozen BK148.out 3
                           go_wp2
                           go_ret
                           exact ⟨by first | rfl | (simp [errW_none, errW_some] <;> rfl) | (simp [*, errW_none, errW_some] <;> rfl), by repeat (first | (with_reducible first | exact HB.out | apply below_alloc | apply pw_below_drewN | apply below_drew1 | refine below_set ?_ GE148.out) | exact HB.out)⟩
                          ·
                           rw [if_neg c93] at H
                           have c93b0 : decide (9 < ((rd_T46 l0 x7_2).f0)) = false := decide_eq_false c93
                           clear c93
                           have H' := Aside0.mk H
                           clear H
                           have hcz95_0 : wc.cell? ⟨gb148, 0, none⟩ = some (.int .i64 ((rd_T46 l0 x7_2).f0)) := (blk_cell BK148.out 0).trans rfl
                           have hcz95_1 : wc.cell? ⟨gb148, 1, none⟩ = some (.int .i64 ((rd_T46 l0 x7_2).f1)) := (blk_cell BK148.out 1).trans rfl
                           have hcz95_2 : wc.cell? ⟨gb148, 2, none⟩ = some (.int .i64 ((rd_T46 l0 x7_2).f2)) := (blk_cell BK148.out 2).trans rfl
                           have hcz95_3 : wc.cell? ⟨gb148, 3, none⟩ = some (.int .i64 ((rd_T46 l0 x7_2).f3)) := (blk_cell BK148.out 3).trans rfl
                           have hfz95_0 := blk_frozen BK148.out 0
                           have hfz95_1 := blk_frozen BK148.out 1
                           have hfz95_2 := blk_frozen BK148.out 2
                           have hfz95_3 := blk_frozen BK148.out 3
                           go_wp2
                           go_roundg kj8
                           case measure => have := HJ3.out; have := HK2.out; have := HJ8.out; omega
                           case rel => exact ⟨(wrap64 (x7_2 + 1)), (by first | rfl | (simp; done) | (simp [*]; done)), H', ⟨by have := HJ3.out; have := HK2.out; have := HJ8.out; omega⟩, ⟨by repeat (first | (with_reducible first | exact HB.out | apply below_alloc | apply pw_below_drewN | apply below_drew1 | refine below_set ?_ GE148.out) | exact HB.out)⟩⟩
                  ·
                   as_aux_lemma =>
                    rw [if_neg c72] at H
                    have c72b0 : (((rd_T46 l0 x7_2).f3) == 0) = false := beq_eq_false_iff_ne.mpr c72
                    have c72b1 : (((rd_T46 l0 x7_2).f3) != 0) = true := bne_iff_ne.mpr c72
                    by_cases c96 : ((rd_T46 l0 x7_2).f0) = 1
                    ·
                     rw [if_pos c96] at H
                     have c96b0 : (((rd_T46 l0 x7_2).f0) == 1) = true := beq_iff_eq.mpr c96
                     have c96b1 : (((rd_T46 l0 x7_2).f0) != 1) = false := bne_eq_false_iff_eq.mpr c96
                     clear c96
                     obtain rfl := Option.some.inj H
                     have hcz97_0 : wc.cell? ⟨gb148, 0, none⟩ = some (.int .i64 ((rd_T46 l0 x7_2).f0)) := (blk_cell BK148.out 0).trans rfl
                     have hcz97_1 : wc.cell? ⟨gb148, 1, none⟩ = some (.int .i64 ((rd_T46 l0 x7_2).f1)) := (blk_cell BK148.out 1).trans rfl
                     have hcz97_2 : wc.cell? ⟨gb148, 2, none⟩ = some (.int .i64 ((rd_T46 l0 x7_2).f2)) := (blk_cell BK148.out 2).trans rfl
                     have hcz97_3 : wc.cell? ⟨gb148, 3, none⟩ = some (.int .i64 ((rd_T46 l0 x7_2).f3)) := (blk_cell BK148.out 3).trans rfl
                     have hfz97_0 := blk_frozen BK148.out 0
                     have hfz97_1 := blk_frozen BK148.out 1
                     have hfz97_2 := blk_frozen BK148.out 2
                     have hfz97_3 := blk_frozen BK148.out 3
                     go_wp2
                     go_ret
                     exact ⟨by first | rfl | (simp [errW_none, errW_some] <;> rfl) | (simp [*, errW_none, errW_some] <;> rfl), by repeat (first | (with_reducible first | exact HB.out | apply below_alloc | apply pw_below_drewN | apply below_drew1 | refine below_set ?_ GE148.out) | exact HB.out)⟩
                    ·
                     as_aux_lemma =>
                      rw [if_neg c96] at H
                      have c96b0 : (((rd_T46 l0 x7_2).f0) == 1) = false := beq_eq_false_iff_ne.mpr c96
                      have c96b1 : (((rd_T46 l0 x7_2).f0) != 1) = true := bne_iff_ne.mpr c96
                      by_cases c98 : ((rd_T46 l0 x7_2).f0) = 10
                      ·
                       rw [if_pos c98] at H
                       have c98b0 : (((rd_T46 l0 x7_2).f0) == 10) = true := beq_iff_eq.mpr c98
                       have c98b1 : (((rd_T46 l0 x7_2).f0) != 10) = false := bne_eq_false_iff_eq.mpr c98
                       clear c98
                       obtain rfl := Option.some.inj H
                       have hcz99_0 : wc.cell? ⟨gb148, 0, none⟩ = some (.int .i64 ((rd_T46 l0 x7_2).f0)) := (blk_cell BK148.out 0).trans rfl
                       have hcz99_1 : wc.cell? ⟨gb148, 1, none⟩ = some (.int .i64 ((rd_T46 l0 x7_2).f1)) := (blk_cell BK148.out 1).trans rfl
                       have hcz99_2 : wc.cell? ⟨gb148, 2, none⟩ = some (.int .i64 ((rd_T46 l0 x7_2).f2)) := (blk_cell BK148.out 2).trans rfl
                       have hcz99_3 : wc.cell? ⟨gb148, 3, none⟩ = some (.int .i64 ((rd_T46 l0 x7_2).f3)) := (blk_cell BK148.out 3).trans rfl
                       have hfz99_0 := blk_frozen BK148.out 0
                       have hfz99_1 := blk_frozen BK148.out 1
                       have hfz99_2 := blk_frozen BK148.out 2
                       have hfz99_3 := blk_frozen BK148.out 3
                       go_wp2
                       go_ret
                       exact ⟨by first | rfl | (simp [errW_none, errW_some] <;> rfl) | (simp [*, errW_none, errW_some] <;> rfl), by repeat (first | (with_reducible first | exact HB.out | apply below_alloc | apply pw_below_drewN | apply below_drew1 | refine below_set ?_ GE148.out) | exact HB.out)⟩
                      ·
                       as_aux_lemma =>
                        rw [if_neg c98] at H
                        have c98b0 : (((rd_T46 l0 x7_2).f0) == 10) = false := beq_eq_false_iff_ne.mpr c98
                        have c98b1 : (((rd_T46 l0 x7_2).f0) != 10) = true := bne_iff_ne.mpr c98
                        by_cases c100 : ((rd_T46 l0 x7_2).f1) = 0
                        ·
                         rw [if_pos c100] at H
                         have c100b0 : (((rd_T46 l0 x7_2).f1) == 0) = true := beq_iff_eq.mpr c100
                         have c100b1 : (((rd_T46 l0 x7_2).f1) != 0) = false := bne_eq_false_iff_eq.mpr c100
                         clear c100
                         have H' := Aside0.mk H
                         clear H
                         have hcz101_0 : wc.cell? ⟨gb148, 0, none⟩ = some (.int .i64 ((rd_T46 l0 x7_2).f0)) := (blk_cell BK148.out 0).trans rfl
                         have hcz101_1 : wc.cell? ⟨gb148, 1, none⟩ = some (.int .i64 ((rd_T46 l0 x7_2).f1)) := (blk_cell BK148.out 1).trans rfl
                         have hcz101_2 : wc.cell? ⟨gb148, 2, none⟩ = some (.int .i64 ((rd_T46 l0 x7_2).f2)) := (blk_cell BK148.out 2).trans rfl
                         have hcz101_3 : wc.cell? ⟨gb148, 3, none⟩ = some (.int .i64 ((rd_T46 l0 x7_2).f3)) := (blk_cell BK148.out 3).trans rfl
                         have hfz101_0 := blk_frozen BK148.out 0
                         have hfz101_1 := blk_frozen BK148.out 1
                         have hfz101_2 := blk_frozen BK148.out 2
                         have hfz101_3 := blk_frozen BK148.out 3
                         go_wp2
                         go_roundg kj8
                         case measure => have := HJ3.out; have := HK2.out; have := HJ8.out; omega
                         case rel => exact ⟨(wrap64 (x7_2 + 1)), (by first | rfl | (simp; done) | (simp [*]; done)), H', ⟨by have := HJ3.out; have := HK2.out; have := HJ8.out; omega⟩, ⟨by repeat (first | (with_reducible first | exact HB.out | apply below_alloc | apply pw_below_drewN | apply below_drew1 | refine below_set ?_ GE148.out) | exact HB.out)⟩⟩
                        ·
                         as_aux_lemma =>
                          rw [if_neg c100] at H
                          have c100b0 : (((rd_T46 l0 x7_2).f1) == 0) = false := beq_eq_false_iff_ne.mpr c100
                          have c100b1 : (((rd_T46 l0 x7_2).f1) != 0) = true := bne_iff_ne.mpr c100
                          by_cases c102 : ((rd_T46 l0 x7_2).f0) > 4
                          ·
                           as_aux_lemma =>
                            rw [if_pos c102] at H
                            have c102b0 : decide (4 < ((rd_T46 l0 x7_2).f0)) = true := decide_eq_true c102
                            clear c102
                            by_cases c103 : ((rd_T46 l0 x7_2).f0) < 9
                            ·
                             rw [if_pos c103] at H
                             have c103b0 : decide (((rd_T46 l0 x7_2).f0) < 9) = true := decide_eq_true c103
                             clear c103
                             obtain rfl := Option.some.inj H
                             have hcz104_0 : wc.cell? ⟨gb148, 0, none⟩ = some (.int .i64 ((rd_T46 l0 x7_2).f0)) := (blk_cell BK148.out 0).trans rfl
                             have hcz104_1 : wc.cell? ⟨gb148, 1, none⟩ = some (.int .i64 ((rd_T46 l0 x7_2).f1)) := (blk_cell BK148.out 1).trans rfl
                             have hcz104_2 : wc.cell? ⟨gb148, 2, none⟩ = some (.int .i64 ((rd_T46 l0 x7_2).f2)) := (blk_cell BK148.out 2).trans rfl
                             have hcz104_3 : wc.cell? ⟨gb148, 3, none⟩ = some (.int .i64 ((rd_T46 l0 x7_2).f3)) := (blk_cell BK148.out 3).trans rfl
                             have hfz104_0 := blk_frozen BK148.out 0
                             have hfz104_1 := blk_frozen BK148.out 1
                             have hfz104_2 := blk_frozen BK148.out 2
                             have hfz104_3 := blk_frozen BK148.out 3
                             go_wp2
                             go_ret
                             exact ⟨by first | rfl | (simp [errW_none, errW_some] <;> rfl) | (simp [*, errW_none, errW_some] <;> rfl), by repeat (first | (with_reducible first | exact HB.out | apply below_alloc | apply pw_below_drewN | apply below_drew1 | refine below_set ?_ GE148.out) | exact HB.out)⟩
                            ·
                             as_aux_lemma =>
                              rw [if_neg c103] at H
                              have c103b0 : decide (((rd_T46 l0 x7_2).f0) < 9) = false := decide_eq_false c103
                              clear c103
                              by_cases c105 : ((rd_T46 l0 x7_2).f0) > 9
                              ·
                               rw [if_pos c105] at H
                               have c105b0 : decide (9 < ((rd_T46 l0 x7_2).f0)) = true := decide_eq_true c105
                               clear c105
                               obtain rfl := Option.some.inj H
                               have hcz106_0 : wc.cell? ⟨gb148, 0, none⟩ = some (.int .i64 ((rd_T46 l0 x7_2).f0)) := (blk_cell BK148.out 0).trans rfl
                               have hcz106_1 : wc.cell? ⟨gb148, 1, none⟩ = some (.int .i64 ((rd_T46 l0 x7_2).f1)) := (blk_cell BK148.out 1).trans rfl
                               have hcz106_2 : wc.cell? ⟨gb148, 2, none⟩ = some (.int .i64 ((rd_T46 l0 x7_2).f2)) := (blk_cell BK148.out 2).trans rfl
                               have hcz106_3 : wc.cell? ⟨gb148, 3, none⟩ = some (.int .i64 ((rd_T46 l0 x7_2).f3)) := (blk_cell BK148.out 3).trans rfl
                               have hfz106_0 := blk_frozen BK148.out 0
                               have hfz106_1 := blk_frozen BK148.out 1
                               have hfz106_2 := blk_frozen BK148.out 2
                               have hfz106_3 := blk_frozen BK148.out 3
                               go_wp2
                               go_ret
                               exact ⟨by first | rfl | (simp [errW_none, errW_some] <;> rfl) | (simp [*, errW_none, errW_some] <;> rfl), by repeat (first | (with_reducible first | exact HB.out | apply below_alloc | apply pw_below_drewN | apply below_drew1 | refine below_set ?_ GE148.out) | exact HB.out)⟩
                              ·
                               rw [if_neg c105] at H
                               have c105b0 : decide (9 < ((rd_T46 l0 x7_2).f0)) = false := decide_eq_false c105
                               clear c105
                               have H' := Aside0.mk H
                               clear H
                               have hcz107_0 : wc.cell? ⟨gb148, 0, none⟩ = some (.int .i64 ((rd_T46 l0 x7_2).f0)) := (blk_cell BK148.out 0).trans rfl
                               have hcz107_1 : wc.cell? ⟨gb148, 1, none⟩ = some (.int .i64 ((rd_T46 l0 x7_2).f1)) := (blk_cell BK148.out 1).trans rfl
                               have hcz107_2 : wc.cell? ⟨gb148, 2, none⟩ = some (.int .i64 ((rd_T46 l0 x7_2).f2)) := (blk_cell BK148.out 2).trans rfl
                               have hcz107_3 : wc.cell? ⟨gb148, 3, none⟩ = some (.int .i64 ((rd_T46 l0 x7_2).f3)) := (blk_cell BK148.out 3).trans rfl
                               have hfz107_0 := blk_frozen BK148.out 0
                               have hfz107_1 := blk_frozen BK148.out 1
                               have hfz107_2 := blk_frozen BK148.out 2
                               have hfz107_3 := blk_frozen BK148.out 3
                               go_wp2
                               go_roundg kj8
                               case measure => have := HJ3.out; have := HK2.out; have := HJ8.out; omega
                               case rel => exact ⟨(wrap64 (x7_2 + 1)), (by first | rfl | (simp; done) | (simp [*]; done)), H', ⟨by have := HJ3.out; have := HK2.out; have := HJ8.out; omega⟩, ⟨by repeat (first | (with_reducible first | exact HB.out | apply below_alloc | apply pw_below_drewN | apply below_drew1 | refine below_set ?_ GE148.out) | exact HB.out)⟩⟩
                          ·
                           as_aux_lemma =>
                            rw [if_neg c102] at H
                            have c102b0 : decide (4 < ((rd_T46 l0 x7_2).f0)) = false := decide_eq_false c102
                            clear c102
                            by_cases c108 : ((rd_T46 l0 x7_2).f0) > 9
                            ·
                             rw [if_pos c108] at H
                             have c108b0 : decide (9 < ((rd_T46 l0 x7_2).f0)) = true := decide_eq_true c108
                             clear c108
                             obtain rfl := Option.some.inj H
                             have hcz109_0 : wc.cell? ⟨gb148, 0, none⟩ = some (.int .i64 ((rd_T46 l0 x7_2).f0)) := (blk_cell BK148.out 0).trans rfl
                             have hcz109_1 : wc.cell? ⟨gb148, 1, none⟩ = some (.int .i64 ((rd_T46 l0 x7_2).f1)) := (blk_cell BK148.out 1).trans rfl
                             have hcz109_2 : wc.cell? ⟨gb148, 2, none⟩ = some (.int .i64 ((rd_T46 l0 x7_2).f2)) := (blk_cell BK148.out 2).trans rfl
                             have hcz109_3 : wc.cell? ⟨gb148, 3, none⟩ = some (.int .i64 ((rd_T46 l0 x7_2).f3)) := (blk_cell BK148.out 3).trans rfl
                             have hfz109_0 := blk_frozen BK148.out 0
                             have hfz109_1 := blk_frozen BK148.out 1
                             have hfz109_2 := blk_frozen BK148.out 2
                             have hfz109_3 := blk_frozen BK148.out 3
                             go_wp2
                             go_ret
                             exact ⟨by first | rfl | (simp [errW_none, errW_some] <;> rfl) | (simp [*, errW_none, errW_some] <;> rfl), by repeat (first | (with_reducible first | exact HB.out | apply below_alloc | apply pw_below_drewN | apply below_drew1 | refine below_set ?_ GE148.out) | exact HB.out)⟩
                            ·
                             rw [if_neg c108] at H
                             have c108b0 : decide (9 < ((rd_T46 l0 x7_2).f0)) = false := decide_eq_false c108
                             clear c108
                             have H' := Aside0.mk H
                             clear H
                             have hcz110_0 : wc.cell? ⟨gb148, 0, none⟩ = some (.int .i64 ((rd_T46 l0 x7_2).f0)) := (blk_cell BK148.out 0).trans rfl
                             have hcz110_1 : wc.cell? ⟨gb148, 1, none⟩ = some (.int .i64 ((rd_T46 l0 x7_2).f1)) := (blk_cell BK148.out 1).trans rfl
                             have hcz110_2 : wc.cell? ⟨gb148, 2, none⟩ = some (.int .i64 ((rd_T46 l0 x7_2).f2)) := (blk_cell BK148.out 2).trans rfl
                             have hcz110_3 : wc.cell? ⟨gb148, 3, none⟩ = some (.int .i64 ((rd_T46 l0 x7_2).f3)) := (blk_cell BK148.out 3).trans rfl
                             have hfz110_0 := blk_frozen BK148.out 0
                             have hfz110_1 := blk_frozen BK148.out 1
                             have hfz110_2 := blk_frozen BK148.out 2
                             have hfz110_3 := blk_frozen BK148.out 3
                             go_wp2
                             go_roundg kj8
                             case measure => have := HJ3.out; have := HK2.out; have := HJ8.out; omega
                             case rel => exact ⟨(wrap64 (x7_2 + 1)), (by first | rfl | (simp; done) | (simp [*]; done)), H', ⟨by have := HJ3.out; have := HK2.out; have := HJ8.out; omega⟩, ⟨by repeat (first | (with_reducible first | exact HB.out | apply below_alloc | apply pw_below_drewN | apply below_drew1 | refine below_set ?_ GE148.out) | exact HB.out)⟩⟩
        ·
         rw [if_neg c8] at H
         exact absurd H (by simp)
      ·
       as_aux_lemma =>
        rw [if_neg c7] at H
        have c7b0 : decide (x7_2 < (l0.length : Int)) = false := decide_eq_false c7
        clear c7
        replace H := Option.bind_eq_some_iff.mp H
        obtain ⟨⟨t149, t150⟩, A1110, H⟩ := H
        replace H : (if t149 < 0 then (some true) else (eddylaw18_refusable.l1 k2 l0 a1 a2 t149 t150 0)) = some r := H
        have A111 := Aside0.mk A1110
        clear A1110
        by_cases c112 : t149 < 0
        ·
         rw [if_pos c112] at H
         have c112b0 : decide (t149 < 0) = true := decide_eq_true c112
         clear c112
         obtain rfl := Option.some.inj H
         go_wp2_with (first | ((with_reducible refine gate_callee (f := 22) rfl ?_); refine goesL_ (some 135) rfl rfl Try.func22 (by kernel_rfl) rfl #[.slice A0 l0.length c0, .int .i64 a1] rfl (by (try simp only [List.map_toArray, List.map_cons, List.map_nil]); first | done | rfl | (simp only [List.length_drop, List.length_take]; rfl)) ?_; (with_reducible refine (eddylaw18_life.calls k2 _ _ l0 a1 t149 t150 _ ?side1 ?side2 A111.out).mono ?_); (case side1 => repeat (first | exact (Kd.C_below HR0.out HB.out) | (with_reducible refine Kd.C_alloc ?_ _) | (with_reducible refine Kd.C_drewN ?_ _) | (with_reducible refine Kd.C_drew ?_))); (case side2 => exact HC0.out); rintro e w' ⟨rfl, ⟨nd, rfl⟩⟩; refine ⟨_, rfl, ?_⟩))
         go_ret
         exact ⟨by first | rfl | (simp [errW_none, errW_some] <;> rfl) | (simp [*, errW_none, errW_some] <;> rfl), by repeat (first | (with_reducible first | exact HB.out | apply below_alloc | apply pw_below_drewN | apply below_drew1) | exact HB.out)⟩
        ·
         as_aux_lemma =>
          rw [if_neg c112] at H
          have c112b0 : decide (t149 < 0) = false := decide_eq_false c112
          clear c112
          have H' := Aside0.mk H
          clear H
          go_wp2_with (first | ((with_reducible refine gate_callee (f := 22) rfl ?_); refine goesL_ (some 135) rfl rfl Try.func22 (by kernel_rfl) rfl #[.slice A0 l0.length c0, .int .i64 a1] rfl (by (try simp only [List.map_toArray, List.map_cons, List.map_nil]); first | done | rfl | (simp only [List.length_drop, List.length_take]; rfl)) ?_; (with_reducible refine (eddylaw18_life.calls k2 _ _ l0 a1 t149 t150 _ ?side1 ?side2 A111.out).mono ?_); (case side1 => repeat (first | exact (Kd.C_below HR0.out HB.out) | (with_reducible refine Kd.C_alloc ?_ _) | (with_reducible refine Kd.C_drewN ?_ _) | (with_reducible refine Kd.C_drew ?_))); (case side2 => exact HC0.out); rintro e w' ⟨rfl, ⟨nd, rfl⟩⟩; refine ⟨_, rfl, ?_⟩))
          go_loopg [11] k2 (fun kq v11 w' => ∃ (x11_3 : Int), v11 = .int .i64 x11_3 ∧ Aside0 (eddylaw18_refusable.l1 kq l0 a1 a2 t149 t150 x11_3 = some r) ∧ Aside0 (kq ≤ k2) ∧ Aside0 (Below w.heap.size w w'))
          case atStart => exact ⟨(0), (by first | rfl | (simp; done) | (simp [*]; done)), H', ⟨Nat.le_refl _⟩, ⟨by repeat (first | (with_reducible first | exact HB.out | apply below_alloc | apply pw_below_drewN | apply below_drew1) | exact HB.out)⟩⟩
          case round =>
           clear H'
           try clear c1
           try clear c2
           try clear p2
           try clear c3
           try clear c5
           try clear c6
           try clear p6
           try clear c7
           try clear c7b0
           try clear c8
           try clear c9
           try clear c10
           try clear c11
           try clear c22
           try clear c30
           try clear c30b0
           try clear c30b1
           try clear c55
           try clear c55b0
           try clear c55b1
           try clear c57
           try clear c57b0
           try clear c57b1
           try clear c59
           try clear c59b0
           try clear c59b1
           try clear c61
           try clear c61b0
           try clear c62
           try clear c62b0
           try clear c64
           try clear c64b0
           try clear p64
           try clear c67
           try clear c67b0
           try clear c70
           try clear c70b0
           try clear c72
           try clear c72b0
           try clear c72b1
           try clear c73
           try clear c73b0
           try clear c74
           try clear c74b0
           try clear c76
           try clear c76b0
           try clear c76b1
           try clear c78
           try clear c78b0
           try clear c79
           try clear c79b0
           try clear c82
           try clear c82b0
           try clear c85
           try clear c85b0
           try clear c85b1
           try clear c87
           try clear c87b0
           try clear c88
           try clear c88b0
           try clear c90
           try clear c90b0
           try clear c93
           try clear c93b0
           try clear c96
           try clear c96b0
           try clear c96b1
           try clear c98
           try clear c98b0
           try clear c98b1
           try clear c100
           try clear c100b0
           try clear c100b1
           try clear c102
           try clear c102b0
           try clear c103
           try clear c103b0
           try clear c105
           try clear c105b0
           try clear c108
           try clear c108b0
           try clear c112
           try clear c112b0
           try clear hcz101_0
           try clear hcz101_1
           try clear hcz101_2
           try clear hcz101_3
           try clear hcz104_0
           try clear hcz104_1
           try clear hcz104_2
           try clear hcz104_3
           try clear hcz106_0
           try clear hcz106_1
           try clear hcz106_2
           try clear hcz106_3
           try clear hcz107_0
           try clear hcz107_1
           try clear hcz107_2
           try clear hcz107_3
           try clear hcz109_0
           try clear hcz109_1
           try clear hcz109_2
           try clear hcz109_3
           try clear hcz110_0
           try clear hcz110_1
           try clear hcz110_2
           try clear hcz110_3
           try clear hcz56_0
           try clear hcz56_1
           try clear hcz56_2
           try clear hcz56_3
           try clear hcz58_0
           try clear hcz58_1
           try clear hcz58_2
           try clear hcz58_3
           try clear hcz60_0
           try clear hcz60_1
           try clear hcz60_2
           try clear hcz60_3
           try clear hcz63_0
           try clear hcz63_1
           try clear hcz63_2
           try clear hcz63_3
           try clear hcz65_0
           try clear hcz65_1
           try clear hcz65_2
           try clear hcz65_3
           try clear hcz66_0
           try clear hcz66_1
           try clear hcz66_2
           try clear hcz66_3
           try clear hcz68_0
           try clear hcz68_1
           try clear hcz68_2
           try clear hcz68_3
           try clear hcz69_0
           try clear hcz69_1
           try clear hcz69_2
           try clear hcz69_3
           try clear hcz71_0
           try clear hcz71_1
           try clear hcz71_2
           try clear hcz71_3
           try clear hcz75_0
           try clear hcz75_1
           try clear hcz75_2
           try clear hcz75_3
           try clear hcz77_0
           try clear hcz77_1
           try clear hcz77_2
           try clear hcz77_3
           try clear hcz80_0
           try clear hcz80_1
           try clear hcz80_2
           try clear hcz80_3
           try clear hcz81_0
           try clear hcz81_1
           try clear hcz81_2
           try clear hcz81_3
           try clear hcz83_0
           try clear hcz83_1
           try clear hcz83_2
           try clear hcz83_3
           try clear hcz84_0
           try clear hcz84_1
           try clear hcz84_2
           try clear hcz84_3
           try clear hcz86_0
           try clear hcz86_1
           try clear hcz86_2
           try clear hcz86_3
           try clear hcz89_0
           try clear hcz89_1
           try clear hcz89_2
           try clear hcz89_3
           try clear hcz91_0
           try clear hcz91_1
           try clear hcz91_2
           try clear hcz91_3
           try clear hcz92_0
           try clear hcz92_1
           try clear hcz92_2
           try clear hcz92_3
           try clear hcz94_0
           try clear hcz94_1
           try clear hcz94_2
           try clear hcz94_3
           try clear hcz95_0
           try clear hcz95_1
           try clear hcz95_2
           try clear hcz95_3
           try clear hcz97_0
           try clear hcz97_1
           try clear hcz97_2
           try clear hcz97_3
           try clear hcz99_0
           try clear hcz99_1
           try clear hcz99_2
           try clear hcz99_3
           try clear hfz101_0
           try clear hfz101_1
           try clear hfz101_2
           try clear hfz101_3
           try clear hfz104_0
           try clear hfz104_1
           try clear hfz104_2
           try clear hfz104_3
           try clear hfz106_0
           try clear hfz106_1
           try clear hfz106_2
           try clear hfz106_3
           try clear hfz107_0
           try clear hfz107_1
           try clear hfz107_2
           try clear hfz107_3
           try clear hfz109_0
           try clear hfz109_1
           try clear hfz109_2
           try clear hfz109_3
           try clear hfz110_0
           try clear hfz110_1
           try clear hfz110_2
           try clear hfz110_3
           try clear hfz56_0
           try clear hfz56_1
           try clear hfz56_2
           try clear hfz56_3
           try clear hfz58_0
           try clear hfz58_1
           try clear hfz58_2
           try clear hfz58_3
           try clear hfz60_0
           try clear hfz60_1
           try clear hfz60_2
           try clear hfz60_3
           try clear hfz63_0
           try clear hfz63_1
           try clear hfz63_2
           try clear hfz63_3
           try clear hfz65_0
           try clear hfz65_1
           try clear hfz65_2
           try clear hfz65_3
           try clear hfz66_0
           try clear hfz66_1
           try clear hfz66_2
           try clear hfz66_3
           try clear hfz68_0
           try clear hfz68_1
           try clear hfz68_2
           try clear hfz68_3
           try clear hfz69_0
           try clear hfz69_1
           try clear hfz69_2
           try clear hfz69_3
           try clear hfz71_0
           try clear hfz71_1
           try clear hfz71_2
           try clear hfz71_3
           try clear hfz75_0
           try clear hfz75_1
           try clear hfz75_2
           try clear hfz75_3
           try clear hfz77_0
           try clear hfz77_1
           try clear hfz77_2
           try clear hfz77_3
           try clear hfz80_0
           try clear hfz80_1
           try clear hfz80_2
           try clear hfz80_3
           try clear hfz81_0
           try clear hfz81_1
           try clear hfz81_2
           try clear hfz81_3
           try clear hfz83_0
           try clear hfz83_1
           try clear hfz83_2
           try clear hfz83_3
           try clear hfz84_0
           try clear hfz84_1
           try clear hfz84_2
           try clear hfz84_3
           try clear hfz86_0
           try clear hfz86_1
           try clear hfz86_2
           try clear hfz86_3
           try clear hfz89_0
           try clear hfz89_1
           try clear hfz89_2
           try clear hfz89_3
           try clear hfz91_0
           try clear hfz91_1
           try clear hfz91_2
           try clear hfz91_3
           try clear hfz92_0
           try clear hfz92_1
           try clear hfz92_2
           try clear hfz92_3
           try clear hfz94_0
           try clear hfz94_1
           try clear hfz94_2
           try clear hfz94_3
           try clear hfz95_0
           try clear hfz95_1
           try clear hfz95_2
           try clear hfz95_3
           try clear hfz97_0
           try clear hfz97_1
           try clear hfz97_2
           try clear hfz97_3
           try clear hfz99_0
           try clear hfz99_1
           try clear hfz99_2
           try clear hfz99_3
           obtain ⟨x11_3, rfl, HA, HK3, HB⟩ := hrel
           cases gk with
           | zero => exact absurd HA.out (by simp [eddylaw18_refusable.l1])
           | succ k3 =>
            have H := HA.out
            clear HA
            simp only [eddylaw18_refusable.l1] at H
            by_cases c113 : x11_3 < a2
            ·
             as_aux_lemma =>
              rw [if_pos c113] at H
              have c113b0 : decide (x11_3 < a2) = true := decide_eq_true c113
              clear c113
              have H' := Aside0.mk H
              clear H
              go_wp2
              go_loopg [12, 13] k3 (fun kq v12 v13 w' => ∃ (x12_4 : Int) (x13_4 : Int), v12 = .int .i64 x12_4 ∧ v13 = .int .i64 x13_4 ∧ Aside0 (eddylaw18_refusable.l2 kq l0 a1 a2 t149 t150 x11_3 x12_4 x13_4 = some r) ∧ Aside0 (kq ≤ k3) ∧ Aside0 (Below w.heap.size w w'))
              case atStart => exact ⟨(0), (t149), (by first | rfl | (simp; done) | (simp [*]; done)), (by first | rfl | (simp; done) | (simp [*]; done)), H', ⟨Nat.le_refl _⟩, ⟨by repeat (first | (with_reducible first | exact HB.out | apply below_alloc | apply pw_below_drewN | apply below_drew1) | exact HB.out)⟩⟩
              case round =>
               clear H'
               try clear c1
               try clear c2
               try clear p2
               try clear c3
               try clear c5
               try clear c6
               try clear p6
               try clear c7
               try clear c7b0
               try clear c8
               try clear c9
               try clear c10
               try clear c11
               try clear c22
               try clear c30
               try clear c30b0
               try clear c30b1
               try clear c55
               try clear c55b0
               try clear c55b1
               try clear c57
               try clear c57b0
               try clear c57b1
               try clear c59
               try clear c59b0
               try clear c59b1
               try clear c61
               try clear c61b0
               try clear c62
               try clear c62b0
               try clear c64
               try clear c64b0
               try clear p64
               try clear c67
               try clear c67b0
               try clear c70
               try clear c70b0
               try clear c72
               try clear c72b0
               try clear c72b1
               try clear c73
               try clear c73b0
               try clear c74
               try clear c74b0
               try clear c76
               try clear c76b0
               try clear c76b1
               try clear c78
               try clear c78b0
               try clear c79
               try clear c79b0
               try clear c82
               try clear c82b0
               try clear c85
               try clear c85b0
               try clear c85b1
               try clear c87
               try clear c87b0
               try clear c88
               try clear c88b0
               try clear c90
               try clear c90b0
               try clear c93
               try clear c93b0
               try clear c96
               try clear c96b0
               try clear c96b1
               try clear c98
               try clear c98b0
               try clear c98b1
               try clear c100
               try clear c100b0
               try clear c100b1
               try clear c102
               try clear c102b0
               try clear c103
               try clear c103b0
               try clear c105
               try clear c105b0
               try clear c108
               try clear c108b0
               try clear c112
               try clear c112b0
               try clear c113
               try clear c113b0
               try clear hcz101_0
               try clear hcz101_1
               try clear hcz101_2
               try clear hcz101_3
               try clear hcz104_0
               try clear hcz104_1
               try clear hcz104_2
               try clear hcz104_3
               try clear hcz106_0
               try clear hcz106_1
               try clear hcz106_2
               try clear hcz106_3
               try clear hcz107_0
               try clear hcz107_1
               try clear hcz107_2
               try clear hcz107_3
               try clear hcz109_0
               try clear hcz109_1
               try clear hcz109_2
               try clear hcz109_3
               try clear hcz110_0
               try clear hcz110_1
               try clear hcz110_2
               try clear hcz110_3
               try clear hcz56_0
               try clear hcz56_1
               try clear hcz56_2
               try clear hcz56_3
               try clear hcz58_0
               try clear hcz58_1
               try clear hcz58_2
               try clear hcz58_3
               try clear hcz60_0
               try clear hcz60_1
               try clear hcz60_2
               try clear hcz60_3
               try clear hcz63_0
               try clear hcz63_1
               try clear hcz63_2
               try clear hcz63_3
               try clear hcz65_0
               try clear hcz65_1
               try clear hcz65_2
               try clear hcz65_3
               try clear hcz66_0
               try clear hcz66_1
               try clear hcz66_2
               try clear hcz66_3
               try clear hcz68_0
               try clear hcz68_1
               try clear hcz68_2
               try clear hcz68_3
               try clear hcz69_0
               try clear hcz69_1
               try clear hcz69_2
               try clear hcz69_3
               try clear hcz71_0
               try clear hcz71_1
               try clear hcz71_2
               try clear hcz71_3
               try clear hcz75_0
               try clear hcz75_1
               try clear hcz75_2
               try clear hcz75_3
               try clear hcz77_0
               try clear hcz77_1
               try clear hcz77_2
               try clear hcz77_3
               try clear hcz80_0
               try clear hcz80_1
               try clear hcz80_2
               try clear hcz80_3
               try clear hcz81_0
               try clear hcz81_1
               try clear hcz81_2
               try clear hcz81_3
               try clear hcz83_0
               try clear hcz83_1
               try clear hcz83_2
               try clear hcz83_3
               try clear hcz84_0
               try clear hcz84_1
               try clear hcz84_2
               try clear hcz84_3
               try clear hcz86_0
               try clear hcz86_1
               try clear hcz86_2
               try clear hcz86_3
               try clear hcz89_0
               try clear hcz89_1
               try clear hcz89_2
               try clear hcz89_3
               try clear hcz91_0
               try clear hcz91_1
               try clear hcz91_2
               try clear hcz91_3
               try clear hcz92_0
               try clear hcz92_1
               try clear hcz92_2
               try clear hcz92_3
               try clear hcz94_0
               try clear hcz94_1
               try clear hcz94_2
               try clear hcz94_3
               try clear hcz95_0
               try clear hcz95_1
               try clear hcz95_2
               try clear hcz95_3
               try clear hcz97_0
               try clear hcz97_1
               try clear hcz97_2
               try clear hcz97_3
               try clear hcz99_0
               try clear hcz99_1
               try clear hcz99_2
               try clear hcz99_3
               try clear hfz101_0
               try clear hfz101_1
               try clear hfz101_2
               try clear hfz101_3
               try clear hfz104_0
               try clear hfz104_1
               try clear hfz104_2
               try clear hfz104_3
               try clear hfz106_0
               try clear hfz106_1
               try clear hfz106_2
               try clear hfz106_3
               try clear hfz107_0
               try clear hfz107_1
               try clear hfz107_2
               try clear hfz107_3
               try clear hfz109_0
               try clear hfz109_1
               try clear hfz109_2
               try clear hfz109_3
               try clear hfz110_0
               try clear hfz110_1
               try clear hfz110_2
               try clear hfz110_3
               try clear hfz56_0
               try clear hfz56_1
               try clear hfz56_2
               try clear hfz56_3
               try clear hfz58_0
               try clear hfz58_1
               try clear hfz58_2
               try clear hfz58_3
               try clear hfz60_0
               try clear hfz60_1
               try clear hfz60_2
               try clear hfz60_3
               try clear hfz63_0
               try clear hfz63_1
               try clear hfz63_2
               try clear hfz63_3
               try clear hfz65_0
               try clear hfz65_1
               try clear hfz65_2
               try clear hfz65_3
               try clear hfz66_0
               try clear hfz66_1
               try clear hfz66_2
               try clear hfz66_3
               try clear hfz68_0
               try clear hfz68_1
               try clear hfz68_2
               try clear hfz68_3
               try clear hfz69_0
               try clear hfz69_1
               try clear hfz69_2
               try clear hfz69_3
               try clear hfz71_0
               try clear hfz71_1
               try clear hfz71_2
               try clear hfz71_3
               try clear hfz75_0
               try clear hfz75_1
               try clear hfz75_2
               try clear hfz75_3
               try clear hfz77_0
               try clear hfz77_1
               try clear hfz77_2
               try clear hfz77_3
               try clear hfz80_0
               try clear hfz80_1
               try clear hfz80_2
               try clear hfz80_3
               try clear hfz81_0
               try clear hfz81_1
               try clear hfz81_2
               try clear hfz81_3
               try clear hfz83_0
               try clear hfz83_1
               try clear hfz83_2
               try clear hfz83_3
               try clear hfz84_0
               try clear hfz84_1
               try clear hfz84_2
               try clear hfz84_3
               try clear hfz86_0
               try clear hfz86_1
               try clear hfz86_2
               try clear hfz86_3
               try clear hfz89_0
               try clear hfz89_1
               try clear hfz89_2
               try clear hfz89_3
               try clear hfz91_0
               try clear hfz91_1
               try clear hfz91_2
               try clear hfz91_3
               try clear hfz92_0
               try clear hfz92_1
               try clear hfz92_2
               try clear hfz92_3
               try clear hfz94_0
               try clear hfz94_1
               try clear hfz94_2
               try clear hfz94_3
               try clear hfz95_0
               try clear hfz95_1
               try clear hfz95_2
               try clear hfz95_3
               try clear hfz97_0
               try clear hfz97_1
               try clear hfz97_2
               try clear hfz97_3
               try clear hfz99_0
               try clear hfz99_1
               try clear hfz99_2
               try clear hfz99_3
               try clear p2
               try clear p6
               try clear p64
               obtain ⟨x12_4, x13_4, rfl, rfl, HA, HK4, HB⟩ := hrel
               cases gk with
               | zero => exact absurd HA.out (by simp [eddylaw18_refusable.l2])
               | succ k4 =>
                have H := HA.out
                clear HA
                simp only [eddylaw18_refusable.l2] at H
                by_cases c114 : x13_4 < t150
                ·
                 as_aux_lemma =>
                  rw [if_pos c114] at H
                  have c114b0 : decide (x13_4 < t150) = true := decide_eq_true c114
                  clear c114
                  by_cases c115 : 0 ≤ x13_4
                  ·
                   as_aux_lemma =>
                    rw [if_pos c115] at H
                    have c115b0 : decide (0 ≤ x13_4) = true := decide_eq_true c115
                    clear c115
                    by_cases c116 : x13_4 < (l0.length : Int)
                    ·
                     as_aux_lemma =>
                      rw [if_pos c116] at H
                      have c116b0 : decide (x13_4 < (l0.length : Int)) = true := decide_eq_true c116
                      clear c116
                      by_cases c117 : ((rd_T46 l0 x13_4).f0) = 3
                      ·
                       as_aux_lemma =>
                        rw [if_pos c117] at H
                        have c117b0 : (((rd_T46 l0 x13_4).f0) == 3) = true := beq_iff_eq.mpr c117
                        have c117b1 : (((rd_T46 l0 x13_4).f0) != 3) = false := bne_eq_false_iff_eq.mpr c117
                        clear c117
                        by_cases c118 : ((rd_T46 l0 x13_4).f3) = a1
                        ·
                         as_aux_lemma =>
                          rw [if_pos c118] at H
                          have c118b0 : (((rd_T46 l0 x13_4).f3) == a1) = true := beq_iff_eq.mpr c118
                          have c118b1 : (((rd_T46 l0 x13_4).f3) != a1) = false := bne_eq_false_iff_eq.mpr c118
                          clear c118
                          by_cases c119 : ((rd_T46 l0 x13_4).f1) = x11_3
                          ·
                           as_aux_lemma =>
                            rw [if_pos c119] at H
                            have c119b0 : (((rd_T46 l0 x13_4).f1) == x11_3) = true := beq_iff_eq.mpr c119
                            have c119b1 : (((rd_T46 l0 x13_4).f1) != x11_3) = false := bne_eq_false_iff_eq.mpr c119
                            clear c119
                            have H' := Aside0.mk H
                            clear H
                            have p151 : 0 ≤ (x13_4 : Int) := of_decide_eq_true (by first | (with_reducible assumption) | assumption)
                            have q151 : x13_4 < (l0.length : Int) := of_decide_eq_true (by first | (with_reducible assumption) | assumption)
                            obtain ⟨ad151, e151, hx151_0, hx151_1, hx151_2, hx151_3⟩ := at_T46 HR0.out x13_4 p151 q151
                            cases e151
                            replace hx151_0 := (HB.out.cell (World.block_lt_of_cell? w _ hx151_0)).trans hx151_0
                            replace hx151_1 := (HB.out.cell (World.block_lt_of_cell? w _ hx151_1)).trans hx151_1
                            replace hx151_2 := (HB.out.cell (World.block_lt_of_cell? w _ hx151_2)).trans hx151_2
                            replace hx151_3 := (HB.out.cell (World.block_lt_of_cell? w _ hx151_3)).trans hx151_3
                            replace p151 := eq_true p151
                            replace q151 := eq_true q151
                            have p152 : 0 ≤ (x13_4 : Int) := of_decide_eq_true (by first | (with_reducible assumption) | assumption)
                            have q152 : x13_4 < (l0.length : Int) := of_decide_eq_true (by first | (with_reducible assumption) | assumption)
                            obtain ⟨ad152, e152, hx152_0, hx152_1, hx152_2, hx152_3⟩ := at_T46 HR0.out x13_4 p152 q152
                            obtain rfl : ad151 = ad152 := (by injection e152)
                            replace hx152_0 := (HB.out.cell (World.block_lt_of_cell? w _ hx152_0)).trans hx152_0
                            replace hx152_1 := (HB.out.cell (World.block_lt_of_cell? w _ hx152_1)).trans hx152_1
                            replace hx152_2 := (HB.out.cell (World.block_lt_of_cell? w _ hx152_2)).trans hx152_2
                            replace hx152_3 := (HB.out.cell (World.block_lt_of_cell? w _ hx152_3)).trans hx152_3
                            replace p152 := eq_true p152
                            replace q152 := eq_true q152
                            have p153 : 0 ≤ (x13_4 : Int) := of_decide_eq_true (by first | (with_reducible assumption) | assumption)
                            have q153 : x13_4 < (l0.length : Int) := of_decide_eq_true (by first | (with_reducible assumption) | assumption)
                            obtain ⟨ad153, e153, hx153_0, hx153_1, hx153_2, hx153_3⟩ := at_T46 HR0.out x13_4 p153 q153
                            obtain rfl : ad151 = ad153 := (by injection e153)
                            replace hx153_0 := (HB.out.cell (World.block_lt_of_cell? w _ hx153_0)).trans hx153_0
                            replace hx153_1 := (HB.out.cell (World.block_lt_of_cell? w _ hx153_1)).trans hx153_1
                            replace hx153_2 := (HB.out.cell (World.block_lt_of_cell? w _ hx153_2)).trans hx153_2
                            replace hx153_3 := (HB.out.cell (World.block_lt_of_cell? w _ hx153_3)).trans hx153_3
                            replace p153 := eq_true p153
                            replace q153 := eq_true q153
                            go_wp2
                            go_roundg k4
                            case measure => have := HJ3.out; have := HK2.out; have := HK3.out; have := HK4.out; omega
                            case rel => exact ⟨(wrap64 (x12_4 + 1)), (wrap64 (x13_4 + 1)), (by first | rfl | (simp; done) | (simp [*]; done)), (by first | rfl | (simp; done) | (simp [*]; done)), H', ⟨by have := HJ3.out; have := HK2.out; have := HK3.out; have := HK4.out; omega⟩, ⟨by repeat (first | (with_reducible first | exact HB.out | apply below_alloc | apply pw_below_drewN | apply below_drew1) | exact HB.out)⟩⟩
                          ·
                           as_aux_lemma =>
                            rw [if_neg c119] at H
                            have c119b0 : (((rd_T46 l0 x13_4).f1) == x11_3) = false := beq_eq_false_iff_ne.mpr c119
                            have c119b1 : (((rd_T46 l0 x13_4).f1) != x11_3) = true := bne_iff_ne.mpr c119
                            have H' := Aside0.mk H
                            clear H
                            have p151 : 0 ≤ (x13_4 : Int) := of_decide_eq_true (by first | (with_reducible assumption) | assumption)
                            have q151 : x13_4 < (l0.length : Int) := of_decide_eq_true (by first | (with_reducible assumption) | assumption)
                            obtain ⟨ad151, e151, hx151_0, hx151_1, hx151_2, hx151_3⟩ := at_T46 HR0.out x13_4 p151 q151
                            cases e151
                            replace hx151_0 := (HB.out.cell (World.block_lt_of_cell? w _ hx151_0)).trans hx151_0
                            replace hx151_1 := (HB.out.cell (World.block_lt_of_cell? w _ hx151_1)).trans hx151_1
                            replace hx151_2 := (HB.out.cell (World.block_lt_of_cell? w _ hx151_2)).trans hx151_2
                            replace hx151_3 := (HB.out.cell (World.block_lt_of_cell? w _ hx151_3)).trans hx151_3
                            replace p151 := eq_true p151
                            replace q151 := eq_true q151
                            have p152 : 0 ≤ (x13_4 : Int) := of_decide_eq_true (by first | (with_reducible assumption) | assumption)
                            have q152 : x13_4 < (l0.length : Int) := of_decide_eq_true (by first | (with_reducible assumption) | assumption)
                            obtain ⟨ad152, e152, hx152_0, hx152_1, hx152_2, hx152_3⟩ := at_T46 HR0.out x13_4 p152 q152
                            obtain rfl : ad151 = ad152 := (by injection e152)
                            replace hx152_0 := (HB.out.cell (World.block_lt_of_cell? w _ hx152_0)).trans hx152_0
                            replace hx152_1 := (HB.out.cell (World.block_lt_of_cell? w _ hx152_1)).trans hx152_1
                            replace hx152_2 := (HB.out.cell (World.block_lt_of_cell? w _ hx152_2)).trans hx152_2
                            replace hx152_3 := (HB.out.cell (World.block_lt_of_cell? w _ hx152_3)).trans hx152_3
                            replace p152 := eq_true p152
                            replace q152 := eq_true q152
                            have p153 : 0 ≤ (x13_4 : Int) := of_decide_eq_true (by first | (with_reducible assumption) | assumption)
                            have q153 : x13_4 < (l0.length : Int) := of_decide_eq_true (by first | (with_reducible assumption) | assumption)
                            obtain ⟨ad153, e153, hx153_0, hx153_1, hx153_2, hx153_3⟩ := at_T46 HR0.out x13_4 p153 q153
                            obtain rfl : ad151 = ad153 := (by injection e153)
                            replace hx153_0 := (HB.out.cell (World.block_lt_of_cell? w _ hx153_0)).trans hx153_0
                            replace hx153_1 := (HB.out.cell (World.block_lt_of_cell? w _ hx153_1)).trans hx153_1
                            replace hx153_2 := (HB.out.cell (World.block_lt_of_cell? w _ hx153_2)).trans hx153_2
                            replace hx153_3 := (HB.out.cell (World.block_lt_of_cell? w _ hx153_3)).trans hx153_3
                            replace p153 := eq_true p153
                            replace q153 := eq_true q153
                            go_wp2
                            go_roundg k4
                            case measure => have := HJ3.out; have := HK2.out; have := HK3.out; have := HK4.out; omega
                            case rel => exact ⟨(x12_4), (wrap64 (x13_4 + 1)), (by first | rfl | (simp; done) | (simp [*]; done)), (by first | rfl | (simp; done) | (simp [*]; done)), H', ⟨by have := HJ3.out; have := HK2.out; have := HK3.out; have := HK4.out; omega⟩, ⟨by repeat (first | (with_reducible first | exact HB.out | apply below_alloc | apply pw_below_drewN | apply below_drew1) | exact HB.out)⟩⟩
                        ·
                         rw [if_neg c118] at H
                         have c118b0 : (((rd_T46 l0 x13_4).f3) == a1) = false := beq_eq_false_iff_ne.mpr c118
                         have c118b1 : (((rd_T46 l0 x13_4).f3) != a1) = true := bne_iff_ne.mpr c118
                         have H' := Aside0.mk H
                         clear H
                         have p151 : 0 ≤ (x13_4 : Int) := of_decide_eq_true (by first | (with_reducible assumption) | assumption)
                         have q151 : x13_4 < (l0.length : Int) := of_decide_eq_true (by first | (with_reducible assumption) | assumption)
                         obtain ⟨ad151, e151, hx151_0, hx151_1, hx151_2, hx151_3⟩ := at_T46 HR0.out x13_4 p151 q151
                         cases e151
                         replace hx151_0 := (HB.out.cell (World.block_lt_of_cell? w _ hx151_0)).trans hx151_0
                         replace hx151_1 := (HB.out.cell (World.block_lt_of_cell? w _ hx151_1)).trans hx151_1
                         replace hx151_2 := (HB.out.cell (World.block_lt_of_cell? w _ hx151_2)).trans hx151_2
                         replace hx151_3 := (HB.out.cell (World.block_lt_of_cell? w _ hx151_3)).trans hx151_3
                         replace p151 := eq_true p151
                         replace q151 := eq_true q151
                         have p152 : 0 ≤ (x13_4 : Int) := of_decide_eq_true (by first | (with_reducible assumption) | assumption)
                         have q152 : x13_4 < (l0.length : Int) := of_decide_eq_true (by first | (with_reducible assumption) | assumption)
                         obtain ⟨ad152, e152, hx152_0, hx152_1, hx152_2, hx152_3⟩ := at_T46 HR0.out x13_4 p152 q152
                         obtain rfl : ad151 = ad152 := (by injection e152)
                         replace hx152_0 := (HB.out.cell (World.block_lt_of_cell? w _ hx152_0)).trans hx152_0
                         replace hx152_1 := (HB.out.cell (World.block_lt_of_cell? w _ hx152_1)).trans hx152_1
                         replace hx152_2 := (HB.out.cell (World.block_lt_of_cell? w _ hx152_2)).trans hx152_2
                         replace hx152_3 := (HB.out.cell (World.block_lt_of_cell? w _ hx152_3)).trans hx152_3
                         replace p152 := eq_true p152
                         replace q152 := eq_true q152
                         go_wp2
                         go_roundg k4
                         case measure => have := HJ3.out; have := HK2.out; have := HK3.out; have := HK4.out; omega
                         case rel => exact ⟨(x12_4), (wrap64 (x13_4 + 1)), (by first | rfl | (simp; done) | (simp [*]; done)), (by first | rfl | (simp; done) | (simp [*]; done)), H', ⟨by have := HJ3.out; have := HK2.out; have := HK3.out; have := HK4.out; omega⟩, ⟨by repeat (first | (with_reducible first | exact HB.out | apply below_alloc | apply pw_below_drewN | apply below_drew1) | exact HB.out)⟩⟩
                      ·
                       rw [if_neg c117] at H
                       have c117b0 : (((rd_T46 l0 x13_4).f0) == 3) = false := beq_eq_false_iff_ne.mpr c117
                       have c117b1 : (((rd_T46 l0 x13_4).f0) != 3) = true := bne_iff_ne.mpr c117
                       have H' := Aside0.mk H
                       clear H
                       have p151 : 0 ≤ (x13_4 : Int) := of_decide_eq_true (by first | (with_reducible assumption) | assumption)
                       have q151 : x13_4 < (l0.length : Int) := of_decide_eq_true (by first | (with_reducible assumption) | assumption)
                       obtain ⟨ad151, e151, hx151_0, hx151_1, hx151_2, hx151_3⟩ := at_T46 HR0.out x13_4 p151 q151
                       cases e151
                       replace hx151_0 := (HB.out.cell (World.block_lt_of_cell? w _ hx151_0)).trans hx151_0
                       replace hx151_1 := (HB.out.cell (World.block_lt_of_cell? w _ hx151_1)).trans hx151_1
                       replace hx151_2 := (HB.out.cell (World.block_lt_of_cell? w _ hx151_2)).trans hx151_2
                       replace hx151_3 := (HB.out.cell (World.block_lt_of_cell? w _ hx151_3)).trans hx151_3
                       replace p151 := eq_true p151
                       replace q151 := eq_true q151
                       go_wp2
                       go_roundg k4
                       case measure => have := HJ3.out; have := HK2.out; have := HK3.out; have := HK4.out; omega
                       case rel => exact ⟨(x12_4), (wrap64 (x13_4 + 1)), (by first | rfl | (simp; done) | (simp [*]; done)), (by first | rfl | (simp; done) | (simp [*]; done)), H', ⟨by have := HJ3.out; have := HK2.out; have := HK3.out; have := HK4.out; omega⟩, ⟨by repeat (first | (with_reducible first | exact HB.out | apply below_alloc | apply pw_below_drewN | apply below_drew1) | exact HB.out)⟩⟩
                    ·
                     rw [if_neg c116] at H
                     exact absurd H (by simp)
                  ·
                   rw [if_neg c115] at H
                   exact absurd H (by simp)
                ·
                 rw [if_neg c114] at H
                 have c114b0 : decide (x13_4 < t150) = false := decide_eq_false c114
                 clear c114
                 by_cases c120 : x12_4 = 1
                 ·
                  rw [if_pos c120] at H
                  have c120b0 : (x12_4 == 1) = true := beq_iff_eq.mpr c120
                  have c120b1 : (x12_4 != 1) = false := bne_eq_false_iff_eq.mpr c120
                  clear c120
                  have H' := Aside0.mk H
                  clear H
                  go_wp2
                  go_roundg k4
                  case measure => have := HJ3.out; have := HK2.out; have := HK3.out; have := HK4.out; omega
                  case rel => exact ⟨(wrap64 (x11_3 + 1)), (by first | rfl | (simp; done) | (simp [*]; done)), H', ⟨by have := HJ3.out; have := HK2.out; have := HK3.out; have := HK4.out; omega⟩, ⟨by repeat (first | (with_reducible first | exact HB.out | apply below_alloc | apply pw_below_drewN | apply below_drew1) | exact HB.out)⟩⟩
                 ·
                  rw [if_neg c120] at H
                  have c120b0 : (x12_4 == 1) = false := beq_eq_false_iff_ne.mpr c120
                  have c120b1 : (x12_4 != 1) = true := bne_iff_ne.mpr c120
                  obtain rfl := Option.some.inj H
                  go_wp2
                  go_ret
                  exact ⟨by first | rfl | (simp [errW_none, errW_some] <;> rfl) | (simp [*, errW_none, errW_some] <;> rfl), by repeat (first | (with_reducible first | exact HB.out | apply below_alloc | apply pw_below_drewN | apply below_drew1) | exact HB.out)⟩
            ·
             rw [if_neg c113] at H
             have c113b0 : decide (x11_3 < a2) = false := decide_eq_false c113
             clear c113
             obtain rfl := Option.some.inj H
             go_wp2
             go_ret
             exact ⟨by first | rfl | (simp [errW_none, errW_some] <;> rfl) | (simp [*, errW_none, errW_some] <;> rfl), by repeat (first | (with_reducible first | exact HB.out | apply below_alloc | apply pw_below_drewN | apply below_drew1) | exact HB.out)⟩
end Go.Proofs.Ytammigfckdgljaa.PWitnessSplit
