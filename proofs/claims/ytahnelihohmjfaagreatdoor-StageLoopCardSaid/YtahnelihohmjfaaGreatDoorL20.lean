/- A part of the walk (V57, V58, V59, V60, V62, V63, V64, V65, V61r). -/
import Derived.Test.YtahnelihohmjfaaGreatDoorL19
import Derived.ScopeJumps
namespace Go.Proofs.YtahnelihohmjfaaGreatDoor.V
open Go.RowKit
set_option linter.unusedVariables false
set_option linter.unusedSimpArgs false
/-- the signs of a chain -/
structure Ops (w : World) (g ob : Nat) (l : List ByteArray) : Prop where
  c : ∀ i, i < l.length → w.cell? ⟨ob, i, none⟩ = some (.string (l.getD i ⟨#[]⟩))
  b : ob < w.heap.size
  n : ¬ ob = g
  s : ∀ i, i < l.length → (l.getD i ⟨#[]⟩).size ≤ 24
  l : l.length ≤ 10
theorem Ops.chg {w w' : World} {g ob : Nat} {l : List ByteArray} (h : Ops w g ob l) (hc : Chg w w' (· = g)) : Ops w' g ob l :=
  ⟨fun i hi => ((ccell hc).1 ob i h.b h.n).trans (h.c i hi), Nat.lt_of_lt_of_le h.b hc.size, h.n, h.s, h.l⟩
theorem PB.uniq {w : World} {g : Nat} {q q' : PS} (h : PB w g q) (h' : PB w g q') : q = q' := by
  have e := h.blk.symm.trans h'.blk
  simp only [Option.some.injEq, Obj.cells.injEq, Array.mk.injEq, List.cons.injEq, Value.string.injEq, Value.int.injEq, Value.bool.injEq, true_and, and_true] at e
  obtain ⟨s, a, k, ta, tt, tn, hv, op⟩ := q
  obtain ⟨s', a', k', ta', tt', tn', hv', op'⟩ := q'
  simp only at e
  obtain ⟨e0, e1, e2, e3, e4, e5, e6, e7⟩ := e
  have e1' : a = a' := by omega
  have e3' : ta = ta' := by omega
  subst e0 e1' e2 e3' e4 e5 e6 e7
  rfl
theorem rem_next {q : PS} (hv : q.hv = true) (ht : q.tk ≠ 0) : ({ q with hv := false } : PS).rem + 1 ≤ q.rem := by
  unfold PS.rem
  simp [hv, ht]
open Classical in
noncomputable def remAt (w : World) (g : Nat) : Nat := if h : ∃ q, PB w g q then (Classical.choose h).rem else 0
theorem PB.remAt {w : World} {g : Nat} {q : PS} (h : PB w g q) : remAt w g = q.rem := by
  unfold V.remAt
  rw [dif_pos ⟨q, h⟩]
  rw [PB.uniq (Classical.choose_spec (⟨q, h⟩ : ∃ q, PB w g q)) h]
set_option maxHeartbeats 8000000 in
set_option maxRecDepth 100000 in
theorem chain_of (N kp : Nat) (kd : Int) (hkd : kd = 2 ∨ kd = 4) (hk : ∀ args w, (callFunc kp args).run Tryz.prog w = .ok (.enter kp args) w) (hp : ∀ M, M ≤ N → NodeF kp M) (g : Nat) (p : PS) (w : World) (hb : PB w g p) (hkk : POK p) (hN : p.rem ≤ N) (ob c : Nat) (l : List ByteArray) (ho : Ops w g ob l) (hc : l.length ≤ c) :
    Calls Tryz.prog 114 #[.pointer (some ⟨g, 0, none⟩), .int .i64 kd, .func (.func kp) #[.pointer (some ⟨g, 0, none⟩)] #[], .slice (some ⟨ob, 0, none⟩) l.length c] w (NodeP w g p) := by
  have hl := blk_lt hb.blk
  have hl10 := ho.l
  have W0 := Ad.mk (Way.start hb hkk)
  have HP := Ad.mk hp
  have HO := Ad.mk ho
  have HKD := Ad.mk hkd
  clear hb hkk hp ho hkd
  go_enter Tryz.func114, Tryz.ntmps114
  go_wp2_with fail
  refine wp_scope_jumps 0 (fun a' w' => ∃ (T b : Nat) (M n : Nat) (q : PS) (u4 u5 u6 u7 u10 u11 u12 u13 u14 u15 u16 u17 u18 u19 u20 u21 u22 u23 u24 u25 u26 u27 u28 u29 u30 u31 u32 u33 u34 : Value), a' = { tmps := #[.pointer (some ⟨g, 0, none⟩), .int .i64 kd, .func (.func kp) #[.pointer (some ⟨g, 0, none⟩)] #[], .slice (some ⟨ob, 0, none⟩) l.length c, u4, u5, u6, u7, .nilIface, .iface T (.pointer (some ⟨b, 0, none⟩)), u10, u11, u12, u13, u14, u15, u16, u17, u18, u19, u20, u21, u22, u23, u24, u25, u26, u27, u28, u29, u30, u31, u32, u33, u34], defers := [] } ∧ Ad (Way w g p M w' q) ∧ Ad (n ≤ M ∧ 1 ≤ n) ∧ Ad (NodeAt (fun x => w.heap.size ≤ x) w' n (.iface T (.pointer (some ⟨b, 0, none⟩)))) ∧ Ad (Z0 p → Z1 q)) (fun _ w' => remAt w' g) (by rfl) ?_ ?_
  · go_wp2_with ((with_reducible refine (HP.out N (Nat.le_refl _) g p _ W0.out.b W0.out.k hN).mono ?_); rintro e1 w1 (⟨⟨x, rfl, hc1⟩, hn⟩ | ⟨v1, q, n, rfl, hb, hk', hs, hr, h1, hn, hc1, hz⟩) <;> (try (obtain ⟨hw, hnd⟩ := W0.out.node hb hk' hs hr hc1 hn; obtain ⟨T, b, rfl⟩ := hnd.form; have WC := Ad.mk hw; have NDC := Ad.mk hnd; have HNC : Ad (n ≤ 0 + n ∧ 1 ≤ n) := (⟨by omega, h1⟩); have HZC := Ad.mk hz; clear hw hnd hb hk' hs hr h1 hn hc1 hz)))
    · exact ⟨rfl, .inl ⟨⟨x, rfl, hc1⟩, hn⟩⟩
    · go_step3
      go_wp2_with fail
      obtain ⟨M, hM⟩ : ∃ M, 0 + n = M := ⟨_, rfl⟩
      rw [hM] at WC HNC
      clear hM
      go_loopw [9, 11, 16] (fun v9 v11 v16 wr => ∃ (j : Nat) (q' : PS), j ≤ l.length ∧ v9 = .iface T (.pointer (some ⟨b, 0, none⟩)) ∧ v16 = .int .i64 j ∧ Ad (Way w g p M wr q') ∧ Ad (q'.rem ≤ q.rem) ∧ Ad (NodeAt (fun x => w.heap.size ≤ x) wr n (.iface T (.pointer (some ⟨b, 0, none⟩)))) ∧ Ad (Z0 p → Z1 q')) (fun _ _ v16 _ => l.length - (intOf v16).toNat)
      case atStart => exact ⟨0, q, by omega, rfl, rfl, WC, ⟨Nat.le_refl _⟩, NDC, HZC⟩
      case round =>
        obtain ⟨j, q1, hj, rfl, rfl, WR, HRR, NDR, HZR⟩ := hrel
        by_cases hlt : j < l.length
        · have j0 : (0 : Int) ≤ (j : Int) := by omega
          have j1 : (j : Int) < (l.length : Int) := by omega
          have o0 := (HO.out.chg WR.out.c).c j hlt
          have o1 := HO.out.s j hlt
          obtain ⟨s0, hs0⟩ : ∃ s0, l.getD j ⟨#[]⟩ = s0 := ⟨_, rfl⟩
          rw [hs0] at o0 o1
          clear hs0
          go_wp2_with (go_at_call 94; refine (is_calls g q1 kd s0 _ WR.out.b WR.out.k).mono ?_; rintro e2 w2 (⟨⟨x, rfl, hc2⟩, hz⟩ | ⟨q2, rfl, hpb, hqk, hqh, hqs, hqr, hc2, hz0, hz1⟩) <;> (try (generalize hbb : (q2.tk == kd && q2.tt.toList == s0.toList) = bb; have HBB := Ad.mk hbb; have W2 := Ad.mk (WR.out.peek hpb hqk hqs hqr hc2); have HQ2 := Ad.mk hqh; have HQR := Ad.mk hqr; have HZ2 := Ad.mk hz1; have HC2 := Ad.mk hc2; clear hpb hqk hc2 hqh hqs hqr hz0 hz1 hbb o0)))
          · exact ⟨rfl, .inl ⟨⟨x, rfl, WR.out.c.trans hc2⟩, fun h => hz.2 (HZR.out h)⟩⟩
          · subst_vars
            have h2 := HBB.out
            simp only [Bool.and_eq_true] at h2
            have htk : q2.tk = kd := by simpa using h2.1
            have htk0 : q2.tk ≠ 0 := by have := HKD.out; omega
            have HNZ : Ad (¬ Z0 p) := ⟨fun h => by
              rcases (HZ2.out (HZR.out h)).2.2 with h3 | h3
              · rw [HQ2.out] at h3; cases h3
              · omega⟩
            clear h2 htk
            go_wp2_with (go_at_call 96; refine (next_have g q2 _ W2.out.b HQ2.out).mono ?_; rintro e3 w3 ⟨rfl, hb, hc3⟩; have W3 := Ad.mk (W2.out.next HQ2.out htk0 hb hc3); have HC3 := Ad.mk hc3; clear hb hc3; unfold PS.tok)
            go_wp2_with ((with_reducible refine (HP.out N (Nat.le_refl _) g _ _ W3.out.b W3.out.k (by have := W3.out.r; omega)).mono ?_); rintro e4 w4 (⟨⟨x, rfl, hc4⟩, hn⟩ | ⟨v4, q4, n4, rfl, hb, hk', hs, hr, h1, hn, hc4, hz⟩) <;> (try (obtain ⟨hw, hnd⟩ := W3.out.node hb hk' hs hr hc4 hn; obtain ⟨T4, b4, rfl⟩ := hnd.form; have W4 := Ad.mk hw; have ND4 := Ad.mk hnd; have H14 := Ad.mk h1; have HC4 := Ad.mk hc4; have HR4 := Ad.mk hr; clear hw hnd hb hk' hs hr h1 hn hc4 hz)))
            · exact ⟨rfl, .inl ⟨⟨x, rfl, W3.out.c.trans hc4⟩, HNZ.out⟩⟩
            · go_step3
              have hB := below_alloc (Below.refl _ w4) (.cells #[.string s0, .iface T (.pointer (some ⟨b, 0, none⟩)), .iface T4 (.pointer (some ⟨b4, 0, none⟩))] 210)
              have W5 := W4.out.below hB
              have hnode : NodeAt (fun x => w.heap.size ≤ x) _ (n + n4 + 1) (.iface 208 (.pointer (some ⟨w4.heap.size, 0, none⟩))) := .binary w4.heap.size s0 _ _ n n4 W4.out.c.size (blk_new _ _) o1 (NDR.out.on hl (((HC2.out.trans HC3.out).trans HC4.out).trans (Chg.of_below hB))) (ND4.out.on hl (Chg.of_below hB))
              exact ⟨rfl, ⟨_, _, _, n + n4 + 1, q4, _, _, _, _, _, _, _, _, _, _, _, _, _, _, _, _, _, _, _, _, _, _, _, _, _, _, _, _, _, rfl, ⟨W5⟩, ⟨by have := HNC.out; omega, by omega⟩, ⟨hnode⟩, ⟨fun h => absurd h HNZ.out⟩⟩⟩
          · go_roundw
            case rel => exact ⟨j + 1, q2, by omega, rfl, by go_num, W2, ⟨Nat.le_trans HQR.out HRR.out⟩, ⟨NDR.out.on hl HC2.out⟩, ⟨fun h => HZ2.out (HZR.out h)⟩⟩
            case measure => simp [intOf]; omega
        · go_wp2_with fail
          simp only [Exit.jump]
          go_ret
          exact .inr ⟨_, q1, n, rfl, WR.out.b, WR.out.k, WR.out.s, by have h1 := WR.out.r; have h2 := HNC.out; omega, HNC.out.2, NDR.out, WR.out.c, HZR.out⟩
  · rintro a' wc ⟨T, b, M, n, q, z4, z5, z6, z7, z10, z11, z12, z13, z14, z15, z16, z17, z18, z19, z20, z21, z22, z23, z24, z25, z26, z27, z28, z29, z30, z31, z32, z33, z34, rfl, WC, HNC, NDC, HZC⟩
    go_wp2_with fail
    go_loopw [9, 11, 16] (fun v9 v11 v16 wr => ∃ (j : Nat) (q' : PS), j ≤ l.length ∧ v9 = .iface T (.pointer (some ⟨b, 0, none⟩)) ∧ v16 = .int .i64 j ∧ Ad (Way w g p M wr q') ∧ Ad (q'.rem ≤ q.rem) ∧ Ad (NodeAt (fun x => w.heap.size ≤ x) wr n (.iface T (.pointer (some ⟨b, 0, none⟩)))) ∧ Ad (Z0 p → Z1 q')) (fun _ _ v16 _ => l.length - (intOf v16).toNat)
    case atStart => exact ⟨0, q, by omega, rfl, rfl, WC, ⟨Nat.le_refl _⟩, NDC, HZC⟩
    case round =>
      obtain ⟨j, q1, hj, rfl, rfl, WR, HRR, NDR, HZR⟩ := hrel
      by_cases hlt : j < l.length
      · have j0 : (0 : Int) ≤ (j : Int) := by omega
        have j1 : (j : Int) < (l.length : Int) := by omega
        have o0 := (HO.out.chg WR.out.c).c j hlt
        have o1 := HO.out.s j hlt
        obtain ⟨s0, hs0⟩ : ∃ s0, l.getD j ⟨#[]⟩ = s0 := ⟨_, rfl⟩
        rw [hs0] at o0 o1
        clear hs0
        go_wp2_with (go_at_call 94; refine (is_calls g q1 kd s0 _ WR.out.b WR.out.k).mono ?_; rintro e2 w2 (⟨⟨x, rfl, hc2⟩, hz⟩ | ⟨q2, rfl, hpb, hqk, hqh, hqs, hqr, hc2, hz0, hz1⟩) <;> (try (generalize hbb : (q2.tk == kd && q2.tt.toList == s0.toList) = bb; have HBB := Ad.mk hbb; have W2 := Ad.mk (WR.out.peek hpb hqk hqs hqr hc2); have HQ2 := Ad.mk hqh; have HQR := Ad.mk hqr; have HZ2 := Ad.mk hz1; have HC2 := Ad.mk hc2; clear hpb hqk hc2 hqh hqs hqr hz0 hz1 hbb o0)))
        · exact ⟨rfl, .inl ⟨⟨x, rfl, WR.out.c.trans hc2⟩, fun h => hz.2 (HZR.out h)⟩⟩
        · subst_vars
          have h2 := HBB.out
          simp only [Bool.and_eq_true] at h2
          have htk : q2.tk = kd := by simpa using h2.1
          have htk0 : q2.tk ≠ 0 := by have := HKD.out; omega
          have HNZ : Ad (¬ Z0 p) := ⟨fun h => by
            rcases (HZ2.out (HZR.out h)).2.2 with h3 | h3
            · rw [HQ2.out] at h3; cases h3
            · omega⟩
          clear h2 htk
          go_wp2_with (go_at_call 96; refine (next_have g q2 _ W2.out.b HQ2.out).mono ?_; rintro e3 w3 ⟨rfl, hb, hc3⟩; have W3 := Ad.mk (W2.out.next HQ2.out htk0 hb hc3); have HC3 := Ad.mk hc3; clear hb hc3; unfold PS.tok)
          go_wp2_with ((with_reducible refine (HP.out N (Nat.le_refl _) g _ _ W3.out.b W3.out.k (by have := W3.out.r; omega)).mono ?_); rintro e4 w4 (⟨⟨x, rfl, hc4⟩, hn⟩ | ⟨v4, q4, n4, rfl, hb, hk', hs, hr, h1, hn, hc4, hz⟩) <;> (try (obtain ⟨hw, hnd⟩ := W3.out.node hb hk' hs hr hc4 hn; obtain ⟨T4, b4, rfl⟩ := hnd.form; have W4 := Ad.mk hw; have ND4 := Ad.mk hnd; have H14 := Ad.mk h1; have HC4 := Ad.mk hc4; have HR4 := Ad.mk hr; clear hw hnd hb hk' hs hr h1 hn hc4 hz)))
          · exact ⟨rfl, .inl ⟨⟨x, rfl, W3.out.c.trans hc4⟩, HNZ.out⟩⟩
          · go_step3
            have hB := below_alloc (Below.refl _ w4) (.cells #[.string s0, .iface T (.pointer (some ⟨b, 0, none⟩)), .iface T4 (.pointer (some ⟨b4, 0, none⟩))] 210)
            have W5 := W4.out.below hB
            have hnode : NodeAt (fun x => w.heap.size ≤ x) _ (n + n4 + 1) (.iface 208 (.pointer (some ⟨w4.heap.size, 0, none⟩))) := .binary w4.heap.size s0 _ _ n n4 W4.out.c.size (blk_new _ _) o1 (NDR.out.on hl (((HC2.out.trans HC3.out).trans HC4.out).trans (Chg.of_below hB))) (ND4.out.on hl (Chg.of_below hB))
            refine ⟨rfl, ⟨_, _, _, n + n4 + 1, q4, _, _, _, _, _, _, _, _, _, _, _, _, _, _, _, _, _, _, _, _, _, _, _, _, _, _, _, _, _, rfl, ⟨W5⟩, ⟨by have := HNC.out; omega, by omega⟩, ⟨hnode⟩, ⟨fun h => absurd h HNZ.out⟩⟩, ?_⟩
            rw [W5.b.remAt, WC.out.b.remAt]
            have h1 := HR4.out
            have h2 := HRR.out
            have h3 := HQR.out
            have h4 := rem_next HQ2.out htk0
            omega
        · go_roundw
          case rel => exact ⟨j + 1, q2, by omega, rfl, by go_num, W2, ⟨Nat.le_trans HQR.out HRR.out⟩, ⟨NDR.out.on hl HC2.out⟩, ⟨fun h => HZ2.out (HZR.out h)⟩⟩
          case measure => simp [intOf]; omega
      · go_wp2_with fail
        simp only [Exit.jump]
        go_ret
        exact .inr ⟨_, q1, n, rfl, WR.out.b, WR.out.k, WR.out.s, by have h1 := WR.out.r; have h2 := HNC.out; omega, HNC.out.2, NDR.out, WR.out.c, HZR.out⟩
end Go.Proofs.YtahnelihohmjfaaGreatDoor.V
namespace Go.Proofs.YtahnelihohmjfaaGreatDoor.V
open Go.RowKit
set_option linter.unusedVariables false
set_option linter.unusedSimpArgs false
set_option maxHeartbeats 4000000 in
set_option maxRecDepth 100000 in
theorem or_of (N : Nat) (hp : ∀ M, M ≤ N → NodeF 115 M) : NodeF 95 N := by
  intro g p w hb hk hN
  have hl := blk_lt hb.blk
  have W0 := Ad.mk (Way.start hb hk)
  have HP := Ad.mk hp
  have hB := below_alloc (Below.refl _ w) (.cells #[.string ⟨#[111, 114]⟩] 9)
  have HO : Ad (Ops (w.alloc (.cells #[.string ⟨#[111, 114]⟩] 9)) g w.heap.size [⟨#[111, 114]⟩]) := ⟨⟨fun i hi => by
    have hx := blk_cell (blk_new w (.cells #[.string ⟨#[111, 114]⟩] 9)) i
    match i, hi with | 0, _ => exact hx, by simp, by omega, fun i hi => by match i, hi with | 0, _ => decide, by decide⟩⟩
  have hmf : ∀ (fn : Fn) (first cap : Array Value) (w : World), (Instr.makeFunc fn first cap).run Tryz.prog w = .ok (.func fn first cap) w := fun _ _ _ _ => rfl
  have HB := Ad.mk hB
  clear hb hk hp hB
  go_enter Tryz.func95, Tryz.ntmps95
  go_wp2_with (go_at_call 114; refine (chain_of N 115 2 (by decide) (enters Tryz.func115 (by kernel_rfl) (by kernel_rfl)) HP.out g p _ (W0.out.below HB.out).b (W0.out.below HB.out).k hN w.heap.size 1 [⟨#[111, 114]⟩] HO.out (by decide)).mono ?_; rintro e1 w1 (⟨⟨x, rfl, hc⟩, hn⟩ | ⟨v1, q1, n1, rfl, hb, hk, hs, hr, h1, hn, hc, hz⟩) <;> (try (obtain ⟨hw, hnd⟩ := (W0.out.below HB.out).node hb hk hs hr hc hn; obtain ⟨T1, b1, rfl⟩ := hnd.form; have W1 := Ad.mk hw; have ND1 := Ad.mk hnd; have H11 := Ad.mk h1; have HZN1 := Ad.mk hz; clear hw hnd hb hk hs hr h1 hn hc hz)))
  · exact ⟨rfl, .inl ⟨⟨x, rfl, (Chg.of_below HB.out).trans hc⟩, hn⟩⟩
  · go_ret
    exact .inr ⟨_, q1, n1, rfl, W1.out.b, W1.out.k, W1.out.s, by have := W1.out.r; omega, H11.out, ND1.out, W1.out.c, HZN1.out⟩
set_option maxHeartbeats 4000000 in
set_option maxRecDepth 100000 in
theorem and_of (N : Nat) (hp : ∀ M, M ≤ N → NodeF 132 M) : NodeF 115 N := by
  intro g p w hb hk hN
  have hl := blk_lt hb.blk
  have W0 := Ad.mk (Way.start hb hk)
  have HP := Ad.mk hp
  have hB := below_alloc (Below.refl _ w) (.cells #[.string ⟨#[97, 110, 100]⟩] 9)
  have HO : Ad (Ops (w.alloc (.cells #[.string ⟨#[97, 110, 100]⟩] 9)) g w.heap.size [⟨#[97, 110, 100]⟩]) := ⟨⟨fun i hi => by
    have hx := blk_cell (blk_new w (.cells #[.string ⟨#[97, 110, 100]⟩] 9)) i
    match i, hi with | 0, _ => exact hx, by simp, by omega, fun i hi => by match i, hi with | 0, _ => decide, by decide⟩⟩
  have hmf : ∀ (fn : Fn) (first cap : Array Value) (w : World), (Instr.makeFunc fn first cap).run Tryz.prog w = .ok (.func fn first cap) w := fun _ _ _ _ => rfl
  have HB := Ad.mk hB
  clear hb hk hp hB
  go_enter Tryz.func115, Tryz.ntmps115
  go_wp2_with (go_at_call 114; refine (chain_of N 132 2 (by decide) (enters Tryz.func132 (by kernel_rfl) (by kernel_rfl)) HP.out g p _ (W0.out.below HB.out).b (W0.out.below HB.out).k hN w.heap.size 1 [⟨#[97, 110, 100]⟩] HO.out (by decide)).mono ?_; rintro e1 w1 (⟨⟨x, rfl, hc⟩, hn⟩ | ⟨v1, q1, n1, rfl, hb, hk, hs, hr, h1, hn, hc, hz⟩) <;> (try (obtain ⟨hw, hnd⟩ := (W0.out.below HB.out).node hb hk hs hr hc hn; obtain ⟨T1, b1, rfl⟩ := hnd.form; have W1 := Ad.mk hw; have ND1 := Ad.mk hnd; have H11 := Ad.mk h1; have HZN1 := Ad.mk hz; clear hw hnd hb hk hs hr h1 hn hc hz)))
  · exact ⟨rfl, .inl ⟨⟨x, rfl, (Chg.of_below HB.out).trans hc⟩, hn⟩⟩
  · go_ret
    exact .inr ⟨_, q1, n1, rfl, W1.out.b, W1.out.k, W1.out.s, by have := W1.out.r; omega, H11.out, ND1.out, W1.out.c, HZN1.out⟩
set_option maxHeartbeats 4000000 in
set_option maxRecDepth 100000 in
theorem sum_of (N : Nat) (hp : ∀ M, M ≤ N → NodeF 176 M) : NodeF 155 N := by
  intro g p w hb hk hN
  have hl := blk_lt hb.blk
  have W0 := Ad.mk (Way.start hb hk)
  have HP := Ad.mk hp
  have hB := below_alloc (Below.refl _ w) (.cells #[.string ⟨#[43]⟩, .string ⟨#[45]⟩] 9)
  have HO : Ad (Ops (w.alloc (.cells #[.string ⟨#[43]⟩, .string ⟨#[45]⟩] 9)) g w.heap.size [⟨#[43]⟩, ⟨#[45]⟩]) := ⟨⟨fun i hi => by
    have hx := blk_cell (blk_new w (.cells #[.string ⟨#[43]⟩, .string ⟨#[45]⟩] 9)) i
    match i, hi with | 0, _ => exact hx | 1, _ => exact hx, by simp, by omega, fun i hi => by match i, hi with | 0, _ => decide | 1, _ => decide, by decide⟩⟩
  have hmf : ∀ (fn : Fn) (first cap : Array Value) (w : World), (Instr.makeFunc fn first cap).run Tryz.prog w = .ok (.func fn first cap) w := fun _ _ _ _ => rfl
  have HB := Ad.mk hB
  clear hb hk hp hB
  go_enter Tryz.func155, Tryz.ntmps155
  go_wp2_with (go_at_call 114; refine (chain_of N 176 4 (by decide) (enters Tryz.func176 (by kernel_rfl) (by kernel_rfl)) HP.out g p _ (W0.out.below HB.out).b (W0.out.below HB.out).k hN w.heap.size 2 [⟨#[43]⟩, ⟨#[45]⟩] HO.out (by decide)).mono ?_; rintro e1 w1 (⟨⟨x, rfl, hc⟩, hn⟩ | ⟨v1, q1, n1, rfl, hb, hk, hs, hr, h1, hn, hc, hz⟩) <;> (try (obtain ⟨hw, hnd⟩ := (W0.out.below HB.out).node hb hk hs hr hc hn; obtain ⟨T1, b1, rfl⟩ := hnd.form; have W1 := Ad.mk hw; have ND1 := Ad.mk hnd; have H11 := Ad.mk h1; have HZN1 := Ad.mk hz; clear hw hnd hb hk hs hr h1 hn hc hz)))
  · exact ⟨rfl, .inl ⟨⟨x, rfl, (Chg.of_below HB.out).trans hc⟩, hn⟩⟩
  · go_ret
    exact .inr ⟨_, q1, n1, rfl, W1.out.b, W1.out.k, W1.out.s, by have := W1.out.r; omega, H11.out, ND1.out, W1.out.c, HZN1.out⟩
set_option maxHeartbeats 4000000 in
set_option maxRecDepth 100000 in
theorem term_of (N : Nat) (hp : ∀ M, M ≤ N → NodeF 194 M) : NodeF 176 N := by
  intro g p w hb hk hN
  have hl := blk_lt hb.blk
  have W0 := Ad.mk (Way.start hb hk)
  have HP := Ad.mk hp
  have hB := below_alloc (Below.refl _ w) (.cells #[.string ⟨#[42]⟩, .string ⟨#[47]⟩, .string ⟨#[37]⟩] 9)
  have HO : Ad (Ops (w.alloc (.cells #[.string ⟨#[42]⟩, .string ⟨#[47]⟩, .string ⟨#[37]⟩] 9)) g w.heap.size [⟨#[42]⟩, ⟨#[47]⟩, ⟨#[37]⟩]) := ⟨⟨fun i hi => by
    have hx := blk_cell (blk_new w (.cells #[.string ⟨#[42]⟩, .string ⟨#[47]⟩, .string ⟨#[37]⟩] 9)) i
    match i, hi with | 0, _ => exact hx | 1, _ => exact hx | 2, _ => exact hx, by simp, by omega, fun i hi => by match i, hi with | 0, _ => decide | 1, _ => decide | 2, _ => decide, by decide⟩⟩
  have hmf : ∀ (fn : Fn) (first cap : Array Value) (w : World), (Instr.makeFunc fn first cap).run Tryz.prog w = .ok (.func fn first cap) w := fun _ _ _ _ => rfl
  have HB := Ad.mk hB
  clear hb hk hp hB
  go_enter Tryz.func176, Tryz.ntmps176
  go_wp2_with (go_at_call 114; refine (chain_of N 194 4 (by decide) (enters Tryz.func194 (by kernel_rfl) (by kernel_rfl)) HP.out g p _ (W0.out.below HB.out).b (W0.out.below HB.out).k hN w.heap.size 3 [⟨#[42]⟩, ⟨#[47]⟩, ⟨#[37]⟩] HO.out (by decide)).mono ?_; rintro e1 w1 (⟨⟨x, rfl, hc⟩, hn⟩ | ⟨v1, q1, n1, rfl, hb, hk, hs, hr, h1, hn, hc, hz⟩) <;> (try (obtain ⟨hw, hnd⟩ := (W0.out.below HB.out).node hb hk hs hr hc hn; obtain ⟨T1, b1, rfl⟩ := hnd.form; have W1 := Ad.mk hw; have ND1 := Ad.mk hnd; have H11 := Ad.mk h1; have HZN1 := Ad.mk hz; clear hw hnd hb hk hs hr h1 hn hc hz)))
  · exact ⟨rfl, .inl ⟨⟨x, rfl, (Chg.of_below HB.out).trans hc⟩, hn⟩⟩
  · go_ret
    exact .inr ⟨_, q1, n1, rfl, W1.out.b, W1.out.k, W1.out.s, by have := W1.out.r; omega, H11.out, ND1.out, W1.out.c, HZN1.out⟩
end Go.Proofs.YtahnelihohmjfaaGreatDoor.V
namespace Go.Proofs.YtahnelihohmjfaaGreatDoor.V
open Go.RowKit
set_option linter.unusedVariables false
set_option linter.unusedSimpArgs false
def cmpL : List ByteArray := [⟨#[61, 61]⟩, ⟨#[33, 61]⟩, ⟨#[60]⟩, ⟨#[60, 61]⟩, ⟨#[62]⟩, ⟨#[62, 61]⟩]
set_option maxHeartbeats 8000000 in
set_option maxRecDepth 100000 in
theorem cmp_of (N : Nat) (hp : ∀ M, M ≤ N → NodeF 155 M) : NodeF 144 N := by
  intro g p w hb hk hN
  have hl := blk_lt hb.blk
  have W0 := Ad.mk (Way.start hb hk)
  have HP := Ad.mk hp
  clear hb hk hp
  go_enter Tryz.func144, Tryz.ntmps144
  go_wp2_with (go_at_call 155; refine (HP.out N (Nat.le_refl _) g p _ W0.out.b W0.out.k hN).mono ?_; rintro e1 w1 (⟨⟨x, rfl, hc⟩, hn⟩ | ⟨v1, q, n, rfl, hb, hk, hs, hr, h1, hn, hc, hz⟩) <;> (try (obtain ⟨hw, hnd⟩ := W0.out.node hb hk hs hr hc hn; obtain ⟨T, b, rfl⟩ := hnd.form; have W1 := Ad.mk hw; have ND1 := Ad.mk hnd; have HNC : Ad (n ≤ 0 + n ∧ 1 ≤ n) := (⟨by omega, h1⟩); have HZC := Ad.mk hz; clear hw hnd hb hk hs hr h1 hn hc hz)))
  · exact ⟨rfl, .inl ⟨⟨x, rfl, hc⟩, hn⟩⟩
  · have hB := below_alloc (Below.refl _ w1) (.cells #[.string ⟨#[61, 61]⟩, .string ⟨#[33, 61]⟩, .string ⟨#[60]⟩, .string ⟨#[60, 61]⟩, .string ⟨#[62]⟩, .string ⟨#[62, 61]⟩] 9)
    have hgw := Nat.lt_of_lt_of_le hl W1.out.c.size
    have HO : Ad (Ops (w1.alloc (.cells #[.string ⟨#[61, 61]⟩, .string ⟨#[33, 61]⟩, .string ⟨#[60]⟩, .string ⟨#[60, 61]⟩, .string ⟨#[62]⟩, .string ⟨#[62, 61]⟩] 9)) g w1.heap.size cmpL) := ⟨⟨fun i hi => by
      have hx := blk_cell (blk_new w1 (.cells #[.string ⟨#[61, 61]⟩, .string ⟨#[33, 61]⟩, .string ⟨#[60]⟩, .string ⟨#[60, 61]⟩, .string ⟨#[62]⟩, .string ⟨#[62, 61]⟩] 9)) i
      match i, hi with | 0, _ => exact hx | 1, _ => exact hx | 2, _ => exact hx | 3, _ => exact hx | 4, _ => exact hx | 5, _ => exact hx, by simp, by omega, fun i hi => by match i, hi with | 0, _ => decide | 1, _ => decide | 2, _ => decide | 3, _ => decide | 4, _ => decide | 5, _ => decide, by decide⟩⟩
    have WC := Ad.mk (W1.out.below hB)
    have NDC := Ad.mk (ND1.out.on hl (Chg.of_below (S := (· = g)) hB))
    have HB := Ad.mk hB
    obtain ⟨M, hM⟩ : ∃ M, 0 + n = M := ⟨_, rfl⟩
    rw [hM] at WC HNC
    clear hM hB
    go_wp2_with fail
    obtain ⟨wB, hwB⟩ : ∃ wB, w1.alloc (.cells #[.string ⟨#[61, 61]⟩, .string ⟨#[33, 61]⟩, .string ⟨#[60]⟩, .string ⟨#[60, 61]⟩, .string ⟨#[62]⟩, .string ⟨#[62, 61]⟩] 9) = wB := ⟨_, rfl⟩
    rw [hwB] at WC NDC HO ⊢
    clear HB hwB
    go_loopw [5, 10] (fun v5 v10 wr => ∃ (j : Nat) (q' : PS), j ≤ 6 ∧ v10 = .int .i64 j ∧ Ad (Way w g p M wr q') ∧ Ad (q'.rem ≤ q.rem) ∧ Ad (NodeAt (fun x => w.heap.size ≤ x) wr n (.iface T (.pointer (some ⟨b, 0, none⟩)))) ∧ Ad (Z0 p → Z1 q') ∧ Ad (Chg wB wr (· = g))) (fun _ v10 _ => 6 - (intOf v10).toNat)
    case atStart => exact ⟨0, q, by omega, rfl, WC, ⟨Nat.le_refl _⟩, NDC, HZC, ⟨Chg.refl _ _⟩⟩
    case round =>
      obtain ⟨j, q1, hj, rfl, WR, HRR, NDR, HZR, HCB⟩ := hrel
      by_cases hlt : j < 6
      · have j0 : (0 : Int) ≤ (j : Int) := by omega
        have j1 : (j : Int) < 6 := by omega
        have o0 := (HO.out.chg HCB.out).c j hlt
        have o1 := HO.out.s j hlt
        obtain ⟨s0, hs0⟩ : ∃ s0, cmpL.getD j ⟨#[]⟩ = s0 := ⟨_, rfl⟩
        rw [hs0] at o0 o1
        clear hs0
        go_wp2_with (go_at_call 94; refine (is_calls g q1 4 s0 _ WR.out.b WR.out.k).mono ?_; rintro e2 w2 (⟨⟨x, rfl, hc2⟩, hz⟩ | ⟨q2, rfl, hpb, hqk, hqh, hqs, hqr, hc2, hz0, hz1⟩) <;> (try (generalize hbb : (q2.tk == 4 && q2.tt.toList == s0.toList) = bb; have HBB := Ad.mk hbb; have W2 := Ad.mk (WR.out.peek hpb hqk hqs hqr hc2); have HQ2 := Ad.mk hqh; have HQR := Ad.mk hqr; have HZ2 := Ad.mk hz1; have HC2 := Ad.mk hc2; clear hpb hqk hc2 hqh hqs hqr hz0 hz1 hbb o0)))
        · exact ⟨rfl, .inl ⟨⟨x, rfl, WR.out.c.trans hc2⟩, fun h => hz.2 (HZR.out h)⟩⟩
        · subst_vars
          have h2 := HBB.out
          simp only [Bool.and_eq_true] at h2
          have htk : q2.tk = 4 := by simpa using h2.1
          have htk0 : q2.tk ≠ 0 := by omega
          have HNZ : Ad (¬ Z0 p) := ⟨fun h => by
            rcases (HZ2.out (HZR.out h)).2.2 with h3 | h3
            · rw [HQ2.out] at h3; cases h3
            · omega⟩
          clear h2 htk
          go_wp2_with (go_at_call 96; refine (next_have g q2 _ W2.out.b HQ2.out).mono ?_; rintro e3 w3 ⟨rfl, hb, hc3⟩; have W3 := Ad.mk (W2.out.next HQ2.out htk0 hb hc3); have HC3 := Ad.mk hc3; clear hb hc3; unfold PS.tok)
          go_wp2_with (go_at_call 155; (with_reducible refine (HP.out N (Nat.le_refl _) g _ _ W3.out.b W3.out.k (by have := W3.out.r; omega)).mono ?_); rintro e4 w4 (⟨⟨x, rfl, hc4⟩, hn⟩ | ⟨v4, q4, n4, rfl, hb, hk', hs, hr, h1, hn, hc4, hz⟩) <;> (try (obtain ⟨hw, hnd⟩ := W3.out.node hb hk' hs hr hc4 hn; obtain ⟨T4, b4, rfl⟩ := hnd.form; have W4 := Ad.mk hw; have ND4 := Ad.mk hnd; have H14 := Ad.mk h1; have HC4 := Ad.mk hc4; have HR4 := Ad.mk hr; clear hw hnd hb hk' hs hr h1 hn hc4 hz)))
          · exact ⟨rfl, .inl ⟨⟨x, rfl, W3.out.c.trans hc4⟩, HNZ.out⟩⟩
          · go_ret
            have hB := below_alloc (Below.refl _ w4) (.cells #[.string s0, .iface T (.pointer (some ⟨b, 0, none⟩)), .iface T4 (.pointer (some ⟨b4, 0, none⟩))] 210)
            have W5 := W4.out.below hB
            exact .inr ⟨_, q4, n + n4 + 1, rfl, W5.b, W5.k, W5.s, by have h5 := W5.r; have h6 := HNC.out; omega, by omega, .binary w4.heap.size s0 _ _ n n4 W4.out.c.size (blk_new _ _) o1 (NDR.out.on hl (((HC2.out.trans HC3.out).trans HC4.out).trans (Chg.of_below hB))) (ND4.out.on hl (Chg.of_below hB)), W5.c, fun h => absurd h HNZ.out⟩
        · go_roundw
          case rel => exact ⟨j + 1, q2, by omega, by go_num, W2, ⟨Nat.le_trans HQR.out HRR.out⟩, ⟨NDR.out.on hl HC2.out⟩, ⟨fun h => HZ2.out (HZR.out h)⟩, ⟨HCB.out.trans HC2.out⟩⟩
          case measure => simp [intOf]; omega
      · go_wp2_with fail
        go_ret
        exact .inr ⟨_, q1, n, rfl, WR.out.b, WR.out.k, WR.out.s, by have h1 := WR.out.r; have h2 := HNC.out; omega, HNC.out.2, NDR.out, WR.out.c, HZR.out⟩
end Go.Proofs.YtahnelihohmjfaaGreatDoor.V
namespace Go.Proofs.YtahnelihohmjfaaGreatDoor.V
open Go.RowKit
set_option linter.unusedVariables false
set_option linter.unusedSimpArgs false
set_option maxHeartbeats 4000000 in
theorem is_have (g : Nat) (p : PS) (k : Int) (s : ByteArray) (w : World) (hb : PB w g p) (hv : p.hv = true) : Calls Tryz.prog 94 #[.pointer (some ⟨g, 0, none⟩), .int .i64 k, .string s] w (Ret w (.bool (p.tk == k && p.tt.toList == s.toList))) := by
  have HB := Ad.mk hb
  clear hb
  go_enter Tryz.func94, Tryz.ntmps94
  go_wp2_with (go_at_call 79; refine (peek_have g p _ HB.out hv).mono ?_; rintro e1 w1 ⟨rfl, hb1⟩; have HB1 := Ad.mk hb1; clear hb1; unfold PS.tok)
  · have e : (p.tk == k && p.tt.toList == s.toList) = (p.tt.toList == s.toList) := by simp [‹p.tk = k›]
    go_ret
    exact ⟨by rw [e]; rfl, below_then HB1.out (below_alloc (Below.refl _ _) _)⟩
  · have e : (p.tk == k && p.tt.toList == s.toList) = false := by simp [‹¬p.tk = k›]
    go_ret
    exact ⟨by rw [e]; rfl, below_then HB1.out (below_alloc (Below.refl _ _) _)⟩
/-- a call of the language is read -/
abbrev CallF (N : Nat) : Prop := ∀ (g : Nat) (p : PS) (w : World), PB w g p → POK p → p.hv = true → p.tk ≠ 0 → ¬ Z0 p → p.rem ≤ N → ∀ (s : ByteArray) (n : Int) (f : Value), BiOK s n f → Calls Tryz.prog 214 #[.pointer (some ⟨g, 0, none⟩), .agg #[.string s, .int .i64 n, f]] w (NodeP w g p)
/-- a list of the language is read -/
abbrev ListF (N : Nat) : Prop := ∀ (g : Nat) (p : PS) (w : World), PB w g p → POK p → ¬ Z0 p → p.rem ≤ N → Calls Tryz.prog 213 #[.pointer (some ⟨g, 0, none⟩)] w (NodeP w g p)
theorem words_size (j : Nat) (h : j < 11) : (wordsL.getD j ⟨#[]⟩).size ≤ 24 := by
  have hj : j = 0 ∨ j = 1 ∨ j = 2 ∨ j = 3 ∨ j = 4 ∨ j = 5 ∨ j = 6 ∨ j = 7 ∨ j = 8 ∨ j = 9 ∨ j = 10 := by omega
  rcases hj with rfl | rfl | rfl | rfl | rfl | rfl | rfl | rfl | rfl | rfl | rfl
  all_goals decide
set_option maxHeartbeats 8000000 in
set_option maxRecDepth 100000 in
theorem atom_of (N : Nat) (hex : ∀ M, M < N → NodeF 78 M) (hli : ListF N) (hca : CallF N) : NodeF 203 N := by
  intro g p w hb hk hN
  have hl := blk_lt hb.blk
  have W0 := Ad.mk (Way.start hb hk)
  have HEX := Ad.mk hex
  have HLI := Ad.mk hli
  have HCA := Ad.mk hca
  clear hb hk hex hli hca
  go_enter Tryz.func203, Tryz.ntmps203
  go_wp2_with (go_at_call 79; refine (peek_calls g p _ W0.out.b W0.out.k).mono ?_; rintro e1 w1 (⟨⟨x, rfl, hc⟩, hz⟩ | ⟨q, rfl, hpb, hqk, hqh, hqs, hqr, hc, hz0, hz1⟩) <;> (try (have W1 := Ad.mk (W0.out.peek hpb hqk hqs hqr hc); have HQ1 := Ad.mk hqh; have HZ1 := Ad.mk hz0; have HB2 := Ad.mk (below_alloc (Below.refl _ w1) (.cells #[.int .i64 q.tk, .int .i64 q.ta, .string q.tt, .int .i64 q.tn] 177)); have HX := Ad.mk (blk_new w1 (.cells #[.int .i64 q.tk, .int .i64 q.ta, .string q.tt, .int .i64 q.tn] 177)); clear hpb hqk hc hqh hqs hqr hz0 hz1; unfold PS.tok)))
  · exact ⟨rfl, .inl ⟨⟨x, rfl, hc⟩, hz.1⟩⟩
  · have htk : q.tk = 1 := by simpa using ‹(q.tk == 1) = true›
    have htk0 : q.tk ≠ 0 := by omega
    have WA := Ad.mk (W1.out.below HB2.out)
    have nb : ¬ w1.heap.size = g := by have := blk_lt W1.out.b.blk; omega
    go_wp2_with (go_at_call 96; refine (next_have g q _ WA.out.b HQ1.out).mono ?_; rintro e2 w2 ⟨rfl, hb, hc⟩; have W2 := Ad.mk (WA.out.next HQ1.out htk0 hb hc); have hx2 := (hc.block w1.heap.size (blk_lt HX.out) nb).trans HX.out; have y3 := blk_cell hx2 3; have yl := blk_lt hx2; simp at y3; have HB := Ad.mk hb; clear hb hc hx2; unfold PS.tok)
    go_ret
    have hB := below_alloc (Below.refl _ w2) (.cells #[.int .i64 q.tn] 195)
    have W3 := W2.out.below hB
    exact .inr ⟨_, _, 1, rfl, W3.b, W3.k, W3.s, by have := W3.r; omega, by omega, .number w2.heap.size _ W2.out.c.size (blk_new _ _) W1.out.k.tn, W3.c, fun h => by
      have h1 := HZ1.out h
      refine ⟨h1.1, ?_, .inl rfl⟩
      rcases h1.2 with h2 | h2
      · rw [HQ1.out] at h2; cases h2.1
      · exact h2.2.1⟩
  · have htk : q.tk = 3 := by simpa using ‹(q.tk == 3) = true›
    have htk0 : q.tk ≠ 0 := by omega
    have HNZ : Ad (¬ Z0 p) := ⟨fun h => by
      rcases (HZ1.out h).2 with h3 | h3
      · rw [HQ1.out] at h3; cases h3.1
      · omega⟩
    have WA := Ad.mk (W1.out.below HB2.out)
    have nb : ¬ w1.heap.size = g := by have := blk_lt W1.out.b.blk; omega
    go_wp2_with (go_at_call 96; refine (next_have g q _ WA.out.b HQ1.out).mono ?_; rintro e2 w2 ⟨rfl, hb, hc⟩; have W2 := Ad.mk (WA.out.next HQ1.out htk0 hb hc); have hx2 := (hc.block w1.heap.size (blk_lt HX.out) nb).trans HX.out; have y2 := blk_cell hx2 2; have yl := blk_lt hx2; simp at y2; clear hb hc hx2; unfold PS.tok)
    go_ret
    have hB := below_alloc (Below.refl _ w2) (.cells #[.string q.tt] 201)
    have W3 := W2.out.below hB
    exact .inr ⟨_, _, 1, rfl, W3.b, W3.k, W3.s, by have := W3.r; omega, by omega, .quote w2.heap.size _ W2.out.c.size (blk_new _ _) (W1.out.k.quo htk), W3.c, fun h => absurd h HNZ.out⟩
  · have hn1 : (q.tk == 1) = false := by with_reducible assumption
    have HNZ : Ad (¬ Z0 p) := ⟨fun h => by
      rcases (HZ1.out h).2 with h3 | h3
      · rw [HQ1.out] at h3; cases h3.1
      · simp [h3.2.2] at hn1⟩
    have WA := Ad.mk (W1.out.below HB2.out)
    have nb : ¬ w1.heap.size = g := by have := blk_lt W1.out.b.blk; omega
    have nb' : ¬ g = w1.heap.size := by have := blk_lt W1.out.b.blk; omega
    go_at_call 94
    refine (is_have g q 4 ⟨#[40]⟩ _ WA.out.b HQ1.out).mono ?_
    rintro e2 w2 ⟨rfl, hb2⟩
    generalize hbb : (q.tk == 4 && q.tt.toList == (⟨#[40]⟩ : ByteArray).toList) = bb
    have W2 := Ad.mk (WA.out.below hb2)
    have X2 := Ad.mk (blk_below HX.out hb2)
    clear hb2 hbb
    go_wp2_with fail
    · subst_vars
      go_wp2_with (go_at_call 97; refine (want_calls g q 4 ⟨#[40]⟩ _ W2.out.b W2.out.k (by decide)).mono ?_; rintro e3 w3 (⟨x, rfl, hc⟩ | ⟨q3, rfl, hb, hk, hh, hs, hr, hc⟩) <;> (try (have W3 := Ad.mk (W2.out.want hb hk hs hr hc); have HC3 := Ad.mk hc; clear hb hk hh hs hr hc)))
      · exact ⟨rfl, .inl ⟨⟨x, rfl, W2.out.c.trans hc⟩, HNZ.out⟩⟩
      · go_wp2_with (go_at_call 78; refine (HEX.out _ (by have := W3.out.r; omega) g _ _ W3.out.b W3.out.k (Nat.le_refl _)).mono ?_; rintro e4 w4 (⟨⟨x, rfl, hc⟩, hn⟩ | ⟨v1, q4, n1, rfl, hb, hk, hs, hr, h1, hn, hc, hz⟩) <;> (try (obtain ⟨hw, hnd⟩ := W3.out.node hb hk hs hr hc hn; obtain ⟨T4, b4, rfl⟩ := hnd.form; have W4 := Ad.mk hw; have ND1 := Ad.mk hnd; have H11 := Ad.mk h1; have HC4 := Ad.mk hc; have HZN4 := Ad.mk hz; clear hw hnd hb hk hs hr h1 hn hc hz)))
        · exact ⟨rfl, .inl ⟨⟨x, rfl, W3.out.c.trans hc⟩, HNZ.out⟩⟩
        · go_wp2_with (go_at_call 97; refine (want_calls g q4 4 ⟨#[41]⟩ _ W4.out.b W4.out.k (by decide)).mono ?_; rintro e5 w5 (⟨x, rfl, hc⟩ | ⟨q5, rfl, hb, hk, hh, hs, hr, hc⟩) <;> (try (have W5 := Ad.mk (W4.out.want hb hk hs hr hc); have HC5 := Ad.mk hc; clear hb hk hh hs hr hc)))
          · exact ⟨rfl, .inl ⟨⟨x, rfl, W4.out.c.trans hc⟩, HNZ.out⟩⟩
          · go_ret
            exact .inr ⟨_, q5, n1, rfl, W5.out.b, W5.out.k, W5.out.s, by have := W5.out.r; omega, H11.out, ND1.out.on hl HC5.out, W5.out.c, fun h => absurd h HNZ.out⟩
    · subst_vars
      go_at_call 94
      refine (is_have g q 4 ⟨#[91]⟩ _ W2.out.b HQ1.out).mono ?_
      rintro e3 w3 ⟨rfl, hb3⟩
      generalize hbb : (q.tk == 4 && q.tt.toList == (⟨#[91]⟩ : ByteArray).toList) = bb
      have W3 := Ad.mk (W2.out.below hb3)
      have X3 := Ad.mk (blk_below X2.out hb3)
      have y0 := blk_cell X3.out 0
      have y1 := blk_cell X3.out 1
      have y2 := blk_cell X3.out 2
      simp at y0 y1 y2
      have yl := blk_lt X3.out
      clear hb3 hbb
      go_wp2_with fail
      · subst_vars
        go_wp2_with (go_at_call 213; refine (HLI.out g q _ W3.out.b W3.out.k (fun h => by rcases h.2 with h3 | h3; (rw [HQ1.out] at h3; cases h3.1); simp [h3.2.2] at hn1) (by have := W3.out.r; omega)).mono ?_; rintro e4 w4 (⟨⟨x, rfl, hc⟩, hn⟩ | ⟨v1, q4, n1, rfl, hb, hk, hs, hr, h1, hn, hc, hz⟩) <;> (try (obtain ⟨hw, hnd⟩ := W3.out.node hb hk hs hr hc hn; obtain ⟨T4, b4, rfl⟩ := hnd.form; have W4 := Ad.mk hw; have ND1 := Ad.mk hnd; have H11 := Ad.mk h1; have HC4 := Ad.mk hc; have HZN4 := Ad.mk hz; clear hw hnd hb hk hs hr h1 hn hc hz)))
        · exact ⟨rfl, .inl ⟨⟨x, rfl, W3.out.c.trans hc⟩, HNZ.out⟩⟩
        · go_ret
          exact .inr ⟨_, q4, n1, rfl, W4.out.b, W4.out.k, W4.out.s, by have := W4.out.r; omega, H11.out, ND1.out, W4.out.c, fun h => absurd h HNZ.out⟩
      · have htk : q.tk = 2 := by simpa using ‹(q.tk == 2) = true›
        have htk0 : q.tk ≠ 0 := by omega
        have HNQ : Ad (¬ Z0 q) := ⟨fun h => by
          rcases h.2 with h3 | h3
          · rw [HQ1.out] at h3; cases h3.1
          · omega⟩
        go_at_call 133
        refine (find_calls _ _).mono ?_
        rintro e4 w4 ⟨s1, m1, f1, b1, rfl, hb4, hst1, hok1⟩
        have W4 := Ad.mk (W3.out.below hb4)
        have X4 := Ad.mk (blk_below X3.out hb4)
        have z1 := blk_cell X4.out 1
        have z2 := blk_cell X4.out 2
        simp at z1 z2
        have zl := blk_lt X4.out
        have HOK := Ad.mk hok1
        clear hb4 hok1 y0 y1 y2 yl
        have hB := below_alloc (Below.refl _ w4) (.cells #[.string s1, .int .i64 m1, f1] 222)
        have W5 := Ad.mk (W4.out.below hB)
        clear hB
        go_wp2_with fail
        · go_at_call 214
          refine (HCA.out g q _ W5.out.b W5.out.k HQ1.out htk0 HNQ.out (by have := W5.out.r; omega) s1 m1 f1 (HOK.out (by with_reducible assumption))).mono ?_
          rintro e6 w6 (⟨⟨x, rfl, hc⟩, hn⟩ | ⟨v, q6, n1, rfl, hb, hk, hs, hr, h1, hn, hc, hz⟩)
          · exact ⟨rfl, .inl ⟨⟨x, rfl, W5.out.c.trans hc⟩, HNZ.out⟩⟩
          · obtain ⟨hw, hnd⟩ := W5.out.node hb hk hs hr hc hn
            have W6 := Ad.mk hw
            have ND1 := Ad.mk hnd
            have H11 := Ad.mk h1
            clear hw hnd hb hk hs hr h1 hn hc hz
            go_wp2_with fail
            go_ret
            exact .inr ⟨_, q6, n1, rfl, W6.out.b, W6.out.k, W6.out.s, by have := W6.out.r; omega, H11.out, ND1.out, W6.out.c, fun h => absurd h HNZ.out⟩
        · have X5 := Ad.mk (blk_alloc X4.out (.cells #[.string s1, .int .i64 m1, f1] 222))
          generalize w4.alloc (.cells #[.string s1, .int .i64 m1, f1] 222) = wC at W5 X5 ⊢
          clear z1 z2 zl
          go_loopw [7, 61] (fun v7 v61 wr => ∃ j : Nat, j ≤ 5 ∧ v61 = .int .i64 j ∧ Ad (Below wC.heap.size wC wr)) (fun _ v61 _ => 5 - (intOf v61).toNat)
          case atStart => exact ⟨0, by omega, rfl, ⟨Below.refl _ _⟩⟩
          case round =>
            obtain ⟨j, hj, rfl, HB5⟩ := hrel
            have W6 := Ad.mk (W5.out.below HB5.out)
            have X6 := Ad.mk (blk_below X5.out HB5.out)
            have z1 := blk_cell X6.out 1
            have z2 := blk_cell X6.out 2
            simp at z1 z2
            have zl := blk_lt X6.out
            by_cases hlt : j < 5
            · have k0 : (0 : Int) ≤ (j : Int) := by omega
              have k1 : (j : Int) < 5 := by omega
              have k2 : (j : Int) < 11 := by omega
              have wj := W6.out.b.gv.gv.words j (by omega)
              have ws := words_size j (by omega)
              generalize wordsL.getD j ⟨#[]⟩ = s0 at wj ws
              have hg2 : 2 < g := by obtain ⟨w0, h0, h1, h2⟩ := W6.out.b.gv; have := World.block_lt_of_cell? _ _ (h0.words 0 (by omega)); simp at this; omega
              have ng2 : ¬ 2 = g := by omega
              go_wp2_with fail
              go_quiet (fail)
              go_wp2_with fail
              · go_at_call 96
                refine (next_have g q _ (W6.out.b.drewN nq) HQ1.out).mono ?_
                rintro e7 w7 ⟨rfl, hb, hc⟩
                have W7 := Ad.mk ((W6.out.below (below_drewN nq)).next HQ1.out htk0 hb hc)
                have wj7 : w7.cell? ⟨2, j, none⟩ = some (.string s0) := ((ccell hc).1 2 j (World.block_lt_of_cell? _ _ wj) ng2).trans wj
                clear hb hc wj z1 z2 zl
                unfold PS.tok
                go_wp2_with fail
                go_ret
                have hB := below_alloc (Below.refl _ w7) (.cells #[.string s0] 204)
                have W8 := W7.out.below hB
                exact .inr ⟨_, _, 1, rfl, W8.b, W8.k, W8.s, by have := W8.r; omega, by omega, .word w7.heap.size _ W7.out.c.size (blk_new _ _) ws, W8.c, fun h => absurd h HNZ.out⟩
              · exact ⟨⟨j + 1, by omega, by go_num, ⟨below_then HB5.out (below_drewN nq)⟩⟩, by simp [intOf]; omega⟩
            · go_wp2_with fail
              go_at_call 77
              refine (giveUp_calls _ _ _).mono ?_
              rintro e' w' ⟨x, rfl, hc⟩
              exact ⟨rfl, .inl ⟨⟨x, rfl, W6.out.c.then_ hc (fun _ _ h => h.elim)⟩, HNZ.out⟩⟩
      · go_at_call 77
        refine (giveUp_calls _ _ _).mono ?_
        rintro e' w' ⟨x, rfl, hc⟩
        exact ⟨rfl, .inl ⟨⟨x, rfl, W3.out.c.then_ hc (fun _ _ h => h.elim)⟩, HNZ.out⟩⟩
end Go.Proofs.YtahnelihohmjfaaGreatDoor.V
namespace Go.Proofs.YtahnelihohmjfaaGreatDoor.V
open Go.RowKit
set_option linter.unusedVariables false
set_option linter.unusedSimpArgs false
/-! ### the knot of the parser -/
structure AllF (N : Nat) : Prop where
  neg : NodeF 194 N
  term : NodeF 176 N
  sum : NodeF 155 N
  cmp : NodeF 144 N
  not : NodeF 132 N
  and_ : NodeF 115 N
  or_ : NodeF 95 N
  expr : NodeF 78 N
theorem up_to {P : Nat → Prop} {N : Nat} (h : ∀ M, M < N → P M) (hN : P N) : ∀ M, M ≤ N → P M := fun M hM => by
  rcases Nat.lt_or_eq_of_le hM with h1 | rfl
  · exact h M h1
  · exact hN
/-- every function that reads nodes, from the lists and the calls of the language alone -/
theorem knot (hli : ∀ N, (∀ M, M < N → NodeF 78 M) → ListF N) (hca : ∀ N, (∀ M, M < N → NodeF 78 M) → CallF N) : ∀ N, AllF N := by
  intro N
  induction N using Nat.strongRecOn with
  | _ N ih =>
    have hex : ∀ M, M < N → NodeF 78 M := fun M h => (ih M h).expr
    have atom := atom_of N hex (hli N hex) (hca N hex)
    have neg := neg_of N atom (fun M h => (ih M h).neg)
    have term := term_of N (up_to (fun M h => (ih M h).neg) neg)
    have sum := sum_of N (up_to (fun M h => (ih M h).term) term)
    have cmp := cmp_of N (up_to (fun M h => (ih M h).sum) sum)
    have not := not_of N cmp (fun M h => (ih M h).not)
    have and_ := and_of N (up_to (fun M h => (ih M h).not) not)
    have or_ := or_of N (up_to (fun M h => (ih M h).and_) and_)
    exact ⟨neg, term, sum, cmp, not, and_, or_, expr_of N or_ hex⟩
end Go.Proofs.YtahnelihohmjfaaGreatDoor.V
namespace Go.Proofs.YtahnelihohmjfaaGreatDoor.V
open Go.RowKit
set_option linter.unusedVariables false
set_option linter.unusedSimpArgs false
theorem xparse1_idle (g : Nat) (w : World) :
    CallsD Tryz.prog 76 #[.pointer (some ⟨g, 0, none⟩), .pointer (some ⟨g + 1, 0, none⟩)] .returning w fun e u' w' => e = .returned (.tuple #[]) ∧ u' = .returning ∧ w' = w := by
  refine callsD_of_wpS Tryz.func76 rfl fun c₀ cs hu => ?_
  apply wpS_seq
  apply wpS_region
  simp [wpOpsS, go_sem, recoverD, hu, Tryz.ntmps76, Exit.thenS]
  refine wpS_of_wp ?_
  go_wp2_with fail
  cases c₀
  simp_all [bodyPostS, results, Tryz.results76, Exit.thenS, go_sem]
theorem assert_fault (v : Value) (w : World) : (Instr.typeAssert (.iface 173 v) 20 173 true).run Tryz.prog w = .ok (.tuple #[v, .bool true]) w := by kernel_rfl
set_option maxHeartbeats 4000000 in
set_option maxRecDepth 100000 in
theorem xparse1_hit (x g : Nat) (v0 v1 : Value) (w : World) (h0 : w.heap[g]? = some (.cells #[v0] 139 (0, 0))) (h1 : w.heap[g + 1]? = some (.cells #[v1] 92 (0, 0))) :
    CallsD Tryz.prog 76 #[.pointer (some ⟨g, 0, none⟩), .pointer (some ⟨g + 1, 0, none⟩)] (.panicking [{ v := .iface 173 (.pointer (some ⟨x, 0, none⟩)), recovered := false }]) w fun e u' w' => e = .returned (.tuple #[]) ∧ u' = .panicking [{ v := .iface 173 (.pointer (some ⟨x, 0, none⟩)), recovered := true }] ∧ w' = (w.setCell ⟨g, 0, none⟩ .nilIface).setCell ⟨g + 1, 0, none⟩ (.iface 173 (.pointer (some ⟨x, 0, none⟩))) := by
  have c0 := blk_cell h0 0
  have c1 := blk_cell h1 0
  have f0 := fun j => blk_frozen h0 j
  have f1 := fun j => blk_frozen h1 j
  have l0 := blk_lt h0
  have l1 := blk_lt h1
  simp at c0 c1
  clear h0 h1
  have hta := assert_fault
  refine callsD_of_wpS Tryz.func76 rfl fun c₀ cs hu => ?_
  apply wpS_seq
  apply wpS_region
  simp [wpOpsS, go_sem, recoverD, hu, Tryz.ntmps76, Exit.thenS]
  refine wpS_of_wp ?_
  go_wp2_with fail
  clear c0 c1 f0 f1 l0 l1 hta
  cases c₀
  simp_all [bodyPostS, results, Tryz.results76, Exit.thenS, go_sem]
end Go.Proofs.YtahnelihohmjfaaGreatDoor.V
namespace Go.Proofs.YtahnelihohmjfaaGreatDoor.V
open Go.RowKit
set_option linter.unusedVariables false
set_option linter.unusedSimpArgs false
/-- what 'parse' answers: a node, or a fault; of "0" a node -/
def ParseR (s : ByteArray) (w : World) (e : Ending) (w' : World) : Prop := ∃ v u, e = .returned (.tuple #[v, u]) ∧ Below w.heap.size w w' ∧ ((u = .nilIface ∧ ∃ n, 1 ≤ n ∧ n ≤ 101 ∧ NodeAt (fun x => w.heap.size ≤ x) w' n v) ∨ (v = .nilIface ∧ s ≠ ⟨#[48]⟩ ∧ ∃ x, u = .iface 173 (.pointer (some ⟨x, 0, none⟩))))
/-- the two named results -/
structure PW (w W : World) (v : Value) : Prop where
  v : W.heap[w.heap.size]? = some (.cells #[v] 139 (0, 0))
  e : W.heap[w.heap.size + 1]? = some (.cells #[.nilIface] 92 (0, 0))
  b : Below w.heap.size w W
theorem PW.chg {w W W' : World} {v : Value} (h : PW w W v) (hc : Chg W W' (· = w.heap.size + 2)) : PW w W' v :=
  ⟨(hc.block _ (blk_lt h.v) (fun e => by have e' : w.heap.size = w.heap.size + 2 := e; omega)).trans h.v, (hc.block _ (blk_lt h.e) (fun e => by have e' : w.heap.size + 1 = w.heap.size + 2 := e; omega)).trans h.e, below_chg h.b hc (fun q hq => by have e' : q = w.heap.size + 2 := hq; omega)⟩
set_option maxHeartbeats 4000000 in
theorem xdoor_hit (x : Nat) (s : ByteArray) (hs : s ≠ ⟨#[48]⟩) (w W : World) {v : Value} (h : PW w W v) (tm : Array Value) (h2 : tm.getD 2 undef = .pointer (some ⟨w.heap.size, 0, none⟩)) (h3 : tm.getD 3 undef = .pointer (some ⟨w.heap.size + 1, 0, none⟩)) :
    bodyPostD Tryz.prog Tryz.f64 (ParseR s w) (Exit.panic [{ v := .iface 173 (.pointer (some ⟨x, 0, none⟩)), recovered := false }]) { tmps := tm, defers := [{ target := .fn (Fn.func 76) #[.pointer (some ⟨w.heap.size, 0, none⟩), .pointer (some ⟨w.heap.size + 1, 0, none⟩)], args := #[] }] } W := by
  refine leaves_cons (f := 76) (args := #[.pointer (some ⟨w.heap.size, 0, none⟩), .pointer (some ⟨w.heap.size + 1, 0, none⟩)]) (by simp) (by simp [go_sem]) ?_
  refine (xparse1_hit x w.heap.size v .nilIface W h.v h.e).mono ?_
  rintro e u' w'' ⟨rfl, rfl, rfl⟩
  have hc0 := (Chg.refl W (· = w.heap.size)).set rfl 0 .nilIface
  have g0 := blk_put h.v 0 .nilIface rfl
  have g1 := (hc0.block (w.heap.size + 1) (blk_lt h.e) (fun e => by have e' : w.heap.size + 1 = w.heap.size := e; omega)).trans h.e
  have hc1 := (Chg.refl (W.setCell ⟨w.heap.size, 0, none⟩ .nilIface) (· = w.heap.size + 1)).set rfl 0 (.iface 173 (.pointer (some ⟨x, 0, none⟩)))
  have k0 := (hc1.block w.heap.size (blk_lt g0) (fun e => by have e' : w.heap.size = w.heap.size + 1 := e; omega)).trans g0
  have k1 := blk_put g1 0 (.iface 173 (.pointer (some ⟨x, 0, none⟩))) rfl
  have hb := below_chg (below_chg h.b hc0 (fun q hq => Nat.le_of_eq hq.symm)) hc1 (fun q hq => by have e' : q = w.heap.size + 1 := hq; omega)
  generalize (W.setCell ⟨w.heap.size, 0, none⟩ .nilIface).setCell ⟨w.heap.size + 1, 0, none⟩ (.iface 173 (.pointer (some ⟨x, 0, none⟩))) = W2 at k0 k1 hb ⊢
  have d0 := blk_cell k0 0
  have d1 := blk_cell k1 0
  simp at d0 d1
  rw [Array.getD_eq_getD_getElem?] at h2 h3
  simp [Leaves, settle, results, Tryz.results64, go_sem, h2, h3, d0, d1]
  exact ⟨_, _, rfl, hb, .inr ⟨rfl, hs, x, rfl⟩⟩
set_option maxHeartbeats 4000000 in
theorem xdoor_idle (s : ByteArray) (w W : World) {v : Value} {n : Nat} (h : PW w W v) (h1 : 1 ≤ n) (hn : n ≤ 101) (hv : NodeAt (fun x => w.heap.size ≤ x) W n v) (tm : Array Value) (h2 : tm.getD 2 undef = .pointer (some ⟨w.heap.size, 0, none⟩)) (h3 : tm.getD 3 undef = .pointer (some ⟨w.heap.size + 1, 0, none⟩)) :
    bodyPostD Tryz.prog Tryz.f64 (ParseR s w) Exit.ret { tmps := tm, defers := [{ target := .fn (Fn.func 76) #[.pointer (some ⟨w.heap.size, 0, none⟩), .pointer (some ⟨w.heap.size + 1, 0, none⟩)], args := #[] }] } W := by
  have d0 := blk_cell h.v 0
  have d1 := blk_cell h.e 0
  simp at d0 d1
  rw [Array.getD_eq_getD_getElem?] at h2 h3
  refine leaves_cons (f := 76) (args := #[.pointer (some ⟨w.heap.size, 0, none⟩), .pointer (some ⟨w.heap.size + 1, 0, none⟩)]) (by simp) (by simp [go_sem]) ?_
  refine (xparse1_idle w.heap.size W).mono ?_
  rintro e u' w'' ⟨rfl, rfl, rfl⟩
  simp [Leaves, settle, results, Tryz.results64, go_sem, h2, h3, d0, d1]
  exact ⟨_, _, rfl, h.b, .inl ⟨rfl, n, h1, hn, hv⟩⟩
end Go.Proofs.YtahnelihohmjfaaGreatDoor.V
namespace Go.Proofs.YtahnelihohmjfaaGreatDoor.V
open Go.RowKit
set_option linter.unusedVariables false
set_option linter.unusedSimpArgs false
set_option maxHeartbeats 8000000 in
set_option maxRecDepth 100000 in
theorem xparse_calls (hall : ∀ N, AllF N) (s : ByteArray) (w : World) (hg : GV w) : Calls Tryz.prog 64 #[.string s] w (ParseR s w) := by
  have HG := Ad.mk hg
  have HALL := Ad.mk hall
  have hmf : ∀ (fn : Fn) (first cap : Array Value) (w : World), (Instr.makeFunc fn first cap).run Tryz.prog w = .ok (.func fn first cap) w := fun _ _ _ _ => rfl
  clear hg hall
  have hB0 : Below w.heap.size w ((w.alloc (.cells #[.nilIface] 139)).alloc (.cells #[.nilIface] 92)) := below_alloc (below_alloc (Below.refl _ _) _) _
  have P0 : Ad (PW w ((w.alloc (.cells #[.nilIface] 139)).alloc (.cells #[.nilIface] 92)) .nilIface) := ⟨⟨blk_alloc (blk_new w _) _, blk_new2 (by simp), hB0⟩⟩
  have h9 : ((w.alloc (.cells #[.nilIface] 139)).alloc (.cells #[.nilIface] 92)).heap.size = w.heap.size + 2 := by simp
  have H9 := Ad.mk h9
  clear hB0 h9
  by_cases hs : s.size ≤ 100
  · have j0 : (s.size : Int) ≤ 100 := by omega
    go_enter_defers Tryz.func64, Tryz.ntmps64
    go_wp2_with fail
    have hpb : PB (((w.alloc (.cells #[.nilIface] 139)).alloc (.cells #[.nilIface] 92)).alloc (.cells #[.string s, .int .i64 0, .int .i64 0, .int .i64 0, .string ⟨#[]⟩, .int .i64 0, .bool false, .int .i64 0] 179)) (w.heap.size + 2) ⟨s, 0, 0, 0, ⟨#[]⟩, 0, false, 0⟩ :=
      ⟨blk_new2 H9.out, by obtain ⟨w0, h0, h1⟩ := HG.out; exact ⟨w0, h0, below_then h1 (below_then P0.out.b (below_alloc (Below.refl _ _) _)), by have := h1.size; omega⟩⟩
    have P1 := Ad.mk (P0.out.chg (Chg.of_below (below_alloc (Below.refl _ _) (.cells #[.string s, .int .i64 0, .int .i64 0, .int .i64 0, .string ⟨#[]⟩, .int .i64 0, .bool false, .int .i64 0] 179))))
    have hpk : POK ⟨s, 0, 0, 0, ⟨#[]⟩, 0, false, 0⟩ := ⟨hs, Nat.zero_le _, by show (0 : Int) ≤ 0 ∧ (0 : Int) ≤ 4; omega, by show (0 : Nat) ≤ 100; omega, by show (0 : Nat) ≤ 100; omega, fun h => absurd h (by show ¬ (0 : Int) = 3; decide), by show I64 0; unfold I64; omega, fun h => by cases h⟩
    have hrem : (⟨s, 0, 0, 0, ⟨#[]⟩, 0, false, 0⟩ : PS).rem ≤ 100 := by unfold PS.rem; simpa using hs
    generalize ((w.alloc (.cells #[.nilIface] 139)).alloc (.cells #[.nilIface] 92)).alloc (.cells #[.string s, .int .i64 0, .int .i64 0, .int .i64 0, .string ⟨#[]⟩, .int .i64 0, .bool false, .int .i64 0] 179) = W1 at hpb P1 ⊢
    have HPB := Ad.mk hpb
    have HPK := Ad.mk hpk
    have HRM := Ad.mk hrem
    clear hpb hpk hrem
    go_at_call 78
    refine ((HALL.out 100).expr (w.heap.size + 2) ⟨s, 0, 0, 0, ⟨#[]⟩, 0, false, 0⟩ W1 HPB.out HPK.out HRM.out).mono ?_
    rintro e1 w1 (⟨⟨x, rfl, hc⟩, hn⟩ | ⟨v, q, n, rfl, hb, hk, hsq, hr, h1, hn, hc, hz⟩)
    · exact xdoor_hit x s (fun h => hn ⟨h, .inl ⟨rfl, rfl⟩⟩) w w1 (P1.out.chg hc) _ rfl rfl
    · obtain ⟨T, b, rfl⟩ := hn.form
      have P2 := Ad.mk (P1.out.chg hc)
      have HPB1 := Ad.mk hb
      have HK1 := Ad.mk hk
      have HR1 : Ad (1 ≤ n ∧ n ≤ 101) := ⟨h1, by have := HRM.out; omega⟩
      have hle : w.heap.size ≤ W1.heap.size := P1.out.b.size
      have HN1 := Ad.mk (hn.chg (Q' := fun x => w.heap.size + 3 ≤ x) (Chg.refl w1 (fun _ => False)) (fun _ _ _ h => h) (fun _ _ h => by have h5 := blk_lt HPB.out.blk; omega))
      have HZ1 : Ad (s = ⟨#[48]⟩ → Z1 q) := ⟨fun h => hz ⟨h, .inl ⟨rfl, rfl⟩⟩⟩
      have v0 := blk_cell P2.out.v 0
      have vf := fun j => blk_frozen P2.out.v j
      have vl := blk_lt P2.out.v
      simp at v0
      clear hb hk hsq hr h1 hn hc hz hle
      go_wp2_with fail
      have hc3 := (Chg.refl w1 (· = w.heap.size)).set rfl 0 (.iface T (.pointer (some ⟨b, 0, none⟩)))
      have P3 : Ad (PW w (w1.setCell ⟨w.heap.size, 0, none⟩ (.iface T (.pointer (some ⟨b, 0, none⟩)))) (.iface T (.pointer (some ⟨b, 0, none⟩)))) := ⟨⟨blk_put P2.out.v 0 _ rfl, (hc3.block _ (blk_lt P2.out.e) (fun e => by have e' : w.heap.size + 1 = w.heap.size := e; omega)).trans P2.out.e, below_chg P2.out.b hc3 (fun q hq => Nat.le_of_eq hq.symm)⟩⟩
      have B3 : Ad (PB (w1.setCell ⟨w.heap.size, 0, none⟩ (.iface T (.pointer (some ⟨b, 0, none⟩)))) (w.heap.size + 2) q) := ⟨⟨(hc3.block _ (blk_lt HPB1.out.blk) (fun e => by have e' : w.heap.size + 2 = w.heap.size := e; omega)).trans HPB1.out.blk, by obtain ⟨w0, h0, h1⟩ := HG.out; exact ⟨w0, h0, below_then h1 P3.out.b, by have := h1.size; omega⟩⟩⟩
      have N3 := Ad.mk (HN1.out.chg (Q' := fun x => w.heap.size + 3 ≤ x) hc3 (fun x _ hx e => by have e' : x = w.heap.size := e; omega) (fun _ _ h => h))
      generalize w1.setCell ⟨w.heap.size, 0, none⟩ (.iface T (.pointer (some ⟨b, 0, none⟩))) = W3 at P3 B3 N3 ⊢
      clear hc3 v0 vf vl
      go_at_call 79
      refine (peek_calls (w.heap.size + 2) q W3 B3.out HK1.out).mono ?_
      rintro e4 w4 (⟨⟨x, rfl, hc⟩, hnz⟩ | ⟨q4, rfl, hb, hk, hh, hs4, hr4, hc, hz0, hz1⟩)
      · exact xdoor_hit x s (fun h => hnz.2 (HZ1.out h)) w w4 (P3.out.chg hc) _ rfl rfl
      · have P4 := Ad.mk (P3.out.chg hc)
        have N4 := Ad.mk (N3.out.chg (Q' := fun x => w.heap.size + 3 ≤ x) hc (fun x _ hx e => by have e' : x = w.heap.size + 2 := e; omega) (fun _ _ h => h))
        have HZ4 : Ad (s = ⟨#[48]⟩ → q4.tk = 0) := ⟨fun h => by
          rcases (hz1 (HZ1.out h)).2.2 with h3 | h3
          · rw [hh] at h3; cases h3
          · exact h3⟩
        have v0 := blk_cell P4.out.v 0
        have vf := fun j => blk_frozen P4.out.v j
        have vl := blk_lt P4.out.v
        have u0 := blk_cell P4.out.e 0
        have uf := fun j => blk_frozen P4.out.e j
        have ul := blk_lt P4.out.e
        simp at v0 u0
        clear hb hk hh hs4 hr4 hc hz0 hz1
        unfold PS.tok
        go_wp2_with fail
        · have htk : q4.tk ≠ 0 := by simpa using ‹(q4.tk != 0) = true›
          have HTK := Ad.mk htk
          clear htk
          go_at_call 77
          refine (giveUp_calls _ _ _).mono ?_
          rintro e' w' ⟨x, rfl, hc⟩
          exact xdoor_hit x s (fun h => HTK.out (HZ4.out h)) w w' (P4.out.chg ((Chg.of_below (below_alloc (Below.refl _ _) _)).then_ hc (fun _ _ h => h.elim))) _ rfl rfl
        · have hc5 := (Chg.refl w4 (· = w.heap.size)).set rfl 0 (.iface T (.pointer (some ⟨b, 0, none⟩)))
          have P5 : PW w (w4.setCell ⟨w.heap.size, 0, none⟩ (.iface T (.pointer (some ⟨b, 0, none⟩)))) (.iface T (.pointer (some ⟨b, 0, none⟩))) := ⟨blk_put P4.out.v 0 _ rfl, (hc5.block _ (blk_lt P4.out.e) (fun e => by have e' : w.heap.size + 1 = w.heap.size := e; omega)).trans P4.out.e, below_chg P4.out.b hc5 (fun q hq => Nat.le_of_eq hq.symm)⟩
          have N5 := N4.out.chg (Q' := fun x => w.heap.size + 3 ≤ x) hc5 (fun x _ hx e => by have e' : x = w.heap.size := e; omega) (fun _ _ h => h)
          generalize w4.setCell ⟨w.heap.size, 0, none⟩ (.iface T (.pointer (some ⟨b, 0, none⟩))) = W5 at P5 N5 ⊢
          have hc6 := (Chg.refl W5 (· = w.heap.size + 1)).set rfl 0 .nilIface
          have P6 : PW w (W5.setCell ⟨w.heap.size + 1, 0, none⟩ .nilIface) (.iface T (.pointer (some ⟨b, 0, none⟩))) := ⟨(hc6.block _ (blk_lt P5.v) (fun e => by have e' : w.heap.size = w.heap.size + 1 := e; omega)).trans P5.v, blk_put P5.e 0 _ rfl, below_chg P5.b hc6 (fun q hq => by have e' : q = w.heap.size + 1 := hq; omega)⟩
          have N6 := N5.chg (Q' := fun x => w.heap.size + 3 ≤ x) hc6 (fun x _ hx e => by have e' : x = w.heap.size + 1 := e; omega) (fun _ _ h => h)
          have hB := below_alloc (Below.refl _ (W5.setCell ⟨w.heap.size + 1, 0, none⟩ .nilIface)) (.cells #[.int .i64 q4.tk, .int .i64 q4.ta, .string q4.tt, .int .i64 q4.tn] 177)
          exact xdoor_idle s w _ (P6.chg (Chg.of_below hB)) HR1.out.1 HR1.out.2 (N6.chg (Q' := fun x => w.heap.size ≤ x) (Chg.of_below (S := fun _ => False) hB) (fun _ _ _ h => h) (fun _ _ h => by omega)) _ rfl rfl
  · have j0 : ¬ (s.size : Int) ≤ 100 := by omega
    have hne : s ≠ ⟨#[48]⟩ := fun e => hs (by rw [e]; decide)
    have HNE := Ad.mk hne
    clear hne
    go_enter_defers Tryz.func64, Tryz.ntmps64
    go_wp2_with fail
    go_at_call 77
    refine (giveUp_calls _ _ _).mono ?_
    rintro e' w' ⟨x, rfl, hc⟩
    exact xdoor_hit x s HNE.out w w' (P0.out.chg ((Chg.refl _ _).then_ hc (fun _ _ h => h.elim))) _ rfl rfl
end Go.Proofs.YtahnelihohmjfaaGreatDoor.V
namespace Go.Proofs.YtahnelihohmjfaaGreatDoor.V
open Go.RowKit
set_option linter.unusedVariables false
set_option linter.unusedSimpArgs false
/-! ### rows of nodes -/
/-- v is a row of nodes of the call's own (its block from base on); the nodes lie elsewhere -/
structure NRow (base : Nat) (w wr : World) (v : Value) (l : List Value) (ns : List Nat) : Prop where
  own : wr.ownsRow base 139 1 v l.length l
  n : ns.length = l.length
  i : ∀ i, i < l.length → NodeAt (fun x => w.heap.size ≤ x ∧ some x ≠ v.ownBlock) wr (ns.getD i 0) (l.getD i undef)
theorem NRow.on {base : Nat} {w wr w' : World} {v : Value} {l : List Value} {ns : List Nat} {S : Nat → Prop} (h : NRow base w wr v l ns) (hc : Chg wr w' S) (hS : ∀ b, S b → b < base ∧ b < w.heap.size) : NRow base w w' v l ns :=
  ⟨own_chg h.own hc (fun g hg hs => by have h1 := (own_lt h.own g hg).1; have := (hS g hs).1; omega), h.n, fun i hi => (h.i i hi).chg hc (fun b _ hq hs => by have := (hS b hs).2; omega) (fun _ _ hq => hq)⟩
theorem NRow.snoc {base : Nat} {w wr w1 : World} {v x : Value} {l : List Value} {ns : List Nat} {n g cap : Nat} (h : NRow base w wr v l ns) (hx : NodeAt (fun x => w.heap.size ≤ x) wr n x) (hxo : NodeAt (fun b => w.heap.size ≤ b ∧ some b ≠ v.ownBlock) wr n x)
    (hown : w1.ownsRow base 139 1 (.slice (some ⟨g, 0, none⟩) (l.length + 1) cap) (l.length + 1) (l ++ [x])) (hgrow : wr.grownBy w1 v.ownBlock) (hat : v.ownBlock = some g ∨ g = wr.heap.size) : NRow base w w1 (.slice (some ⟨g, 0, none⟩) (l.length + 1) cap) (l ++ [x]) (ns ++ [n]) := by
  have hc : Chg wr w1 (fun b => some b = v.ownBlock) := ⟨hgrow.os, hgrow.tape, hgrow.output, hgrow.size, fun i hi hn => hgrow.block i hi hn⟩
  have key : ∀ b, b < wr.heap.size → some b ≠ v.ownBlock → some b ≠ (Value.slice (some ⟨g, 0, none⟩) (l.length + 1) cap).ownBlock := by
    intro b hb hn he
    simp only [Value.ownBlock, Option.some.injEq] at he
    subst he
    rcases hat with hat | hat
    · exact hn hat.symm
    · omega
  refine ⟨by simpa using hown, by simp [h.n], fun i hi => ?_⟩
  simp only [List.length_append, List.length_cons, List.length_nil] at hi
  by_cases hlt : i < l.length
  · have e1 : (l ++ [x]).getD i undef = l.getD i undef := by simp [List.getD_eq_getElem?_getD, List.getElem?_append_left hlt]
    have e2 : (ns ++ [n]).getD i 0 = ns.getD i 0 := by simp [List.getD_eq_getElem?_getD, List.getElem?_append_left (h.n ▸ hlt)]
    rw [e1, e2]
    exact (h.i i hlt).chg hc (fun b hb hq he => hq.2 he) (fun b hb hq => ⟨hq.1, key b hb hq.2⟩)
  · obtain rfl : i = l.length := by omega
    have e1 : (l ++ [x]).getD l.length undef = x := by simp [List.getD_eq_getElem?_getD]
    have e2 : (ns ++ [n]).getD l.length 0 = n := by rw [← h.n]; simp [List.getD_eq_getElem?_getD]
    rw [e1, e2]
    exact hxo.chg hc (fun b hb hq he => hq.2 he) (fun b hb hq => ⟨hq.1, key b hb hq.2⟩)
/-- the row as the list of a node -/
theorem NRow.ifl {base : Nat} {w wr : World} {v : Value} {l : List Value} {ns : List Nat} (h : NRow base w wr v l ns) (hb : w.heap.size ≤ base) (hl : l.length ≤ 6) : ∃ A c, v = .slice A l.length c ∧ IfL (fun x => w.heap.size ≤ x) wr A c l := by
  rcases h.own.2 with ⟨rfl, h0⟩ | ⟨g, cap, cur, rfl, hg, hh, hn, hm, hs, ht⟩
  · refine ⟨none, 0, by rw [h0], by omega, hl, fun hp => absurd hp (by omega)⟩
  · refine ⟨_, _, rfl, hn, hl, fun hp => ⟨g, rfl, by omega, blk_lt hh, fun i hi => ?_⟩⟩
    have e1 : l[i]? = some (l.getD i undef) := by simp [List.getD_eq_getElem?_getD, List.getElem?_eq_getElem hi]
    rw [← ht, List.getElem?_take, if_pos (by omega)] at e1
    have e2 := blk_cell hh i
    rw [← Array.getElem?_toList, e1] at e2
    rw [ht] at e2
    exact e2
theorem Way.back {w wA w1 : World} {g M : Nat} {p q : PS} (h : Way wA g p M w1 q) (hb : Below w.heap.size w wA) : Way w g p M w1 q := ⟨(Chg.of_below hb).trans h.c, h.b, h.k, h.s, h.r⟩
theorem PB.chg {w w' : World} {g : Nat} {p : PS} {S : Nat → Prop} (h : PB w g p) (hc : Chg w w' S) (hS : ∀ b, S b → g < b) : PB w' g p :=
  ⟨(hc.block g (blk_lt h.blk) (fun hs => by have := hS _ hs; omega)).trans h.blk, h.gv.chgS hc (fun q hq => by have := hS _ hq; omega)⟩
/-- the row grows by one node and is stored into the box -/
theorem row_fin {N g M n g2 cp : Nat} {w wA w3 w4 : World} {p q : PS} {v x box s : Value} {l : List Value} {ns : List Nat} {T : TypeId} (j : Nat) (hsA : wA.heap.size = N + 1) (hN : w.heap.size ≤ N) (hg : g < N) (h3 : N < w3.heap.size)
    (hW : Way w g p M w3 q) (hr : NRow (N + 1) wA w3 v l ns) (hx : NodeAt (fun b => wA.heap.size ≤ b ∧ some b ≠ v.ownBlock) w3 n x)
    (hown : w4.ownsRow (N + 1) 139 1 (.slice (some ⟨g2, 0, none⟩) (l.length + 1) cp) (l.length + 1) (l ++ [x])) (hgr : (w3.alloc (.cells #[box] T (0, 0))).grownBy w4 v.ownBlock) (hat : v.ownBlock = some g2 ∨ g2 = (w3.alloc (.cells #[box] T (0, 0))).heap.size) :
    Way w g p M (w4.setCell ⟨N, j, none⟩ s) q ∧ NRow (N + 1) wA (w4.setCell ⟨N, j, none⟩ s) (.slice (some ⟨g2, 0, none⟩) (l.length + 1) cp) (l ++ [x]) (ns ++ [n]) ∧ w4.heap[N]? = w3.heap[N]? := by
  have hbA := below_alloc (Below.refl _ w3) (.cells #[box] T (0, 0))
  have hgv : ∀ b, some b = v.ownBlock → N + 1 ≤ b := fun b hb => (own_lt hr.own b hb.symm).1
  have hr2 : NRow (N + 1) wA (w3.alloc (.cells #[box] T (0, 0))) v l ns := hr.on (Chg.of_below (S := fun _ => False) hbA) (fun _ h => absurd h id)
  have hx2 := hx.later hbA
  have hx3 : NodeAt (fun b => wA.heap.size ≤ b) (w3.alloc (.cells #[box] T (0, 0))) n x := hx2.chg (Chg.refl _ (fun _ => False)) (fun _ _ _ h => h) (fun _ _ h => h.1)
  have hc4 : Chg (w3.alloc (.cells #[box] T (0, 0))) w4 (fun b => some b = v.ownBlock) := ⟨hgr.os, hgr.tape, hgr.output, hgr.size, fun i hi hn => hgr.block i hi hn⟩
  have hc34 : Chg w3 w4 (fun b => some b = v.ownBlock) := (Chg.of_below hbA).trans hc4
  have hc5 : Chg w4 (w4.setCell ⟨N, j, none⟩ s) (· = N) := (Chg.refl w4 (· = N)).set rfl j s
  have hr4 := hr2.snoc hx3 hx2 hown hgr hat
  refine ⟨⟨?_, (hW.b.chg hc34 (fun b hb => by have := hgv b hb; omega)).chg hc5 (fun b hb => by have hb' : b = N := hb; omega), hW.k, hW.s, hW.r⟩, hr4.on hc5 (fun b hb => by have hb' : b = N := hb; omega), ?_⟩
  · exact (hW.c.then_ hc34 (fun b hb h => by have := hgv b h; omega)).then_ hc5 (fun b hb h => by have h' : b = N := h; omega)
  · exact hc34.block N h3 (fun h => by have := hgv N h; omega)
theorem infoN : (Tryz.prog.info? 139).map (fun i => (i.zero, i.size, i.bytes)) = some (some .nilIface, 1, 16) := by kernel_rfl
theorem NRow.nil (base : Nat) (w wr : World) : NRow base w wr (.slice none 0 0) [] [] := ⟨World.ownsRow_nil _ _ _ _, rfl, fun i h => absurd h (by simp)⟩
theorem step_calls {ops : Array Oper} {o : Oper} {a : Act} {w : World} {K : Act → World → Prop} {Q : Exit → Act → World → Prop} {E : Prop} (hgd : o.guard = none) (k : Nat) (x : Operand) (t : TypeId)
    (ho : o.op = .call { callee := .value (.func k), args := #[x], argTypes := #[t] }) (hk : ∀ args w, (callFunc k args).run Tryz.prog w = .ok (.enter k args) w) (v : Value) (hx : a.eval x = v)
    (h : Calls Tryz.prog k #[v] w (fun e w' => match e with | .returned u => K (a.put o.dst u) w' | .panicked c => Q (.panic c) a w' | .outgrown => LetsOut Q)) :
    if Region.wanted o (yielded ops a.tmps) = true then Oper.wp Tryz.prog o a w K Q else E := by
  have hw : Region.wanted o (yielded ops a.tmps) = true := by simp [Region.wanted, hgd]
  rw [if_pos hw]
  unfold Oper.wp execOp
  simp only [ho, resolve, invoke, Sem.run_bind, Sem.run_pure, Result.andThen_ok, List.map_toArray, List.map_cons, List.map_nil, hx]
  have he : a.eval (Operand.func k) = .func (.func k) #[] #[] := rfl
  rw [he]
  simp [Deferred.ofValue, hk]
  rw [Oper.upon_enter]
  refine h.mono ?_
  intro e w' h
  cases e <;> exact h
end Go.Proofs.YtahnelihohmjfaaGreatDoor.V
