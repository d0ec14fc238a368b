/- A part of the walk (V61, V61c, V65b). -/
import Derived.Test.YtahnelihohmjfaaGreatDoorL20
import Derived.Deep.RegionLaw
namespace Go.Proofs.YtahnelihohmjfaaGreatDoor.V
open Go.RowKit
set_option linter.unusedVariables false
set_option linter.unusedSimpArgs false
def lenOf : Value → Nat
  | .slice _ n _ => n
  | _ => 0
def LW (w wA : World) (g : Nat) (p : PS) (N : Nat) (wx : World) : Prop := ∃ (q : PS) (M : Nat) (l : List Value) (ns : List Nat) (A : Option Addr) (c : Nat), Way w g p M wx q ∧ ns.sum + 1 ≤ M ∧ 1 ≤ l.length ∧ l.length ≤ 6 ∧ wx.heap[N]? = some (.cells #[.slice A l.length c] 218 (0, 0)) ∧ NRow (N + 1) wA wx (.slice A l.length c) l ns
set_option maxHeartbeats 8000000 in
set_option maxRecDepth 100000 in
theorem list_of (N : Nat) (hex : ∀ M, M < N → NodeF 78 M) : ListF N := by
  intro g p w hb hk hnz hN
  have HNZ := Ad.mk hnz
  clear hnz
  have hl := blk_lt hb.blk
  have HEX := Ad.mk hex
  have hbA := below_alloc (Below.refl _ w) (.cells #[.slice none 0 0] 218)
  have HX0 := Ad.mk (blk_new w (.cells #[.slice none 0 0] 218))
  have WA := Ad.mk (Way.start (hb.below hbA) hk)
  have HBA := Ad.mk hbA
  have hsA : (w.alloc (.cells #[.slice none 0 0] 218)).heap.size = w.heap.size + 1 := by simp
  clear hb hk hex hbA
  go_enter Tryz.func213, Tryz.ntmps213
  go_wp2_with fail
  generalize w.alloc (.cells #[.slice none 0 0] 218) = wA at WA HX0 HBA hsA ⊢
  have hgA : g < wA.heap.size := by omega
  have hgw : g < w.heap.size := by omega
  have hgn : ¬ w.heap.size = g := by omega
  have hgn' : ¬ g = w.heap.size := by omega
  have HSA := Ad.mk hsA
  clear hsA
  go_at_call 97
  refine (want_calls g p 4 ⟨#[91]⟩ _ WA.out.b WA.out.k (by decide)).mono ?_
  rintro e1 w1 (⟨x, rfl, hc⟩ | ⟨q1, rfl, hb, hk, hh, hs, hr, hc⟩)
  · exact ⟨rfl, .inl ⟨⟨x, rfl, (Chg.of_below HBA.out).trans hc⟩, HNZ.out⟩⟩
  · have W1 := Ad.mk (WA.out.want hb hk hs hr hc)
    have X1 := Ad.mk ((hc.block w.heap.size (blk_lt HX0.out) hgn).trans HX0.out)
    clear hb hk hh hs hr hc
    go_wp2_with fail
    go_at_call 94
    refine (is_calls g q1 4 ⟨#[93]⟩ _ W1.out.b W1.out.k).mono ?_
    rintro e2 w2 (⟨⟨x, rfl, hc⟩, hz⟩ | ⟨q2, rfl, hb, hk, hh, hs, hr, hc, hz0, hz1⟩)
    · exact ⟨rfl, .inl ⟨⟨x, rfl, ((Chg.of_below HBA.out).trans W1.out.c).trans hc⟩, HNZ.out⟩⟩
    · generalize hbb : (q2.tk == 4 && q2.tt.toList == (⟨#[93]⟩ : ByteArray).toList) = bb
      have W2 := Ad.mk (W1.out.peek hb hk hs hr hc)
      have X2 := Ad.mk ((hc.block w.heap.size (blk_lt X1.out) hgn).trans X1.out)
      clear hb hk hh hs hr hc hz0 hz1 hbb
      go_wp2_with fail
      · go_at_call 97
        refine (want_calls g q2 4 ⟨#[93]⟩ _ W2.out.b W2.out.k (by decide)).mono ?_
        rintro e3 w3 (⟨x, rfl, hc⟩ | ⟨q3, rfl, hb, hk, hh, hs, hr, hc⟩)
        · exact ⟨rfl, .inl ⟨⟨x, rfl, ((Chg.of_below HBA.out).trans W2.out.c).trans hc⟩, HNZ.out⟩⟩
        · have W3 := Ad.mk (W2.out.want hb hk hs hr hc)
          have X3 := Ad.mk ((hc.block w.heap.size (blk_lt X2.out) hgn).trans X2.out)
          clear hb hk hh hs hr hc
          go_wp2_with fail
          go_ret
          exact .inr ⟨_, q3, 1, rfl, W3.out.b, W3.out.k, W3.out.s, by have := W3.out.r; omega, by omega, .list w.heap.size none 0 [] [] (Nat.le_refl _) X3.out ⟨by simp, by simp, fun h => absurd h (by simp)⟩ rfl (fun i h => absurd h (by simp)), (Chg.of_below HBA.out).trans W3.out.c, fun h => absurd h HNZ.out⟩
      · go_upto_region 6 with (fail)
        go_cut [] (fun wx => Ad (LW w wA g p w.heap.size wx))
        case first =>
          have t0 := blk_cell X2.out 0
          have tf := fun j => blk_frozen X2.out j
          have tl := blk_lt X2.out
          simp at t0
          have hen := enters Tryz.func78 (by kernel_rfl) (by kernel_rfl)
          have HEN := Ad.mk hen
          obtain ⟨i0, hi0, hz0, hz1, hz2⟩ := info_parts infoN
          have HI := Ad.mk (And.intro hi0 (And.intro hz0 (And.intro hz1 hz2)))
          clear hen hi0 hz0 hz1 hz2
          go_wp2_with fail
          go_region_law (first
            | (refine step_calls rfl 78 _ _ rfl HEN.out _ (by rfl) ?_; refine (HEX.out _ (by have := W2.out.r; omega) g _ _ (W2.out.b.below (Below.refl _ _).drew) W2.out.k (Nat.le_refl _)).mono ?_; rintro e3 w3 (⟨⟨x, rfl, hc⟩, hn⟩ | ⟨v3, q3, n3, rfl, hb, hk, hs, hr, h1, hn, hc, hz⟩); (exact ⟨rfl, .inl ⟨⟨x, rfl, ((Chg.of_below HBA.out).trans (W2.out.c.trans (Chg.of_below (Below.refl _ _).drew))).trans hc⟩, HNZ.out⟩⟩); (obtain ⟨hw, hnd⟩ := (W2.out.below (Below.refl _ _).drew).node hb hk hs hr hc hn; obtain ⟨T3, b3, rfl⟩ := hnd.form; have hx3 := (hc.block w.heap.size tl hgn).trans (show w2.drew.heap[w.heap.size]? = _ from X2.out); have W3 := Ad.mk hw; have ND3 := Ad.mk hnd; have H13 := Ad.mk h1; have u0 : w3.cell? ⟨w.heap.size, 0, none⟩ = some (.slice none 0 0) := blk_cell hx3 0; have uf := (fun j => blk_frozen hx3 j); have ul := blk_lt hx3; have X3 := Ad.mk hx3; clear hw hnd hx3 hb hk hs hr h1 hn hc hz))
            | (go_must (refine step_append_lies _ rfl _ _ 216 (by rfl) (w.heap.size + 1) 139 i0 _ 1 16 Tryz.underlying216 HI.out.1 HI.out.2.1 HI.out.2.2.1 HI.out.2.2.2 rfl (by omega) (.slice none 0 0) 0 [] (by rfl) (World.ownsRow_nil _ _ _ _) ⟨w3.heap.size, 0, none⟩ 1 1 [.iface T3 (.pointer (some ⟨b3, 0, none⟩))] (by rfl) rfl (World.news_of_block (blk_new _ _)) (by simp [Value.oneCell']) (by omega) (by unfold maxLen; omega) (by omega) (by have := W3.out.c.size; have := HSA.out; simp; omega) _ rfl ?_); intro g2 cp w4 hown4 hgrow hat hlt4; have hx4 := (hgrow.block w.heap.size (by simp; omega) (by simp [Value.ownBlock])).trans (blk_alloc X3.out _); have v0 : w4.cell? ⟨w.heap.size, 0, none⟩ = some (.slice none 0 0) := blk_cell hx4 0; have vf := (fun j => blk_frozen hx4 j); have vl := blk_lt hx4; have X4 := Ad.mk hx4; have HOWN := Ad.mk hown4; have HGR := Ad.mk hgrow; have HAT := Ad.mk hat; clear hx4 hown4 hgrow hat))
          all_goals
            go_wp2_with fail
            go_meet
            have hfin := row_fin (s := .slice (some ⟨g2, 0, none⟩) 1 cp) 0 HSA.out (Nat.le_refl _) hgw ul (W3.out.back HBA.out) (NRow.nil _ wA w3) (ND3.out.chg (Chg.refl _ (fun _ => False)) (fun _ _ _ h => h) (fun b _ hq => ⟨hq, by simp [Value.ownBlock]⟩)) HOWN.out HGR.out HAT.out
            refine ⟨q3, _, [.iface T3 (.pointer (some ⟨b3, 0, none⟩))], [n3], _, _, hfin.1, ?_, by simp, by simp, blk_put X4.out 0 _ rfl, hfin.2.1⟩
            simp
            omega
        case rest =>
          go_wp2_with fail
          go_loopw [] (fun wx => Ad (LW w wA g p w.heap.size wx)) (fun wx => 6 - lenOf ((wx.cell? ⟨w.heap.size, 0, none⟩).getD undef))
          case atStart => assumption
          case round =>
            obtain ⟨⟨q5, M5, l5, ns5, A5, cp5, hw5, hm5, h15, hl5, hx5, hr5⟩⟩ := hrel
            have W5 := Ad.mk hw5
            have R5 := Ad.mk hr5
            have X5 := Ad.mk hx5
            have HM5 := Ad.mk hm5
            have t0 : wr.cell? ⟨w.heap.size, 0, none⟩ = some (.slice A5 l5.length cp5) := blk_cell hx5 0
            have T5 := Ad.mk t0
            have tf := fun j => blk_frozen hx5 j
            have tl := blk_lt hx5
            clear hw5 hr5 hx5 hm5
            go_wp2_with (go_at_call 94; refine (is_calls g q5 4 ⟨#[44]⟩ _ W5.out.b W5.out.k).mono ?_; rintro e6 w6 (⟨⟨x, rfl, hc⟩, hz⟩ | ⟨q6, rfl, hpb, hqk, hqh, hqs, hqr, hc, hz0, hz1⟩) <;> (try (generalize hbb : (q6.tk == 4 && q6.tt.toList == (⟨#[44]⟩ : ByteArray).toList) = bb6; have HBB6 := Ad.mk hbb; have W6 := Ad.mk (W5.out.peek hpb hqk hqs hqr hc); have HQ6 := Ad.mk hqh; have X6 := Ad.mk ((hc.block w.heap.size (blk_lt X5.out) hgn).trans X5.out); have R6 := Ad.mk (R5.out.on hc (fun b hb => by have hb' : b = g := hb; have := HSA.out; omega)); clear hpb hqk hc hqh hqs hqr hz0 hz1 hbb)))
            · exact ⟨rfl, .inl ⟨⟨x, rfl, W5.out.c.trans hc⟩, HNZ.out⟩⟩
            · have hbt : bb6 = true := by assumption
              subst hbt
              have h2 := HBB6.out
              simp only [Bool.and_eq_true] at h2
              have htk : q6.tk = 4 := by simpa using h2.1
              have htk0 : q6.tk ≠ 0 := by omega
              clear h2 htk
              go_wp2_with (go_at_call 96; refine (next_have g q6 _ W6.out.b HQ6.out).mono ?_; rintro e7 w7 ⟨rfl, hb, hc⟩; have W7 := Ad.mk (W6.out.next HQ6.out htk0 hb hc); have X7 := Ad.mk ((hc.block w.heap.size (blk_lt X6.out) hgn).trans X6.out); have R7 := Ad.mk (R6.out.on hc (fun b hb => by have hb' : b = g := hb; have := HSA.out; omega)); clear hb hc; unfold PS.tok)
              have t0 : w7.cell? ⟨w.heap.size, 0, none⟩ = some (.slice A5 l5.length cp5) := blk_cell X7.out 0
              have tf := fun j => blk_frozen X7.out j
              have tl := blk_lt X7.out
              have hl6' : l5.length < 6 := by omega
              have HQ9 : Ad (∀ b, w7.drew.heap.size ≤ b → wA.heap.size ≤ b ∧ some b ≠ (Value.slice A5 l5.length cp5).ownBlock) := ⟨fun b hq => by
                have h2 := HSA.out
                have h3 : w7.heap.size ≤ b := hq
                exact ⟨by omega, fun h => by have := (own_lt R7.out.own b h.symm).2; omega⟩⟩
              have hen := enters Tryz.func78 (by kernel_rfl) (by kernel_rfl)
              have HEN := Ad.mk hen
              obtain ⟨i0, hi0, hz0, hz1, hz2⟩ := info_parts infoN
              have HI := Ad.mk (And.intro hi0 (And.intro hz0 (And.intro hz1 hz2)))
              clear hen hi0 hz0 hz1 hz2
              go_region_law (first
                | (refine step_calls rfl 78 _ _ rfl HEN.out _ (by rfl) ?_; refine (HEX.out _ (by have := W7.out.r; omega) g _ _ (W7.out.b.below (Below.refl _ _).drew) W7.out.k (Nat.le_refl _)).mono ?_; rintro e3 w3 (⟨⟨x, rfl, hc⟩, hn⟩ | ⟨v3, q3, n3, rfl, hb, hk, hs, hr, h1, hn, hc, hz⟩); (exact ⟨rfl, .inl ⟨⟨x, rfl, (W7.out.c.trans (Chg.of_below (Below.refl _ _).drew)).trans hc⟩, HNZ.out⟩⟩); (obtain ⟨hw, hnd0⟩ := (W7.out.below (Below.refl _ _).drew).node hb hk hs hr hc hn; have hnd := hn.chg (Chg.refl w3 (fun _ => False)) (fun _ _ _ h => h) (fun b _ hq => HQ9.out b hq); obtain ⟨T3, b3, rfl⟩ := hnd0.form; have hc7 := (Chg.of_below (S := (· = g)) (Below.refl w7.heap.size w7).drew).trans hc; have hx3 := (hc7.block w.heap.size tl hgn).trans X7.out; have R3 := Ad.mk (R7.out.on hc7 (fun b hb => by have hb' : b = g := hb; have := HSA.out; omega)); have W3 := Ad.mk hw; have ND3 := Ad.mk hnd; have H13 := Ad.mk h1; have u0 : w3.cell? ⟨w.heap.size, 0, none⟩ = some (.slice A5 l5.length cp5) := blk_cell hx3 0; have uf := (fun j => blk_frozen hx3 j); have ul := blk_lt hx3; have X3 := Ad.mk hx3; clear hw hnd0 hnd hx3 hc7 hb hk hs hr h1 hn hc hz))
                | (go_must (refine step_append_lies _ rfl _ _ 216 (by rfl) (w.heap.size + 1) 139 i0 _ 1 16 Tryz.underlying216 HI.out.1 HI.out.2.1 HI.out.2.2.1 HI.out.2.2.2 rfl (by omega) (.slice A5 l5.length cp5) l5.length l5 (by rfl) (own_chg R3.out.own (Chg.of_below (S := fun _ => False) (below_alloc (Below.refl _ _) _)) (fun _ _ h => h)) ⟨w3.heap.size, 0, none⟩ 1 1 [.iface T3 (.pointer (some ⟨b3, 0, none⟩))] (by rfl) rfl (World.news_of_block (blk_new _ _)) (by simp [Value.oneCell']) (by omega) (by unfold maxLen; omega) (by omega) (by simp; omega) _ rfl ?_); intro g2 cp w4 hown4 hgrow hat hlt4; have hx4 := (hgrow.block w.heap.size (by simp; omega) (fun h => by have := (own_lt R3.out.own _ h.symm).1; omega)).trans (blk_alloc X3.out _); have v0 : w4.cell? ⟨w.heap.size, 0, none⟩ = some (.slice A5 l5.length cp5) := blk_cell hx4 0; have vf := (fun j => blk_frozen hx4 j); have vl := blk_lt hx4; have X4 := Ad.mk hx4; have HOWN := Ad.mk hown4; have HGR := Ad.mk hgrow; have HAT := Ad.mk hat; clear hx4 hown4 hgrow hat))
              all_goals
                go_wp2_with fail
                have hfin := row_fin (s := .slice (some ⟨g2, 0, none⟩) (l5.length + 1) cp) 0 HSA.out (Nat.le_refl _) hgw ul W3.out R3.out ND3.out HOWN.out HGR.out HAT.out
                have hput := blk_put X4.out 0 (.slice (some ⟨g2, 0, none⟩) (l5.length + 1) cp) rfl
                go_roundw
                case measure =>
                  have c1 := blk_cell hput 0
                  simp only [c1, T5.out]
                  simp [lenOf]
                  omega
                case rel =>
                  refine ⟨⟨q3, _, l5 ++ [.iface T3 (.pointer (some ⟨b3, 0, none⟩))], ns5 ++ [n3], some ⟨g2, 0, none⟩, cp, hfin.1, ?_, by simp, by simp; omega, by simpa using hput, by simpa using hfin.2.1⟩⟩
                  have := HM5.out
                  simp
                  omega
            · go_wp2_with (go_at_call 97; refine (want_calls g q6 4 ⟨#[93]⟩ _ W6.out.b W6.out.k (by decide)).mono ?_; rintro e8 w8 (⟨x, rfl, hc⟩ | ⟨q8, rfl, hb, hk, hh, hs, hr, hc⟩) <;> (try (have W8 := Ad.mk (W6.out.want hb hk hs hr hc); have X8 := Ad.mk ((hc.block w.heap.size (blk_lt X6.out) hgn).trans X6.out); have R8 := Ad.mk (R6.out.on hc (fun b hb => by have hb' : b = g := hb; have := HSA.out; omega)); clear hb hk hh hs hr hc)))
              · exact ⟨rfl, .inl ⟨⟨x, rfl, W6.out.c.trans hc⟩, HNZ.out⟩⟩
              · go_ret
                obtain ⟨A9, c9, he9, hif⟩ := R8.out.ifl (by have := HSA.out; omega) hl5
                injection he9 with ea eb ec
                subst ea ec
                have hsa := HSA.out
                have hm5 := HM5.out
                have hr8 := W8.out.r
                exact .inr ⟨_, q8, _, rfl, W8.out.b, W8.out.k, W8.out.s, by omega, by omega, .list w.heap.size A5 cp5 l5 ns5 (Nat.le_refl _) X8.out (hif.chg (Chg.refl _ (fun _ => False)) (fun _ _ _ h => h) (fun b _ hq => by omega)) R8.out.n (fun i hi => (R8.out.i i hi).chg (Chg.refl _ (fun _ => False)) (fun _ _ _ h => h) (fun b _ hq => by have := hq.1; omega)), W8.out.c, fun h => absurd h HNZ.out⟩
            · go_wp2_with (go_at_call 97; refine (want_calls g q5 4 ⟨#[93]⟩ _ W5.out.b W5.out.k (by decide)).mono ?_; rintro e8 w8 (⟨x, rfl, hc⟩ | ⟨q8, rfl, hb, hk, hh, hs, hr, hc⟩) <;> (try (have W8 := Ad.mk (W5.out.want hb hk hs hr hc); have X8 := Ad.mk ((hc.block w.heap.size (blk_lt X5.out) hgn).trans X5.out); have R8 := Ad.mk (R5.out.on hc (fun b hb => by have hb' : b = g := hb; have := HSA.out; omega)); clear hb hk hh hs hr hc)))
              · exact ⟨rfl, .inl ⟨⟨x, rfl, W5.out.c.trans hc⟩, HNZ.out⟩⟩
              · go_ret
                obtain ⟨A9, c9, he9, hif⟩ := R8.out.ifl (by have := HSA.out; omega) hl5
                injection he9 with ea eb ec
                subst ea ec
                have hsa := HSA.out
                have hm5 := HM5.out
                have hr8 := W8.out.r
                exact .inr ⟨_, q8, _, rfl, W8.out.b, W8.out.k, W8.out.s, by omega, by omega, .list w.heap.size A5 cp5 l5 ns5 (Nat.le_refl _) X8.out (hif.chg (Chg.refl _ (fun _ => False)) (fun _ _ _ h => h) (fun b _ hq => by omega)) R8.out.n (fun i hi => (R8.out.i i hi).chg (Chg.refl _ (fun _ => False)) (fun _ _ _ h => h) (fun b _ hq => by have := hq.1; omega)), W8.out.c, fun h => absurd h HNZ.out⟩
end Go.Proofs.YtahnelihohmjfaaGreatDoor.V
namespace Go.Proofs.YtahnelihohmjfaaGreatDoor.V
open Go.RowKit
set_option linter.unusedVariables false
set_option linter.unusedSimpArgs false
def CW (w wA : World) (g : Nat) (p : PS) (N : Nat) (s : ByteArray) (n : Int) (k : Nat) (i : Nat) (wx : World) : Prop := ∃ (q : PS) (M : Nat) (l : List Value) (ns : List Nat) (A : Option Addr) (c : Nat), Way w g p M wx q ∧ ns.sum + 1 ≤ M ∧ l.length = i ∧ wx.heap[N]? = some (.cells #[.string s, .int .i64 n, .func (.func k) #[] #[], .slice A l.length c] 224 (0, 0)) ∧ NRow (N + 1) wA wx (.slice A l.length c) l ns
set_option maxHeartbeats 8000000 in
set_option maxRecDepth 100000 in
theorem call_of (N : Nat) (hex : ∀ M, M < N → NodeF 78 M) : CallF N := by
  intro g p w hb hk hv ht hnz hN s n f hbi
  obtain ⟨k, D, rfl, hn0, hn3, hkk, hdo⟩ := hbi.f
  have HBS := Ad.mk hbi.s
  have HKK := Ad.mk hkk
  have HDO := Ad.mk hdo
  have HNZ := Ad.mk hnz
  have HV := Ad.mk hv
  have HT := Ad.mk ht
  have hl := blk_lt hb.blk
  have HEX := Ad.mk hex
  have hst : ∀ (a : Addr) (f : Fn) (x y : Array Value) (m : Mode) (w : World), (store a (.func f x y) m).run Tryz.prog w = stored Tryz.prog w a (.func f x y) m := fun a f x y m w => run_store Tryz.prog w a _ m rfl
  have hbA := below_alloc (Below.refl _ w) (.cells #[.string s, .int .i64 n, .func (.func k) #[] #[]] 222)
  have HX0 := Ad.mk (blk_new w (.cells #[.string s, .int .i64 n, .func (.func k) #[] #[]] 222))
  have WA := Ad.mk (Way.start (hb.below hbA) hk)
  have HBA := Ad.mk hbA
  clear hnz hb hk hex hbA hbi hkk hdo hv ht
  go_enter Tryz.func214, Tryz.ntmps214
  have hgn : ¬ w.heap.size = g := by omega
  have hgn' : ¬ g = w.heap.size := by omega
  go_wp2_with (go_at_call 96; refine (next_have g p _ WA.out.b HV.out).mono ?_; rintro e1 w1 ⟨rfl, hb, hc⟩; have W1 := Ad.mk ((WA.out.next HV.out HT.out hb hc).back HBA.out); have hx1 := (hc.block w.heap.size (blk_lt HX0.out) hgn).trans HX0.out; have y0 := blk_cell hx1 0; have y1 := blk_cell hx1 1; have y2 := blk_cell hx1 2; have yl := blk_lt hx1; simp at y0 y1 y2; clear hb hc hx1; unfold PS.tok)
  have hbB := below_alloc (Below.refl _ w1) (.cells #[.string s, .int .i64 n, .func (.func k) #[] #[], .slice none 0 0] 224)
  have XB := Ad.mk (blk_new w1 (.cells #[.string s, .int .i64 n, .func (.func k) #[] #[], .slice none 0 0] 224))
  have WB := Ad.mk (W1.out.below hbB)
  have hsB : (w1.alloc (.cells #[.string s, .int .i64 n, .func (.func k) #[] #[], .slice none 0 0] 224)).heap.size = w1.heap.size + 1 := by simp
  clear hbB
  generalize w1.alloc (.cells #[.string s, .int .i64 n, .func (.func k) #[] #[], .slice none 0 0] 224) = wA at WB XB hsB ⊢
  have HSA := Ad.mk hsB
  have hgw : g < w1.heap.size := by omega
  have hwn := W1.out.c.size
  have hgm : ¬ w1.heap.size = g := by omega
  have hgm' : ¬ g = w1.heap.size := by omega
  clear hsB y0 y1 y2 yl
  go_at_call 97
  refine (want_calls g _ 4 ⟨#[40]⟩ _ WB.out.b WB.out.k (by decide)).mono ?_
  rintro e2 w2 (⟨x, rfl, hc⟩ | ⟨q2, rfl, hb, hk, hh, hs, hr, hc⟩)
  · exact ⟨rfl, .inl ⟨⟨x, rfl, WB.out.c.trans hc⟩, HNZ.out⟩⟩
  · have W2 := Ad.mk (WB.out.want hb hk hs hr hc)
    have hx2 := (hc.block w1.heap.size (blk_lt XB.out) hgm).trans XB.out
    have y0 := blk_cell hx2 0
    have y1 := blk_cell hx2 1
    have y2 := blk_cell hx2 2
    have y3 := blk_cell hx2 3
    have yl := blk_lt hx2
    simp at y0 y1 y2 y3
    have X2 := Ad.mk hx2
    clear hb hk hh hs hr hc hx2
    go_wp2_with fail
    go_loopw [19] (fun v19 wr => ∃ i : Nat, v19 = .int .i64 i ∧ (i : Int) ≤ n ∧ Ad (CW w wA g p w1.heap.size s n k i wr)) (fun v19 _ => n.toNat - (intOf v19).toNat)
    case atStart => exact ⟨0, rfl, by omega, ⟨_, _, [], [], none, 0, W2.out, by simp, rfl, X2.out, NRow.nil _ _ _⟩⟩
    case round =>
      obtain ⟨i, rfl, hin, ⟨⟨q5, M5, l5, ns5, A5, cp5, hw5, hm5, hl5, hx5, hr5⟩⟩⟩ := hrel
      have W5 := Ad.mk hw5
      have R5 := Ad.mk hr5
      have X5 := Ad.mk hx5
      have HM5 := Ad.mk hm5
      have HL5 := Ad.mk hl5
      clear hw5 hr5 hx5 hm5
      subst hl5
      by_cases hlt : (l5.length : Int) < n
      · have hl53 : l5.length < 3 := by omega
        by_cases h0 : l5.length = 0
        · have h0' : ¬ (0 : Int) < (l5.length : Int) := by omega
          clear h0
          go_wp2_with fail
          have t0 : wr.cell? ⟨w1.heap.size, 3, none⟩ = some (.slice A5 l5.length cp5) := blk_cell X5.out 3
          have tf := fun j => blk_frozen X5.out j
          have tl := blk_lt X5.out
          have HQ9 : Ad (∀ b, wr.drew.heap.size ≤ b → wA.heap.size ≤ b ∧ some b ≠ (Value.slice A5 l5.length cp5).ownBlock) := ⟨fun b hq => by
            have h2 := HSA.out
            have h3 : wr.heap.size ≤ b := hq
            exact ⟨by omega, fun h => by have := (own_lt R5.out.own b h.symm).2; omega⟩⟩
          have hen := enters Tryz.func78 (by kernel_rfl) (by kernel_rfl)
          have HEN := Ad.mk hen
          obtain ⟨i0, hi0, hz0, hz1, hz2⟩ := info_parts infoN
          have HI := Ad.mk (And.intro hi0 (And.intro hz0 (And.intro hz1 hz2)))
          clear hen hi0 hz0 hz1 hz2
          go_region_law (first
            | (refine step_calls rfl 78 _ _ rfl HEN.out _ (by rfl) ?_; refine (HEX.out _ (by have := W5.out.r; have := HM5.out; omega) g _ _ (W5.out.b.below (Below.refl _ _).drew) W5.out.k (Nat.le_refl _)).mono ?_; rintro e3 w3 (⟨⟨x, rfl, hc⟩, hn⟩ | ⟨v3, q3, n3, rfl, hb, hk, hs, hr, h1, hn, hc, hz⟩); (exact ⟨rfl, .inl ⟨⟨x, rfl, (W5.out.c.trans (Chg.of_below (Below.refl _ _).drew)).trans hc⟩, HNZ.out⟩⟩); (obtain ⟨hw, hnd0⟩ := (W5.out.below (Below.refl _ _).drew).node hb hk hs hr hc hn; have hnd := hn.chg (Chg.refl w3 (fun _ => False)) (fun _ _ _ h => h) (fun b _ hq => HQ9.out b hq); obtain ⟨T3, b3, rfl⟩ := hnd0.form; have hc7 := (Chg.of_below (S := (· = g)) (Below.refl wr.heap.size wr).drew).trans hc; have hx3 := (hc7.block w1.heap.size tl hgm).trans X5.out; have R3 := Ad.mk (R5.out.on hc7 (fun b hb => by have hb' : b = g := hb; have := HSA.out; omega)); have W3 := Ad.mk hw; have ND3 := Ad.mk hnd; have H13 := Ad.mk h1; have u0 : w3.cell? ⟨w1.heap.size, 3, none⟩ = some (.slice A5 l5.length cp5) := blk_cell hx3 3; have uf := (fun j => blk_frozen hx3 j); have ul := blk_lt hx3; have X3 := Ad.mk hx3; clear hw hnd0 hnd hx3 hc7 hb hk hs hr h1 hn hc hz))
            | (go_must (refine step_append_lies _ rfl _ _ 216 (by rfl) (w1.heap.size + 1) 139 i0 _ 1 16 Tryz.underlying216 HI.out.1 HI.out.2.1 HI.out.2.2.1 HI.out.2.2.2 rfl (by omega) (.slice A5 l5.length cp5) l5.length l5 (by rfl) (own_chg R3.out.own (Chg.of_below (S := fun _ => False) (below_alloc (Below.refl _ _) _)) (fun _ _ h => h)) ⟨w3.heap.size, 0, none⟩ 1 1 [.iface T3 (.pointer (some ⟨b3, 0, none⟩))] (by rfl) rfl (World.news_of_block (blk_new _ _)) (by simp [Value.oneCell']) (by omega) (by unfold maxLen; omega) (by omega) (by simp; omega) _ rfl ?_); intro g2 cp w4 hown4 hgrow hat hlt4; have hx4 := (hgrow.block w1.heap.size (by simp; omega) (fun h => by have := (own_lt R3.out.own _ h.symm).1; omega)).trans (blk_alloc X3.out _); have v0 : w4.cell? ⟨w1.heap.size, 3, none⟩ = some (.slice A5 l5.length cp5) := blk_cell hx4 3; have vf := (fun j => blk_frozen hx4 j); have vl := blk_lt hx4; have X4 := Ad.mk hx4; have HOWN := Ad.mk hown4; have HGR := Ad.mk hgrow; have HAT := Ad.mk hat; clear hx4 hown4 hgrow hat))
          all_goals
            go_wp2_with fail
            have hfin := row_fin (s := .slice (some ⟨g2, 0, none⟩) (l5.length + 1) cp) 3 HSA.out hwn hgw ul W3.out R3.out ND3.out HOWN.out HGR.out HAT.out
            have hput := blk_put X4.out 3 (.slice (some ⟨g2, 0, none⟩) (l5.length + 1) cp) rfl
            go_roundw
            case measure => simp [intOf]; omega
            case rel =>
              refine ⟨l5.length + 1, by go_num, by omega, ⟨⟨q3, _, l5 ++ [.iface T3 (.pointer (some ⟨b3, 0, none⟩))], ns5 ++ [n3], some ⟨g2, 0, none⟩, cp, hfin.1, ?_, by simp, by simpa using hput, by simpa using hfin.2.1⟩⟩⟩
              have := HM5.out
              simp
              omega
        · have h0' : (0 : Int) < (l5.length : Int) := by omega
          clear h0
          go_wp2_with (go_at_call 97; refine (want_calls g q5 4 ⟨#[44]⟩ _ W5.out.b W5.out.k (by decide)).mono ?_; rintro e6 w6 (⟨x, rfl, hc⟩ | ⟨q6, rfl, hb, hk, hh, hs, hr, hc⟩) <;> (try (have W6 := Ad.mk (W5.out.want hb hk hs hr hc); have X6 := Ad.mk ((hc.block w1.heap.size (blk_lt X5.out) hgm).trans X5.out); have R6 := Ad.mk (R5.out.on hc (fun b hb => by have hb' : b = g := hb; have := HSA.out; omega)); clear hb hk hh hs hr hc)))
          · exact ⟨rfl, .inl ⟨⟨x, rfl, W5.out.c.trans hc⟩, HNZ.out⟩⟩
          · skip
            have t0 : w6.cell? ⟨w1.heap.size, 3, none⟩ = some (.slice A5 l5.length cp5) := blk_cell X6.out 3
            have tf := fun j => blk_frozen X6.out j
            have tl := blk_lt X6.out
            have HQ9 : Ad (∀ b, w6.drew.heap.size ≤ b → wA.heap.size ≤ b ∧ some b ≠ (Value.slice A5 l5.length cp5).ownBlock) := ⟨fun b hq => by
              have h2 := HSA.out
              have h3 : w6.heap.size ≤ b := hq
              exact ⟨by omega, fun h => by have := (own_lt R6.out.own b h.symm).2; omega⟩⟩
            have hen := enters Tryz.func78 (by kernel_rfl) (by kernel_rfl)
            have HEN := Ad.mk hen
            obtain ⟨i0, hi0, hz0, hz1, hz2⟩ := info_parts infoN
            have HI := Ad.mk (And.intro hi0 (And.intro hz0 (And.intro hz1 hz2)))
            clear hen hi0 hz0 hz1 hz2
            go_region_law (first
              | (refine step_calls rfl 78 _ _ rfl HEN.out _ (by rfl) ?_; refine (HEX.out _ (by have := W6.out.r; have := HM5.out; omega) g _ _ (W6.out.b.below (Below.refl _ _).drew) W6.out.k (Nat.le_refl _)).mono ?_; rintro e3 w3 (⟨⟨x, rfl, hc⟩, hn⟩ | ⟨v3, q3, n3, rfl, hb, hk, hs, hr, h1, hn, hc, hz⟩); (exact ⟨rfl, .inl ⟨⟨x, rfl, (W6.out.c.trans (Chg.of_below (Below.refl _ _).drew)).trans hc⟩, HNZ.out⟩⟩); (obtain ⟨hw, hnd0⟩ := (W6.out.below (Below.refl _ _).drew).node hb hk hs hr hc hn; have hnd := hn.chg (Chg.refl w3 (fun _ => False)) (fun _ _ _ h => h) (fun b _ hq => HQ9.out b hq); obtain ⟨T3, b3, rfl⟩ := hnd0.form; have hc7 := (Chg.of_below (S := (· = g)) (Below.refl w6.heap.size w6).drew).trans hc; have hx3 := (hc7.block w1.heap.size tl hgm).trans X6.out; have R3 := Ad.mk (R6.out.on hc7 (fun b hb => by have hb' : b = g := hb; have := HSA.out; omega)); have W3 := Ad.mk hw; have ND3 := Ad.mk hnd; have H13 := Ad.mk h1; have u0 : w3.cell? ⟨w1.heap.size, 3, none⟩ = some (.slice A5 l5.length cp5) := blk_cell hx3 3; have uf := (fun j => blk_frozen hx3 j); have ul := blk_lt hx3; have X3 := Ad.mk hx3; clear hw hnd0 hnd hx3 hc7 hb hk hs hr h1 hn hc hz))
              | (go_must (refine step_append_lies _ rfl _ _ 216 (by rfl) (w1.heap.size + 1) 139 i0 _ 1 16 Tryz.underlying216 HI.out.1 HI.out.2.1 HI.out.2.2.1 HI.out.2.2.2 rfl (by omega) (.slice A5 l5.length cp5) l5.length l5 (by rfl) (own_chg R3.out.own (Chg.of_below (S := fun _ => False) (below_alloc (Below.refl _ _) _)) (fun _ _ h => h)) ⟨w3.heap.size, 0, none⟩ 1 1 [.iface T3 (.pointer (some ⟨b3, 0, none⟩))] (by rfl) rfl (World.news_of_block (blk_new _ _)) (by simp [Value.oneCell']) (by omega) (by unfold maxLen; omega) (by omega) (by simp; omega) _ rfl ?_); intro g2 cp w4 hown4 hgrow hat hlt4; have hx4 := (hgrow.block w1.heap.size (by simp; omega) (fun h => by have := (own_lt R3.out.own _ h.symm).1; omega)).trans (blk_alloc X3.out _); have v0 : w4.cell? ⟨w1.heap.size, 3, none⟩ = some (.slice A5 l5.length cp5) := blk_cell hx4 3; have vf := (fun j => blk_frozen hx4 j); have vl := blk_lt hx4; have X4 := Ad.mk hx4; have HOWN := Ad.mk hown4; have HGR := Ad.mk hgrow; have HAT := Ad.mk hat; clear hx4 hown4 hgrow hat))
            all_goals
              go_wp2_with fail
              have hfin := row_fin (s := .slice (some ⟨g2, 0, none⟩) (l5.length + 1) cp) 3 HSA.out hwn hgw ul W3.out R3.out ND3.out HOWN.out HGR.out HAT.out
              have hput := blk_put X4.out 3 (.slice (some ⟨g2, 0, none⟩) (l5.length + 1) cp) rfl
              go_roundw
              case measure => simp [intOf]; omega
              case rel =>
                refine ⟨l5.length + 1, by go_num, by omega, ⟨⟨q3, _, l5 ++ [.iface T3 (.pointer (some ⟨b3, 0, none⟩))], ns5 ++ [n3], some ⟨g2, 0, none⟩, cp, hfin.1, ?_, by simp, by simpa using hput, by simpa using hfin.2.1⟩⟩⟩
                have := HM5.out
                simp
                omega
      · go_wp2_with (go_at_call 97; refine (want_calls g q5 4 ⟨#[41]⟩ _ W5.out.b W5.out.k (by decide)).mono ?_; rintro e8 w8 (⟨x, rfl, hc⟩ | ⟨q8, rfl, hb, hk, hh, hs, hr, hc⟩) <;> (try (have W8 := Ad.mk (W5.out.want hb hk hs hr hc); have X8 := Ad.mk ((hc.block w1.heap.size (blk_lt X5.out) hgm).trans X5.out); have R8 := Ad.mk (R5.out.on hc (fun b hb => by have hb' : b = g := hb; have := HSA.out; omega)); clear hb hk hh hs hr hc)))
        · exact ⟨rfl, .inl ⟨⟨x, rfl, W5.out.c.trans hc⟩, HNZ.out⟩⟩
        · go_ret
          obtain ⟨A9, c9, he9, hif⟩ := R8.out.ifl (by have := HSA.out; omega) (by omega)
          injection he9 with ea eb ec
          subst ea ec
          have hsa := HSA.out
          have hm5 := HM5.out
          have hr8 := W8.out.r
          have hnl : n = (l5.length : Int) := by omega
          subst hnl
          exact .inr ⟨_, q8, _, rfl, W8.out.b, W8.out.k, W8.out.s, by omega, by omega, .call w1.heap.size s k D A5 cp5 l5 ns5 hwn X8.out HBS.out HKK.out (by simpa using HDO.out) (hif.chg (Chg.refl _ (fun _ => False)) (fun _ _ _ h => h) (fun b _ hq => by omega)) R8.out.n (fun i hi => (R8.out.i i hi).chg (Chg.refl _ (fun _ => False)) (fun _ _ _ h => h) (fun b _ hq => by have := hq.1; omega)), W8.out.c, fun h => absurd h HNZ.out⟩
end Go.Proofs.YtahnelihohmjfaaGreatDoor.V
namespace Go.Proofs.YtahnelihohmjfaaGreatDoor.V
open Go.RowKit
theorem allF : ∀ N, AllF N := knot list_of call_of
end Go.Proofs.YtahnelihohmjfaaGreatDoor.V
