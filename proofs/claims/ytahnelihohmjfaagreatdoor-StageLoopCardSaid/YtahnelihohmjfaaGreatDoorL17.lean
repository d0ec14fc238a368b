/- A part of the walk (V48). -/
import Derived.Test.YtahnelihohmjfaaGreatDoorL16
import Derived.Deep.DeepMust
import Derived.Deep.CutBlock
import Derived.WalkMore
namespace Go.Proofs.YtahnelihohmjfaaGreatDoor.V
open Go.RowKit
set_option linter.unusedVariables false
set_option linter.unusedSimpArgs false
theorem byteAt_plain {s : ByteArray} (h : ∀ k (hk : k < s.size), 32 ≤ s[k].toNat ∧ s[k].toNat ≤ 126) (i : Nat) : byteAt s i = 0 ∨ (32 ≤ byteAt s i ∧ byteAt s i ≤ 126) := by
  unfold byteAt
  split
  · rename_i hk
    have := h i hk
    right
    omega
  · exact .inl rfl
theorem cells_snoc (l : List UInt8) (x : Int) (h0 : 0 ≤ x) (h1 : x < 256) : Lib.byteCells l ++ [.int .u8 x] = Lib.byteCells (l ++ [UInt8.ofNat x.toNat]) := by
  have h2 : ((UInt8.ofNat x.toNat).toNat : Int) = x := by simp; omega
  unfold Lib.byteCells
  rw [List.map_append, List.map_cons, List.map_nil, h2]
theorem bytes_string {w : World} {base : Nat} {v : Value} {l : List UInt8} (h : w.ownsRow base 5 1 v l.length (Lib.byteCells l)) : (convert 169 9 v).run Tryz.prog w = .ok (.string ⟨l.toArray⟩) w := by
  rcases h.2 with ⟨rfl, h0⟩ | ⟨g, cap, cur, rfl, hb, hh, hn, hm, hs, ht⟩
  · have hl : l = [] := List.eq_nil_of_length_eq_zero (by simpa using h0)
    subst hl
    exact run_convert_bytes_string w 169 9 5 none 0 0 Tryz.underlying169 Tryz.underlying5 Tryz.underlying9
  · exact run_convert_bytes_back w 169 9 5 ⟨g, 0, none⟩ cap l Tryz.underlying169 Tryz.underlying5 Tryz.underlying9 (fun j hj => by
      have e1 : (Lib.byteCells l)[j]? = some (.int .u8 (l[j].toNat : Int)) := by simp [Lib.byteCells, hj]
      rw [← ht, List.getElem?_take, if_pos (by simpa using hj)] at e1
      have e2 := blk_cell hh j
      rw [← Array.getElem?_toList, e1] at e2
      have e3 : (⟨g, 0, none⟩ : Addr).add j = ⟨g, j, none⟩ := by unfold Addr.add; split <;> simp_all
      rw [e3]
      simpa using e2)
/-- a text that was read -/
def RText (w : World) (r : Nat) (s : ByteArray) (n : Int) (e : Ending) (w' : World) : Prop := Fell w (· = r) e w' ∨ ∃ t j, e = .returned (.string t) ∧ t.size ≤ 24 ∧ RB w' r s j n ∧ Chg w w' (· = r)
def TLoop (w : World) (r : Nat) (s : ByteArray) (n : Int) (v4 : Value) (wr : World) : Prop := ∃ (j : Nat) (l : List UInt8), l.length ≤ j ∧ RB wr r s j n ∧ wr.ownsRow w.heap.size 5 1 v4 l.length (Lib.byteCells l) ∧ Chg w wr (· = r)
theorem TLoop.mv {w wr w' : World} {r : Nat} {s : ByteArray} {n : Int} {v4 : Value} {j : Nat} {l : List UInt8} (hl : r < w.heap.size) (hlj : l.length ≤ j) (hr : RB w' r s j n) (ho : wr.ownsRow w.heap.size 5 1 v4 l.length (Lib.byteCells l)) (hc : Chg w wr (· = r)) (hc2 : Chg wr w' (· = r)) : TLoop w r s n v4 w' :=
  ⟨j, l, hlj, hr, own_chg ho hc2 (fun g hg he => by have h1 := (own_lt ho g hg).1; have h2 : g = r := he; omega), hc.trans hc2⟩
theorem info5s : (Tryz.prog.info? 5).map (fun i => (i.zero, i.size, i.bytes)) = some (some (.int .u8 0), 1, 1) := by kernel_rfl
theorem row_grow {w wr w' : World} {r : Nat} {s : ByteArray} {n : Int} {v4 : Value} {j g cap : Nat} {l : List UInt8} {x : Int} (hl : r < w.heap.size) (hr : RB wr r s j n) (ho : wr.ownsRow w.heap.size 5 1 v4 l.length (Lib.byteCells l)) (h0 : 0 ≤ x) (h1 : x < 256)
    (hown : w'.ownsRow w.heap.size 5 1 (.slice (some ⟨g, 0, none⟩) (l.length + 1) cap) (l.length + 1) (Lib.byteCells l ++ [.int .u8 x])) (hg : wr.grownBy w' v4.ownBlock) :
    RB w' r s j n ∧ w'.ownsRow w.heap.size 5 1 (.slice (some ⟨g, 0, none⟩) (l.length + 1) cap) (l ++ [UInt8.ofNat x.toNat]).length (Lib.byteCells (l ++ [UInt8.ofNat x.toNat])) ∧ ∀ S : Nat → Prop, Chg w wr S → Chg w w' S := by
  have hne : some r ≠ v4.ownBlock := fun e => by have := (own_lt ho r e.symm).1; omega
  have hc2 : Chg wr w' (fun q => some q = v4.ownBlock) := ⟨hg.os, hg.tape, hg.output, hg.size, fun i hi hn => hg.block i hi hn⟩
  refine ⟨⟨(hc2.block r (blk_lt hr.blk) hne).trans hr.blk, hr.i, hr.s⟩, ?_, fun S hc => hc.then_ hc2 (fun q hq e => by have := (own_lt ho q e.symm).1; omega)⟩
  rw [← cells_snoc l x h0 h1]
  simpa using hown
set_option maxHeartbeats 8000000 in
set_option maxRecDepth 100000 in
theorem text_calls (r : Nat) (s : ByteArray) (i : Nat) (n : Int) (w : World) (h : RB w r s i n) (hi : i < s.size) (hp : ∀ k (hk : k < s.size), 32 ≤ s[k].toNat ∧ s[k].toNat ≤ 126) (hg : GVb w r) : Calls Tryz.prog 172 #[.pointer (some ⟨r, 0, none⟩)] w (RText w r s n) := by
  have H := Ad.mk h
  have HG := Ad.mk hg
  have HP := Ad.mk hp
  obtain ⟨c0, c1, c2, cf⟩ := h.cells
  have hs := h.s
  have hl := blk_lt h.blk
  clear h hg hp
  go_enter Tryz.func172, Tryz.ntmps172
  go_wp2_with fail
  go_step3
  go_wp2_with fail
  go_step3
  go_upto_block 0 with fail
  clear c0 c1 c2 cf
  go_cut [4] (fun v4 wx => Ad (TLoop w r s n v4 wx))
  case first =>
    go_wp2_with fail
    go_loopw [4, 5, 6, 7] (fun v4 v5 v6 v7 wr => Ad (TLoop w r s n v4 wr)) (fun _ _ _ _ wr => s.size - (intOf ((wr.cell? ⟨r, 1, none⟩).getD undef)).toNat)
    case atStart => exact ⟨⟨i + 1, [], by simp, H.out.next hi, World.ownsRow_nil _ _ _ _, (Chg.refl w (· = r)).set rfl 1 _⟩⟩
    case round =>
      obtain ⟨j, l, hlj, hr, hown, hc⟩ := hrel.out
      obtain ⟨c0, c1, c2, cf⟩ := hr.cells
      have hrl := blk_lt hr.blk
      obtain ⟨b, hb⟩ : ∃ b, byteAt s j = b := ⟨_, rfl⟩
      have hpk := fun w' hr => rpeek_calls r s j n w' hr
      have hpl := byteAt_plain HP.out j
      rw [hb] at hpk hpl
      have HPK := Ad.mk hpk
      have HBY := Ad.mk hb
      have HR := Ad.mk hr
      have HO := Ad.mk hown
      have HC := Ad.mk hc
      have HJ := hr.i
      clear hrel hr hown hc hpk hb
      by_cases h34 : (b == 34) = true
      · have hjl : j < s.size := byteAt_lt (by rw [HBY.out]; intro hz; subst hz; simp at h34)
        go_wp2_with (go_at_call 170; refine (HPK.out _ HR.out).mono ?_; rintro e1 w1 ⟨rfl, k, rfl⟩)
        go_meet
        exact ⟨TLoop.mv hl (by omega) ((HR.out.drewN k).next hjl) HO.out HC.out ((chg_drewN k (· = r)).set rfl 1 _)⟩
      · have h34' : (b == 34) = false := by simpa using h34
        obtain ⟨i0, hi0, hz0, hz1, hz2⟩ := info_parts info5s
        have HI := Ad.mk (And.intro hi0 (And.intro hz0 (And.intro hz1 hz2)))
        clear hi0 hz0 hz1 hz2
        by_cases h92 : (b == 92) = true
        · have hjl : j < s.size := byteAt_lt (by rw [HBY.out]; intro hz; subst hz; simp at h92)
          go_wp2_with (first
            | (go_at_call 170; refine (HPK.out _ HR.out).mono ?_; rintro e1 w1 ⟨rfl, k, rfl⟩; have H1 := Ad.mk ((HR.out.drewN k).next hjl); have C1 := Ad.mk ((chg_drewN (w := wr) k (· = r)).set rfl 1 (.int .i64 ((j : Int) + 1))))
            | (go_at_call 192; refine (escape_calls r s (j + 1) n _ H1.out).mono ?_; rintro e2 w2 (⟨a2, b2, rfl, hc2⟩ | ⟨x2, j2, rfl, hy0, hy1, hj2, hr2, hc2⟩))
            | (at_builtin; go_must (refine wpList_append_lies _ rfl _ _ 169 (by rfl) w.heap.size 5 i0 _ 1 1 Tryz.underlying169 HI.out.1 HI.out.2.1 HI.out.2.2.1 HI.out.2.2.2 rfl (by omega) u4 l.length _ (by rfl) (own_chg HO.out ((C1.out.trans hc2).alloc _) (fun g hg he => by have h1 := (own_lt HO.out g hg).1; have h2 : g = r := he; omega)) ⟨w2.heap.size, 0, none⟩ 1 1 [.int .u8 x2] (by rfl) rfl (World.news_of_block (blk_new _ _)) (by simp [Value.oneCell']) (by omega) (by unfold maxLen; omega) (by omega) (by have := ((C1.out.trans hc2).alloc (.cells #[.int .u8 x2] 5)).size; have := HC.out.size; omega) _ rfl ?_); intro g cp w3 hown3 hgrow hat hlt3))
          · exact ⟨rfl, .inl ⟨_, _, rfl, (HC.out.trans C1.out).trans hc2⟩⟩
          · obtain ⟨q1, q2, q3⟩ := row_grow hl (hr2.below (below_alloc (Below.refl _ _) _)) (own_chg HO.out ((C1.out.trans hc2).alloc _) (fun g hg he => by have h1 := (own_lt HO.out g hg).1; have h2 : g = r := he; omega)) hy0 hy1 hown3 hgrow
            refine ⟨⟨⟨j2, _, by simp; omega, q1, q2, q3 _ ((HC.out.trans C1.out).trans (hc2.alloc _))⟩⟩, ?_⟩
            rw [c1, q1.cells.2.1]
            have := hr2.i
            simp [intOf]
            omega
        · have h92' : (b == 92) = false := by simpa using h92
          by_cases h0 : b = 0
          · subst h0
            have hje : j = s.size := by
              rcases Nat.lt_or_ge j s.size with hlt | hge
              · have h1 := HBY.out
                unfold byteAt at h1
                rw [dif_pos hlt] at h1
                have := HP.out j hlt
                omega
              · omega
            have j0 : (0 : Int) ≤ (j : Int) := by omega
            have j1 : (j : Int) ≤ (s.size : Int) := by omega
            have hgv := HG.out.chg HC.out
            have HGV := Ad.mk hgv.gv
            clear hgv
            go_wp2_with (go_at_call 170; refine (HPK.out _ HR.out).mono ?_; rintro e1 w1 ⟨rfl, k, rfl⟩)
            go_region_held3 (fun w' => w'.cell? ⟨r, 0, none⟩ = some (.string s) ∧ w'.cell? ⟨r, 1, none⟩ = some (.int .i64 j)) (first | (with_reducible exact ⟨cell_below HB1.out c0', cell_below HB1.out c1'⟩) | go_keep)
              ((go_at_call 140; refine (decode_calls _ _ (by simp) (HGV.out.below (below_drewN _))).mono ?_; rintro e2 w2 ⟨rn, d, rfl, hd0, hd1, hd2, hd3, hb1⟩; have HB1 := Ad.mk hb1; have c0' := cell_below (below_drewN (k + 1)) c0; have c1' := cell_below (below_drewN (k + 1)) c1; clear hb1))
            have c1'' := cell_below HB1.out c1'
            go_wp2_with (go_at_call 150; refine (fail_calls _ _ _ _).mono ?_; rintro e' w' ⟨a, b, rfl, hc⟩)
            exact ⟨rfl, .inl ⟨_, _, rfl, ((HC.out.trans (chg_drewN _ _)).trans (Chg.of_below HB1.out)).then_ hc (fun _ _ h => h.elim)⟩⟩
          · have hb1 : 32 ≤ b ∧ b ≤ 126 := by omega
            have e1 := decide_eq_true hb1.1
            have e2 := decide_eq_true hb1.2
            have hjl : j < s.size := byteAt_lt (by rw [HBY.out]; exact h0)
            go_wp2_with (first
              | (go_at_call 170; refine (HPK.out _ HR.out).mono ?_; rintro e1 w1 ⟨rfl, k, rfl⟩)
              | (at_builtin; go_must (refine wpList_append_lies _ rfl _ _ 169 (by rfl) w.heap.size 5 i0 _ 1 1 Tryz.underlying169 HI.out.1 HI.out.2.1 HI.out.2.2.1 HI.out.2.2.2 rfl (by omega) u4 l.length _ (by rfl) (own_chg HO.out ((chg_drewN k (· = r)).alloc _) (fun g hg he => by have h1 := (own_lt HO.out g hg).1; have h2 : g = r := he; omega)) ⟨wr.heap.size, 0, none⟩ 1 1 [.int .u8 b] (by rfl) rfl (World.news_of_block (blk_new _ _)) (by simp [Value.oneCell']) (by omega) (by unfold maxLen; omega) (by omega) (by have := HC.out.size; simp; omega) _ rfl ?_); intro g cp w3 hown3 hgrow hat hlt3; obtain ⟨q1, q2, q3⟩ := row_grow hl (HR.out.below ((below_alloc (below_drewN k) (.cells #[.int .u8 b] 5)))) (own_chg HO.out ((chg_drewN k (· = r)).alloc _) (fun g hg he => by have h1 := (own_lt HO.out g hg).1; have h2 : g = r := he; omega)) (by omega) (by omega) hown3 hgrow; obtain ⟨d0, d1, d2, df⟩ := q1.cells; have hrl3 := blk_lt q1.blk; have Q1 := Ad.mk q1; have Q2 := Ad.mk q2; have Q3 := Ad.mk q3; clear q1 q2 q3 hown3 hgrow hat))
            have hm := TLoop.mv (w' := w3.setCell ⟨r, 1, none⟩ (.int .i64 ((j : Int) + 1))) (j := j + 1) hl (by simp; omega) (Q1.out.next hjl) Q2.out (Q3.out _ (HC.out.trans ((chg_drewN k (· = r)).alloc _))) ((Chg.refl w3 (· = r)).set rfl 1 _)
            refine ⟨⟨hm⟩, ?_⟩
            rw [c1, (Q1.out.next hjl).cells.2.1]
            simp [intOf]
            omega
  case rest =>
    obtain ⟨j, l, hlj, hr, hown, hc⟩ := hcut.out
    have HR := Ad.mk hr
    have HC := Ad.mk hc
    have hcv := bytes_string hown
    obtain ⟨A, c, rfl⟩ : ∃ A c, u4 = .slice A l.length c := by
      rcases hown.2 with ⟨rfl, h0⟩ | ⟨g, cap, cur, rfl, _⟩
      · exact ⟨none, 0, by rw [h0]⟩
      · exact ⟨_, _, rfl⟩
    clear hr hown hc
    by_cases h24 : (l.length : Int) ≤ 24
    · go_wp2_with fail
      rw [Exit.noGoto_ret]
      go_ret
      exact .inr ⟨_, j, rfl, by show l.toArray.size ≤ 24; simp; omega, HR.out, HC.out⟩
    · go_wp2_with (go_at_call 150; refine (fail_calls _ _ _ _).mono ?_; rintro e' w' ⟨a, b, rfl, hc⟩)
      exact ⟨rfl, .inl ⟨_, _, rfl, HC.out.then_ hc (fun _ _ h => h.elim)⟩⟩
end Go.Proofs.YtahnelihohmjfaaGreatDoor.V
