/- A part of the walk (V45). -/
import Derived.Test.YtahnelihohmjfaaGreatDoorL11
import Derived.Deep.CutBlock
import Derived.BigRegion
namespace Go.Proofs.YtahnelihohmjfaaGreatDoor.V
open Go.RowKit
set_option linter.unusedVariables false
set_option linter.unusedSimpArgs false
/-! ### the parser's words -/
/-- the parser at position i, the token with a text -/
def TokW (w : World) (g tb : Nat) (p : PS) (k : Int) (ta : Nat) (i : Nat) (s : ByteArray) (n : Int) (wr : World) : Prop :=
  PB wr g { p with pos := i } ∧ wr.heap[tb]? = some (.cells #[.int .i64 k, .int .i64 ta, .string s, .int .i64 n] 177 (0, 0)) ∧ Chg w wr (fun q => q = g ∨ q = tb)
theorem TokW.drewN {w wr : World} {g tb : Nat} {p : PS} {k : Int} {ta i : Nat} {s : ByteArray} {n : Int} (h : TokW w g tb p k ta i s n wr) (m : Nat) : TokW w g tb p k ta i s n (wr.drewN m) :=
  ⟨h.1.below (below_drewN m), blk_below h.2.1 (below_drewN m), h.2.2.trans (chg_drewN m _)⟩
theorem TokW.below {w wr w' : World} {g tb : Nat} {p : PS} {k : Int} {ta i : Nat} {s : ByteArray} {n : Int} (h : TokW w g tb p k ta i s n wr) (hb : Below wr.heap.size wr w') : TokW w g tb p k ta i s n w' :=
  ⟨h.1.below hb, blk_below h.2.1 hb, h.2.2.trans (Chg.of_below hb)⟩
theorem TokW.pos {w wr : World} {g tb : Nat} {p : PS} {k : Int} {ta i : Nat} {s : ByteArray} {n : Int} (h : TokW w g tb p k ta i s n wr) (hgt : g < tb) (j : Nat) : TokW w g tb p k ta j s n (wr.setCell ⟨g, 1, none⟩ (.int .i64 j)) := by
  obtain ⟨hb, ht, hc⟩ := h
  have hc2 := (Chg.refl wr (· = g)).set rfl 1 (.int .i64 j)
  exact ⟨⟨blk_put hb.blk 1 (.int .i64 j) rfl, hb.gv.chg hc2⟩, (hc2.block tb (blk_lt ht) (fun e => by have e' : tb = g := e; omega)).trans ht, hc.set (.inl rfl) 1 _⟩
theorem TokW.next {w wr : World} {g tb : Nat} {p : PS} {k : Int} {ta i : Nat} {s : ByteArray} {n : Int} (h : TokW w g tb p k ta i s n wr) (hgt : g < tb) : TokW w g tb p k ta (i + 1) s n (wr.setCell ⟨g, 1, none⟩ (.int .i64 ((i : Int) + 1))) := h.pos hgt (i + 1)
theorem TokW.kind {w wr : World} {g tb : Nat} {p : PS} {k : Int} {ta i : Nat} {s : ByteArray} {n : Int} (h : TokW w g tb p k ta i s n wr) (hgt : g < tb) (m : Int) : TokW w g tb p m ta i s n (wr.setCell ⟨tb, 0, none⟩ (.int .i64 m)) := by
  obtain ⟨hb, ht, hc⟩ := h
  have hc2 := (Chg.refl wr (· = tb)).set rfl 0 (.int .i64 m)
  exact ⟨⟨(hc2.block g (blk_lt hb.blk) (fun e => by have e' : g = tb := e; omega)).trans hb.blk, hb.gv.chgS hc2 (fun q hq => by have e' : q = tb := hq; omega)⟩, blk_put ht 0 (.int .i64 m) rfl, hc.set (.inr rfl) 0 _⟩
theorem TokW.text {w wr : World} {g tb : Nat} {p : PS} {k : Int} {ta i : Nat} {s : ByteArray} {n : Int} (h : TokW w g tb p k ta i s n wr) (hgt : g < tb) (m : ByteArray) : TokW w g tb p k ta i m n (wr.setCell ⟨tb, 2, none⟩ (.string m)) := by
  obtain ⟨hb, ht, hc⟩ := h
  have hc2 := (Chg.refl wr (· = tb)).set rfl 2 (.string m)
  exact ⟨⟨(hc2.block g (blk_lt hb.blk) (fun e => by have e' : g = tb := e; omega)).trans hb.blk, hb.gv.chgS hc2 (fun q hq => by have e' : q = tb := hq; omega)⟩, blk_put ht 2 (.string m) rfl, hc.set (.inr rfl) 2 _⟩
/-- what a token's reader leaves -/
def ReadT (w : World) (g tb : Nat) (p : PS) (k : Int) (ta : Nat) (e : Ending) (w' : World) : Prop :=
  Gave w (fun q => q = g ∨ q = tb) e w' ∨ ∃ i s n, e = .returned (.tuple #[]) ∧ p.pos < i ∧ i ≤ p.s.size ∧ s.size ≤ 100 ∧ (k = 3 → s.size ≤ 24) ∧ TokW w g tb p k ta i s n w' ∧ I64 n
theorem words_index (j : Nat) (h : j < 11) (w : World) : (Instr.index 266 (.agg #[.string ⟨#[107, 101, 121]⟩, .string ⟨#[118, 97, 108]⟩, .string ⟨#[97, 99, 99]⟩, .string ⟨#[104, 111, 112, 115]⟩, .string ⟨#[110, 111, 110, 101]⟩, .string ⟨#[105, 102]⟩, .string ⟨#[116, 104, 101, 110]⟩, .string ⟨#[101, 108, 115, 101]⟩, .string ⟨#[97, 110, 100]⟩, .string ⟨#[111, 114]⟩, .string ⟨#[110, 111, 116]⟩]) (.int .i64 j)).run Tryz.prog w = .ok (.string (wordsL.getD j ⟨#[]⟩)) w := by
  have hj : j = 0 ∨ j = 1 ∨ j = 2 ∨ j = 3 ∨ j = 4 ∨ j = 5 ∨ j = 6 ∨ j = 7 ∨ j = 8 ∨ j = 9 ∨ j = 10 := by omega
  rcases hj with rfl | rfl | rfl | rfl | rfl | rfl | rfl | rfl | rfl | rfl | rfl
  all_goals (clear h; refine Eq.trans (b := _) ?_ rfl; kernel_rfl)
set_option maxHeartbeats 8000000 in
set_option maxRecDepth 100000 in
theorem word_read (g tb : Nat) (p : PS) (ta : Nat) (w : World) (hb : PB w g p) (hs : p.s.size ≤ 100) (hp : p.pos < p.s.size) (hd : 97 ≤ p.s[p.pos].toNat ∧ p.s[p.pos].toNat ≤ 122) (hta : ta = p.pos) (ht : w.heap[tb]? = some (.cells #[.int .i64 0, .int .i64 ta, .string ⟨#[]⟩, .int .i64 0] 177 (0, 0))) (hgt : g < tb) :
    Calls Tryz.prog 117 #[.pointer (some ⟨g, 0, none⟩), .pointer (some ⟨tb, 0, none⟩)] w (ReadT w g tb p 2 ta) := by
  have HD := Ad.mk hd
  clear hd
  have hT : TokW w g tb p 0 ta p.pos ⟨#[]⟩ 0 w := ⟨hb, ht, Chg.refl _ _⟩
  have HT := Ad.mk hT
  have hl := blk_lt hb.blk
  have htl := blk_lt ht
  have n1 : ¬ g = tb := by omega
  have n2 : ¬ tb = g := by omega
  have HGT := Ad.mk hgt
  have t0 := blk_cell ht 0
  have tf := fun j => blk_frozen ht j
  clear hb ht hT hgt
  go_enter Tryz.func117, Tryz.ntmps117
  go_upto_block 0 with fail
  clear t0 tf
  go_cut [] (fun wx => ∃ (i : Nat), p.pos < i ∧ i ≤ p.s.size ∧ Ad (TokW w g tb p 2 ta i ⟨#[]⟩ 0 wx))
  case first =>
    go_wp2_with fail
    go_loopw [] (fun wr => ∃ (i : Nat), p.pos ≤ i ∧ i ≤ p.s.size ∧ Ad (TokW w g tb p 2 ta i ⟨#[]⟩ 0 wr)) (fun wr => p.s.size - (intOf ((wr.cell? ⟨g, 1, none⟩).getD undef)).toNat)
    case atStart => exact ⟨p.pos, Nat.le_refl _, by omega, ⟨HT.out.kind HGT.out 2⟩⟩
    case round =>
      obtain ⟨i, hi0, hi1, hW⟩ := hrel
      obtain ⟨hbw, htw, hcw⟩ := hW.out
      obtain ⟨c0, c1, c2, c3, c4, c5, c6, c7, cf⟩ := hbw.cells
      have wl := blk_lt hbw.blk
      have wtl := blk_lt htw
      have t0 := blk_cell htw 0
      have t1 := blk_cell htw 1
      have t2 := blk_cell htw 2
      have tf := fun j => blk_frozen htw j
      simp at t0 t1 t2
      clear hbw htw hcw
      by_cases hlt : i < p.s.size
      · have j0 : (0 : Int) ≤ (i : Int) := by omega
        have j1 : (i : Int) < (p.s.size : Int) := by omega
        by_cases hd : (97 : Int) ≤ (p.s[i].toNat : Int) ∧ (p.s[i].toNat : Int) ≤ 122
        · have e1 := decide_eq_true hd.1
          have e2 := decide_eq_true hd.2
          go_wp2_with fail
          go_quiet (fail)
          go_wp2_with fail
          have hstep := fun k => (hW.out.drewN k).next HGT.out
          refine ⟨⟨i + 1, by omega, by omega, ⟨hstep _⟩⟩, ?_⟩
          rw [c1]
          rw [(hstep _).1.cells.2.1]
          simp [intOf]
          omega
        · by_cases hd1 : (97 : Int) ≤ (p.s[i].toNat : Int)
          · have e1 := decide_eq_true hd1
            have e2 : decide ((p.s[i].toNat : Int) ≤ 122) = false := decide_eq_false (fun h => hd ⟨hd1, h⟩)
            go_wp2_with fail
            go_quiet (fail)
            go_wp2_with fail
            go_meet
            exact ⟨i, by rcases Nat.lt_or_ge p.pos i with h | h; exact h; (have e : i = p.pos := by omega); subst e; have := HD.out; omega, hi1, ⟨hW.out.drewN _⟩⟩
          · have e1 := decide_eq_false hd1
            go_wp2_with fail
            go_quiet (fail)
            go_wp2_with fail
            go_meet
            exact ⟨i, by rcases Nat.lt_or_ge p.pos i with h | h; exact h; (have e : i = p.pos := by omega); subst e; have := HD.out; omega, hi1, ⟨hW.out.drewN _⟩⟩
      · have e0 : decide ((i : Int) < (p.s.size : Int)) = false := decide_eq_false (by omega)
        go_wp2_with fail
        go_quiet (fail)
        go_wp2_with fail
        go_meet
        exact ⟨i, by rcases Nat.lt_or_ge p.pos i with h | h; exact h; (have e : i = p.pos := by omega); subst e; have := HD.out; omega, hi1, ⟨hW.out.drewN _⟩⟩
  case rest =>
    obtain ⟨i, hi0, hi1, hW⟩ := hcut
    obtain ⟨hbw, htw, hcw⟩ := hW.out
    have c0 := hbw.cells.1
    have c1 := hbw.cells.2.1
    have wl := blk_lt hbw.blk
    have wtl := blk_lt htw
    have t1 := blk_cell htw 1
    have t2 := blk_cell htw 2
    have tf := fun j => blk_frozen htw j
    simp at c0 c1 t1 t2
    clear hbw htw hcw
    have j0 : (0 : Int) ≤ (ta : Int) := by omega
    have j1 : (ta : Int) ≤ (i : Int) := by omega
    have j2 : (i : Int) ≤ (p.s.size : Int) := by omega
    have hgv := hW.out.1.gv
    have g2 : 2 < g := by obtain ⟨w0, h0, h1, h2⟩ := hgv; have := World.block_lt_of_cell? _ _ (h0.words 0 (by omega)); simp at this; omega
    have ws := fun i hi => hgv.gv.words i hi
    have q1 : ¬ tb = 2 := by have := HGT.out; omega
    have q2 : ¬ 2 = tb := by omega
    have ws0 := ws 0 (by omega)
    have ws1 := ws 1 (by omega)
    have ws2 := ws 2 (by omega)
    have ws3 := ws 3 (by omega)
    have ws4 := ws 4 (by omega)
    have ws5 := ws 5 (by omega)
    have ws6 := ws 6 (by omega)
    have ws7 := ws 7 (by omega)
    have ws8 := ws 8 (by omega)
    have ws9 := ws 9 (by omega)
    have ws10 := ws 10 (by omega)
    simp only [wordsL, List.getD_cons_zero, List.getD_cons_succ] at ws0 ws1 ws2 ws3 ws4 ws5 ws6 ws7 ws8 ws9 ws10
    clear ws hgv
    go_wp2_with fail
    go_region
    go_wp2_with fail
    have hW2 : TokW w g tb p 2 ta i (p.s.extract p.pos i) 0 ((wc.setCell ⟨tb, 2, none⟩ (.string (p.s.extract p.pos i))).drew) := (hW.out.text HGT.out _).below (Below.refl _ _).drew
    generalize (wc.setCell ⟨tb, 2, none⟩ (.string (p.s.extract p.pos i))).drew = W2 at hW2 ⊢
    have HW2 := Ad.mk hW2
    have x2 := blk_cell hW2.2.1 2
    have x1 := blk_cell hW2.2.1 1
    simp at x1 x2
    have hsz : (p.s.extract p.pos i).size ≤ 100 := by rw [ByteArray.size_extract]; omega
    clear hW2 ws0 ws1 ws2 ws3 ws4 ws5 ws6 ws7 ws8 ws9 ws10 t1 t2 tf
    go_loopw [5, 69] (fun v5 v69 wr => ∃ j : Nat, j ≤ 11 ∧ v69 = .int .i64 j ∧ wr = W2) (fun _ v69 _ => 11 - (intOf v69).toNat)
    case atStart => exact ⟨0, by omega, rfl, rfl⟩
    case round =>
      obtain ⟨j, hj, rfl, rfl⟩ := hrel
      by_cases hlt : j < 11
      · have k0 : (0 : Int) ≤ (j : Int) := by omega
        have k1 : (j : Int) < 11 := by omega
        have hix := words_index j hlt
        go_wp2_with fail
        · first | go_end0 | refine bodyPost_ret (results_none rfl _ _ _) rfl ?_
          exact .inr ⟨i, _, 0, rfl, hi0, hi1, hsz, fun h => by omega, HW2.out, by unfold I64; omega⟩
        · exact ⟨⟨j + 1, by omega, by go_num, trivial⟩, by simp [intOf]; omega⟩
      · go_wp2_with (first
          | (go_at_call 133; refine (find_calls _ _).mono ?_; rintro e1 w1 ⟨s1, m1, f1, b1, rfl, hb1, hst1, hok1⟩; have HB1 := Ad.mk hb1; have xx := cell_below hb1 x1; have xl := Nat.lt_of_lt_of_le (blk_lt HW2.out.2.1) hb1.size; clear hb1 x1 x2)
          | (go_at_call 77; refine (giveUp_calls _ _ _).mono ?_; rintro e' w' ⟨x, rfl, hc⟩))
        · exact ⟨rfl, .inl ⟨x, rfl, ((HW2.out.below HB1.out).below (below_alloc (Below.refl _ _) _)).2.2.then_ hc (fun _ _ h => h.elim)⟩⟩
        · go_end0
          exact .inr ⟨i, _, 0, rfl, hi0, hi1, hsz, fun h => by omega, (HW2.out.below HB1.out).below (below_alloc (Below.refl _ _) _), by unfold I64; omega⟩
end Go.Proofs.YtahnelihohmjfaaGreatDoor.V
