/- A part of the walk (V46). -/
import Derived.Test.YtahnelihohmjfaaGreatDoorL12
import Derived.Laws.Closers25b
namespace Go.Proofs.YtahnelihohmjfaaGreatDoor.V
open Go.RowKit
set_option linter.unusedVariables false
set_option linter.unusedSimpArgs false
/-! ### the reader of values, as far as texts go -/
structure RB (w : World) (r : Nat) (s : ByteArray) (i : Nat) (n : Int) : Prop where
  blk : w.heap[r]? = some (.cells #[.string s, .int .i64 i, .int .i64 n] 287 (0, 0))
  i : i ≤ s.size
  s : s.size ≤ 100
theorem RB.cells {w : World} {r : Nat} {s : ByteArray} {i : Nat} {n : Int} (h : RB w r s i n) : w.cell? ⟨r, 0, none⟩ = some (.string s) ∧ w.cell? ⟨r, 1, none⟩ = some (.int .i64 i) ∧ w.cell? ⟨r, 2, none⟩ = some (.int .i64 n) ∧ ∀ j, w.frozen? ⟨r, j, none⟩ = false := ⟨blk_cell h.blk 0, blk_cell h.blk 1, blk_cell h.blk 2, blk_frozen h.blk⟩
theorem RB.below {w w' : World} {r : Nat} {s : ByteArray} {i : Nat} {n : Int} (h : RB w r s i n) (hb : Below w.heap.size w w') : RB w' r s i n := ⟨blk_below h.blk hb, h.i, h.s⟩
theorem RB.next {w : World} {r : Nat} {s : ByteArray} {i : Nat} {n : Int} (h : RB w r s i n) (hi : i < s.size) : RB (w.setCell ⟨r, 1, none⟩ (.int .i64 ((i : Int) + 1))) r s (i + 1) n := ⟨blk_put h.blk 1 (.int .i64 ((i : Int) + 1)) rfl, hi, h.s⟩
/-- the byte that stands there; 0 at the end -/
def byteAt (s : ByteArray) (i : Nat) : Int := if h : i < s.size then (s[i].toNat : Int) else 0
theorem byteAt_lt {s : ByteArray} {i : Nat} (h : byteAt s i ≠ 0) : i < s.size := by
  unfold byteAt at h
  split at h
  · assumption
  · exact absurd rfl h
theorem byteAt_u8 (s : ByteArray) (i : Nat) : 0 ≤ byteAt s i ∧ byteAt s i < 256 := by
  unfold byteAt
  split
  · have := UInt8.toNat_lt s[i]; omega
  · omega
/-- thrown -/
def Fell (w : World) (S : Nat → Prop) (e : Ending) (w' : World) : Prop := ∃ a b, e = .panicked [{ v := .iface 290 (.agg #[.int .i64 a, .int .i64 b]), recovered := false }] ∧ Chg w w' S
set_option maxHeartbeats 4000000 in
theorem fail_calls (r : Nat) (a b : Int) (w : World) : Calls Tryz.prog 150 #[.pointer (some ⟨r, 0, none⟩), .int .i64 a, .int .i64 b] w (Fell w (fun _ => False)) := by
  go_enter Tryz.func150, Tryz.ntmps150
  go_wp2_with fail
  exact ⟨rfl, _, _, rfl, Chg.refl _ _⟩
set_option maxHeartbeats 4000000 in
theorem rpeek_calls (r : Nat) (s : ByteArray) (i : Nat) (n : Int) (w : World) (h : RB w r s i n) : Calls Tryz.prog 170 #[.pointer (some ⟨r, 0, none⟩)] w (fun e w' => e = .returned (.int .u8 (byteAt s i)) ∧ ∃ k, w' = w.drewN k) := by
  obtain ⟨c0, c1, c2, cf⟩ := h.cells
  have hi := h.i
  have hs := h.s
  clear h
  by_cases hlt : i < s.size
  · have j0 : (0 : Int) ≤ (i : Int) := by omega
    have j1 : (i : Int) < (s.size : Int) := by omega
    have hbv : byteAt s i = (s[i].toNat : Int) := dif_pos hlt
    go_enter Tryz.func170, Tryz.ntmps170
    go_wp2_with fail
    go_quiet (fail)
    go_wp2_with fail
    go_quiet (fail)
    go_wp2_with fail
    go_ret
    refine ⟨by rw [hbv]; rfl, ?_⟩
    first | exact ⟨_, rfl⟩ | (simp only [World.drewN_drewN]; exact ⟨_, rfl⟩)
  · have hbv : byteAt s i = 0 := dif_neg hlt
    have e0 : decide ((i : Int) < (s.size : Int)) = false := decide_eq_false (by omega)
    go_enter Tryz.func170, Tryz.ntmps170
    go_wp2_with fail
    go_quiet (fail)
    go_wp2_with fail
    go_ret
    refine ⟨by rw [hbv]; rfl, ?_⟩
    first | exact ⟨_, rfl⟩ | (simp only [World.drewN_drewN]; exact ⟨_, rfl⟩)
theorem RB.drewN {w : World} {r : Nat} {s : ByteArray} {i : Nat} {n : Int} (h : RB w r s i n) (k : Nat) : RB (w.drewN k) r s i n := h.below (below_drewN k)
/-- what a reading method leaves: thrown, or a byte; at least d bytes further on -/
def RByte (w : World) (r : Nat) (s : ByteArray) (i d : Nat) (n : Int) (e : Ending) (w' : World) : Prop := Fell w (· = r) e w' ∨ ∃ x j, e = .returned (.int .u8 x) ∧ 0 ≤ x ∧ x < 256 ∧ i + d ≤ j ∧ RB w' r s j n ∧ Chg w w' (· = r)
set_option maxHeartbeats 4000000 in
theorem hex_calls (r : Nat) (s : ByteArray) (i : Nat) (n : Int) (w : World) (h : RB w r s i n) : Calls Tryz.prog 200 #[.pointer (some ⟨r, 0, none⟩)] w (RByte w r s i 1 n) := by
  have H := Ad.mk h
  obtain ⟨c0, c1, c2, cf⟩ := h.cells
  have hi := h.i
  have hs := h.s
  have hl := blk_lt h.blk
  obtain ⟨b, hb⟩ : ∃ b, byteAt s i = b := ⟨_, rfl⟩
  have hu := byteAt_u8 s i
  have hp := fun w' hr => rpeek_calls r s i n w' hr
  rw [hb] at hp hu
  have HP := Ad.mk hp
  have HBY := Ad.mk hb
  clear h hb hp
  go_enter Tryz.func200, Tryz.ntmps200
  go_wp2_with (first
    | (go_at_call 170; refine (HP.out _ H.out).mono ?_; rintro e1 w1 ⟨rfl, k, rfl⟩)
    | (go_at_call 150; refine (fail_calls _ _ _ _).mono ?_; rintro e' w' ⟨a, b, rfl, hc⟩))
  all_goals first
    | (exfalso; omega)
    | exact ⟨rfl, .inl ⟨_, _, rfl, ((chg_drewN _ (· = r)).set rfl 1 _).then_ hc (fun _ _ h => h.elim)⟩⟩
    | (have hil : i < s.size := byteAt_lt (by rw [HBY.out]; omega)
       go_ret
       exact .inr ⟨_, i + 1, rfl, by omega, by omega, by omega, (H.out.drewN _).next hil, (chg_drewN _ (· = r)).set rfl 1 _⟩)
theorem RByte.world {w w1 : World} {r : Nat} {s : ByteArray} {i i1 d d1 : Nat} {n : Int} {e : Ending} {w' : World} (h : RByte w1 r s i1 d1 n e w') (hc : Chg w w1 (· = r)) (hd : i + d ≤ i1 + d1) : RByte w r s i d n e w' := by
  rcases h with ⟨a, b, rfl, h⟩ | ⟨x, j, rfl, h0, h1, h2, h3, h4⟩
  · exact .inl ⟨a, b, rfl, hc.trans h⟩
  · exact .inr ⟨x, j, rfl, h0, h1, by omega, h3, hc.trans h4⟩
set_option maxHeartbeats 4000000 in
theorem escape_calls (r : Nat) (s : ByteArray) (i : Nat) (n : Int) (w : World) (h : RB w r s i n) : Calls Tryz.prog 192 #[.pointer (some ⟨r, 0, none⟩)] w (RByte w r s i 1 n) := by
  have H := Ad.mk h
  obtain ⟨c0, c1, c2, cf⟩ := h.cells
  have hi := h.i
  have hs := h.s
  have hl := blk_lt h.blk
  obtain ⟨b, hb⟩ : ∃ b, byteAt s i = b := ⟨_, rfl⟩
  have hu := byteAt_u8 s i
  have hp := fun w' hr => rpeek_calls r s i n w' hr
  rw [hb] at hp hu
  have HP := Ad.mk hp
  have HBY := Ad.mk hb
  clear h hb hp
  go_enter Tryz.func192, Tryz.ntmps192
  go_wp2_with (first
    | (go_at_call 170; refine (HP.out _ H.out).mono ?_; rintro e1 w1 ⟨rfl, k, rfl⟩)
    | (go_at_call 150; refine (fail_calls _ _ _ _).mono ?_; rintro e' w' ⟨a, b, rfl, hc⟩))
  all_goals first
    | (exfalso; omega)
    | exact ⟨rfl, .inl ⟨_, _, rfl, (chg_drewN _ (· = r)).then_ hc (fun _ _ h => h.elim)⟩⟩
    | (have hil : i < s.size := byteAt_lt (by rw [HBY.out]; intro hz; subst hz; simp at *)
       go_ret
       exact .inr ⟨_, i + 1, rfl, by omega, by omega, by omega, (H.out.drewN _).next hil, (chg_drewN _ (· = r)).set rfl 1 _⟩)
    | (have hil : i < s.size := byteAt_lt (by rw [HBY.out]; intro hz; subst hz; simp at *)
       have H1 := Ad.mk ((H.out.drewN k).next hil)
       have C1 := Ad.mk ((chg_drewN (w := w) k (· = r)).set rfl 1 (.int .i64 ((i : Int) + 1)))
       go_wp2_with (first
         | (go_at_call 200; refine (hex_calls r s (i + 1) n _ H1.out).mono ?_; rintro e1 w1 (⟨a1, b1, rfl, hc1⟩ | ⟨x1, j1, rfl, hx0, hx1, hj1, hr1, hc1⟩))
         | (go_at_call 200; refine (hex_calls r s j1 n _ hr1).mono ?_; rintro e2 w2 (⟨a2, b2, rfl, hc2⟩ | ⟨x2, j2, rfl, hy0, hy1, hj2, hr2, hc2⟩)))
       · exact ⟨rfl, .inl ⟨_, _, rfl, C1.out.trans hc1⟩⟩
       · exact ⟨rfl, .inl ⟨_, _, rfl, (C1.out.trans hc1).trans hc2⟩⟩
       · go_ret
         exact .inr ⟨_, j2, rfl, bits_lo_u8 _ _ _, by have := bits_hi_u8 .or (x1 * 16 % 256) x2; omega, by omega, hr2, (C1.out.trans hc1).trans hc2⟩)
end Go.Proofs.YtahnelihohmjfaaGreatDoor.V
