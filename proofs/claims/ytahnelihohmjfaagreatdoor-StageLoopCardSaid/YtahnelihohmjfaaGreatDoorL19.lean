/- A part of the walk (V49, V50, V51, V52, V53, V54, V55, V56). -/
import Derived.Test.YtahnelihohmjfaaGreatDoorL17
import Derived.Defers
import Derived.Recover
import Derived.BigRegion
namespace Go.Proofs.YtahnelihohmjfaaGreatDoor.V
open Go.RowKit
set_option linter.unusedVariables false
set_option linter.unusedSimpArgs false
/-- a text, read as a value -/
def RValue (w : World) (r : Nat) (s : ByteArray) (e : Ending) (w' : World) : Prop := Fell w (· = r) e w' ∨ ∃ t j n, e = .returned (.agg #[.int .i64 2, .int .i64 0, .string t, .slice none 0 0]) ∧ t.size ≤ 24 ∧ RB w' r s j n ∧ Chg w w' (· = r)
theorem val_fin {W : World} {b t : Nat} {k n : Int} {s : ByteArray} {B : Option Addr} {l c : Nat} {fn : Func} {A : Act} {R : Ending → World → Prop} (hfn : fn.results = #[.cell t 42]) (ha : A.tmps.getD t undef = .pointer (some ⟨b, 0, Option.none⟩)) (hd : A.defers = [])
    (h0 : W.heap[b]? = some (.cells #[.int .i64 k, .int .i64 n, .string s, .slice B l c] 42 (0, 0))) (hR : R (.returned (.agg #[.int .i64 k, .int .i64 n, .string s, .slice B l c])) W) :
    bodyPost Tryz.prog fn R .ret A W := by
  have g0 := blk_cell h0 0
  have g1 := blk_cell h0 1
  have g2 := blk_cell h0 2
  have g3 := blk_cell h0 3
  simp at g0 g1 g2 g3
  refine ⟨hd, .agg #[.int .i64 k, .int .i64 n, .string s, .slice B l c], ?_, hR⟩
  rw [Array.getD_eq_getD_getElem?] at ha
  simp [results, hfn, ha, go_sem, g0, g1, g2, g3]
set_option maxHeartbeats 8000000 in
set_option maxRecDepth 100000 in
theorem rvalue_calls (r : Nat) (s : ByteArray) (i : Nat) (n : Int) (d : Int) (w : World) (h : RB w r s i n) (hn : n = 0) (hb : byteAt s i = 34) (hp : ∀ k (hk : k < s.size), 32 ≤ s[k].toNat ∧ s[k].toNat ≤ 126) (hg : GVb w r) : Calls Tryz.prog 149 #[.pointer (some ⟨r, 0, none⟩), .int .i64 d] w (RValue w r s) := by
  subst hn
  have H := Ad.mk h
  have HG := Ad.mk hg
  have HP := Ad.mk hp
  obtain ⟨c0, c1, c2, cf⟩ := h.cells
  have hl := blk_lt h.blk
  have hil : i < s.size := byteAt_lt (by rw [hb]; decide)
  have n1 : ¬ r = w.heap.size := by omega
  have n2 : ¬ w.heap.size = r := by omega
  have hpk := fun w' hr => rpeek_calls r s i 0 w' hr
  rw [hb] at hpk
  have HPK := Ad.mk hpk
  clear h hg hp hpk hb
  go_enter Tryz.func149, Tryz.ntmps149
  have hbx0 := blk_new w (.cells #[.int .i64 0, .int .i64 0, .string ⟨#[]⟩, .slice none 0 0] 42)
  have HBX := Ad.mk hbx0
  clear hbx0
  go_wp2_with (go_at_call 170; refine (HPK.out _ (H.out.below (below_alloc (Below.refl _ _) _))).mono ?_; rintro e1 w1 ⟨rfl, k, rfl⟩)
  have hb0 : Below w.heap.size w ((w.alloc (.cells #[.int .i64 0, .int .i64 0, .string ⟨#[]⟩, .slice none 0 0] 42)).drewN k) := below_then (below_alloc (Below.refl _ _) _) (below_drewN k)
  have hc1 := (Chg.of_below (S := (· = r)) hb0).set (g := r) rfl 2 (.int .i64 1)
  have hr1 : RB (((w.alloc (.cells #[.int .i64 0, .int .i64 0, .string ⟨#[]⟩, .slice none 0 0] 42)).drewN k).setCell ⟨r, 2, none⟩ (.int .i64 1)) r s i 1 := ⟨blk_put (H.out.below hb0).blk 2 (.int .i64 1) rfl, H.out.i, H.out.s⟩
  have hx1 := (((Chg.refl ((w.alloc (.cells #[.int .i64 0, .int .i64 0, .string ⟨#[]⟩, .slice none 0 0] 42)).drewN k) (· = r)).set rfl 2 (.int .i64 1)).block w.heap.size (by simp) n2).trans (blk_below HBX.out (below_drewN k))
  have C1 := Ad.mk hc1
  have R1 := Ad.mk hr1
  have X1 := Ad.mk hx1
  clear hc1 hr1 hx1 c0 c1 c2 cf hb0
  go_wp2_with (go_at_call 172; refine (text_calls r s i 1 _ R1.out hil HP.out (HG.out.chg C1.out)).mono ?_; rintro e2 w2 (⟨a2, b2, rfl, hc2⟩ | ⟨t, j, rfl, ht, hr2, hc2⟩) <;> (have hx2 := (hc2.block w.heap.size (by simp) n2).trans X1.out; have X2 := Ad.mk hx2; have d0 := blk_cell hx2 0; have d1 := blk_cell hx2 1; have d2 := blk_cell hx2 2; have d3 := blk_cell hx2 3; have df := (fun j => blk_frozen hx2 j); clear hx2))
  · exact ⟨rfl, .inl ⟨_, _, rfl, C1.out.trans hc2⟩⟩
  · refine val_fin (b := w.heap.size) rfl rfl rfl (put4 X2.out rfl _ _ _ _) (.inr ⟨t, j, 1, rfl, ht, ?_, ?_⟩)
    · have hc3 := chg4 (Chg.refl w2 (· = w.heap.size)) rfl (.int .i64 2) (.int .i64 0) (.string t) (.slice none 0 0)
      exact ⟨(hc3.block r (blk_lt hr2.blk) n1).trans hr2.blk, hr2.i, hr2.s⟩
    · exact (C1.out.trans hc2).then_ (chg4 (Chg.refl w2 (· = w.heap.size)) rfl (.int .i64 2) (.int .i64 0) (.string t) (.slice none 0 0)) (fun q hq e => by have e' : q = w.heap.size := e; omega)
end Go.Proofs.YtahnelihohmjfaaGreatDoor.V
namespace Go.Proofs.YtahnelihohmjfaaGreatDoor.V
open Go.RowKit
set_option linter.unusedVariables false
set_option linter.unusedSimpArgs false
set_option maxHeartbeats 4000000 in
theorem caught_idle (p q t : Value) (w : World) : Calls Tryz.prog 147 #[.nilIface, p, q, t] w (fun e w' => e = .returned (.tuple #[]) ∧ w' = w) := by
  go_enter Tryz.func147, Tryz.ntmps147
  go_wp2_with fail
  first | go_end0 | refine bodyPost_ret (results_none rfl _ _ _) rfl ?_
  exact ⟨rfl, rfl⟩
theorem assert_giveUp (v : Value) (w : World) : (Instr.typeAssert (.iface 290 v) 20 290 true).run Tryz.prog w = .ok (.tuple #[v, .bool true]) w := by kernel_rfl
set_option maxHeartbeats 4000000 in
set_option maxRecDepth 100000 in
theorem caught_hit (a b : Int) (g : Nat) (k n : Int) (s : ByteArray) (B : Option Addr) (l c : Nat) (x y : Int) (w : World) (h0 : w.heap[g]? = some (.cells #[.int .i64 k, .int .i64 n, .string s, .slice B l c] 42 (0, 0))) (h1 : w.heap[g + 1]? = some (.cells #[.int .i64 x] 3 (0, 0))) (h2 : w.heap[g + 2]? = some (.cells #[.int .i64 y] 29 (0, 0))) :
    Calls Tryz.prog 147 #[.iface 290 (.agg #[.int .i64 a, .int .i64 b]), .pointer (some ⟨g, 0, none⟩), .pointer (some ⟨g + 1, 0, none⟩), .pointer (some ⟨g + 2, 0, none⟩)] w (fun e w' => e = .returned (.tuple #[]) ∧ w'.heap[g]? = some (.cells #[.int .i64 0, .int .i64 0, .string ⟨#[]⟩, .slice none 0 0] 42 (0, 0)) ∧ w'.heap[g + 1]? = some (.cells #[.int .i64 b] 3 (0, 0)) ∧ w'.heap[g + 2]? = some (.cells #[.int .i64 a] 29 (0, 0)) ∧ Chg w w' (fun q => g ≤ q)) := by
  have c0 := blk_cell h0 0
  have c1 := blk_cell h0 1
  have c2 := blk_cell h0 2
  have c3 := blk_cell h0 3
  have cf := fun j => blk_frozen h0 j
  have d0 := blk_cell h1 0
  have df := fun j => blk_frozen h1 j
  have e0 := blk_cell h2 0
  have ef := fun j => blk_frozen h2 j
  have l0 := blk_lt h0
  have l1 := blk_lt h1
  have l2 := blk_lt h2
  have H0 := Ad.mk h0
  have H1 := Ad.mk h1
  have H2 := Ad.mk h2
  simp at c0 c1 c2 c3 d0 e0
  have n1 : ¬ g = w.heap.size := by omega
  have n2 : ¬ g + 1 = w.heap.size := by omega
  have n3 : ¬ g + 2 = w.heap.size := by omega
  clear h0 h1 h2
  go_enter Tryz.func147, Tryz.ntmps147
  have hta := assert_giveUp
  go_wp2_with fail
  go_region
  go_wp2_with fail
  go_end0
  have hc0 := chg4 (Chg.refl w (fun q => q = g)) rfl (.int .i64 0) (.int .i64 0) (.string ⟨#[]⟩) (.slice none 0 0)
  have g0 := put4 H0.out rfl (.int .i64 0) (.int .i64 0) (.string ⟨#[]⟩) (.slice none 0 0)
  have g1 := (hc0.block (g + 1) l1 (fun e => by have e' : g + 1 = g := e; omega)).trans H1.out
  have g2 := (hc0.block (g + 2) l2 (fun e => by have e' : g + 2 = g := e; omega)).trans H2.out
  generalize ((((w.setCell ⟨g, 0, none⟩ (.int .i64 0)).setCell ⟨g, 1, none⟩ (.int .i64 0)).setCell ⟨g, 2, none⟩ (.string ⟨#[]⟩)).setCell ⟨g, 3, none⟩ (.slice none 0 0)) = W at hc0 g0 g1 g2 ⊢
  have hc1 := (Chg.refl W (· = g + 1)).set rfl 0 (.int .i64 b)
  have k0 := (hc1.block g (blk_lt g0) (fun e => by have e' : g = g + 1 := e; omega)).trans g0
  have k1 := blk_put g1 0 (.int .i64 b) rfl
  have k2 := (hc1.block (g + 2) (blk_lt g2) (fun e => by have e' : g + 2 = g + 1 := e; omega)).trans g2
  generalize W.setCell ⟨g + 1, 0, none⟩ (.int .i64 b) = W2 at hc1 k0 k1 k2 ⊢
  have hc2 := (Chg.refl W2 (· = g + 2)).set rfl 0 (.int .i64 a)
  have m0 := (hc2.block g (blk_lt k0) (fun e => by have e' : g = g + 2 := e; omega)).trans k0
  have m1 := (hc2.block (g + 1) (blk_lt k1) (fun e => by have e' : g + 1 = g + 2 := e; omega)).trans k1
  have m2 := blk_put k2 0 (.int .i64 a) rfl
  have hz := (below_alloc (Below.refl _ (W2.setCell ⟨g + 2, 0, none⟩ (.int .i64 a))) (.cells #[.int .i64 a, .int .i64 b] 290)).drew
  refine ⟨rfl, blk_below m0 hz, blk_below m1 hz, blk_below m2 hz, ?_⟩
  exact (((((Chg.refl w (fun q => g ≤ q)).then_ hc0 (fun q hq e => by have e' : q = g := e; omega)).then_ hc1 (fun q hq e => by have e' : q = g + 1 := e; omega)).then_ hc2 (fun q hq e => by have e' : q = g + 2 := e; omega))).trans (Chg.of_below hz)
theorem parse1_idle (g : Nat) (w : World) :
    CallsD Tryz.prog 146 #[.pointer (some ⟨g, 0, none⟩), .pointer (some ⟨g + 1, 0, none⟩), .pointer (some ⟨g + 2, 0, none⟩)] .returning w fun e u' w' => e = .returned (.tuple #[]) ∧ u' = .returning ∧ w' = w := by
  refine callsD_of_wpS Tryz.func146 rfl fun c₀ cs hu => ?_
  apply wpS_region
  simp [wpOpsS, go_sem, recoverD, hu, Tryz.ntmps146, Exit.thenS]
  refine (caught_idle _ _ _ _).mono ?_
  rintro e w' ⟨rfl, rfl⟩
  cases c₀
  simp_all [bodyPostS, results, Tryz.results146, Exit.thenS, go_sem]
theorem parse1_hit (a b : Int) (g : Nat) (k n : Int) (s : ByteArray) (B : Option Addr) (l c : Nat) (x y : Int) (w : World) (h0 : w.heap[g]? = some (.cells #[.int .i64 k, .int .i64 n, .string s, .slice B l c] 42 (0, 0))) (h1 : w.heap[g + 1]? = some (.cells #[.int .i64 x] 3 (0, 0))) (h2 : w.heap[g + 2]? = some (.cells #[.int .i64 y] 29 (0, 0))) :
    CallsD Tryz.prog 146 #[.pointer (some ⟨g, 0, none⟩), .pointer (some ⟨g + 1, 0, none⟩), .pointer (some ⟨g + 2, 0, none⟩)] (.panicking [{ v := .iface 290 (.agg #[.int .i64 a, .int .i64 b]), recovered := false }]) w fun e u' w' => e = .returned (.tuple #[]) ∧ u' = .panicking [{ v := .iface 290 (.agg #[.int .i64 a, .int .i64 b]), recovered := true }] ∧ w'.heap[g]? = some (.cells #[.int .i64 0, .int .i64 0, .string ⟨#[]⟩, .slice none 0 0] 42 (0, 0)) ∧ w'.heap[g + 1]? = some (.cells #[.int .i64 b] 3 (0, 0)) ∧ w'.heap[g + 2]? = some (.cells #[.int .i64 a] 29 (0, 0)) ∧ Chg w w' (fun q => g ≤ q) := by
  refine callsD_of_wpS Tryz.func146 rfl fun c₀ cs hu => ?_
  apply wpS_region
  simp [wpOpsS, go_sem, recoverD, hu, Tryz.ntmps146, Exit.thenS]
  refine (caught_hit a b g k n s B l c x y w h0 h1 h2).mono ?_
  rintro e w' ⟨rfl, g0, g1, g2, hc⟩
  cases c₀
  simp_all [bodyPostS, results, Tryz.results146, Exit.thenS, go_sem]
end Go.Proofs.YtahnelihohmjfaaGreatDoor.V
namespace Go.Proofs.YtahnelihohmjfaaGreatDoor.V
open Go.RowKit
set_option linter.unusedVariables false
set_option linter.unusedSimpArgs false
def RBlank (w : World) (r : Nat) (s : ByteArray) (n : Int) (e : Ending) (w' : World) : Prop := ∃ j, e = .returned (.tuple #[]) ∧ RB w' r s j n ∧ Chg w w' (· = r)
set_option maxHeartbeats 8000000 in
set_option maxRecDepth 100000 in
theorem blanks_none (r : Nat) (s : ByteArray) (i : Nat) (n : Int) (w : World) (h : RB w r s i n) (hb : byteAt s i = 34) : Calls Tryz.prog 148 #[.pointer (some ⟨r, 0, none⟩)] w (fun e w' => e = .returned (.tuple #[]) ∧ ∃ k, w' = w.drewN k) := by
  have H := Ad.mk h
  have hpk := fun w' hr => rpeek_calls r s i n w' hr
  rw [hb] at hpk
  have HPK := Ad.mk hpk
  clear h hpk hb
  go_enter Tryz.func148, Tryz.ntmps148
  go_wp2_with fail
  go_loopw [] (fun wr => wr = w) (fun _ => 0)
  case atStart => rfl
  case round =>
    subst hrel
    go_wp2_with (first
      | (go_at_call 170; refine (HPK.out _ H.out).mono ?_; rintro e1 w1 ⟨rfl, k1, rfl⟩)
      | (go_at_call 170; refine (HPK.out _ (H.out.drewN k1)).mono ?_; rintro e2 w2 ⟨rfl, k2, rfl⟩))
    go_end0
    exact ⟨rfl, _, rfl⟩
set_option maxHeartbeats 8000000 in
set_option maxRecDepth 100000 in
theorem blanks_calls (r : Nat) (s : ByteArray) (i : Nat) (n : Int) (w : World) (h : RB w r s i n) : Calls Tryz.prog 148 #[.pointer (some ⟨r, 0, none⟩)] w (RBlank w r s n) := by
  have H := Ad.mk h
  clear h
  go_enter Tryz.func148, Tryz.ntmps148
  go_wp2_with fail
  go_loopw [] (fun wr => ∃ j, Ad (RB wr r s j n ∧ Chg w wr (· = r))) (fun wr => s.size - (intOf ((wr.cell? ⟨r, 1, none⟩).getD undef)).toNat)
  case atStart => exact ⟨i, ⟨H.out, Chg.refl _ _⟩⟩
  case round =>
    obtain ⟨j, hr⟩ := hrel
    obtain ⟨hrb, hc⟩ := hr.out
    have HR := Ad.mk hrb
    have HC := Ad.mk hc
    obtain ⟨c0, c1, c2, cf⟩ := hrb.cells
    have hi := hrb.i
    have hs := hrb.s
    have hl := blk_lt hrb.blk
    obtain ⟨b, hb⟩ : ∃ b, byteAt s j = b := ⟨_, rfl⟩
    have hpk := fun w' hr => rpeek_calls r s j n w' hr
    rw [hb] at hpk
    have HPK := Ad.mk hpk
    have HBY := Ad.mk hb
    clear hr hrb hc hpk hb
    by_cases hb2 : b = 32 ∨ b = 9
    · have hjl : j < s.size := byteAt_lt (by rw [HBY.out]; omega)
      go_wp2_with (first
        | (go_at_call 170; refine (HPK.out _ HR.out).mono ?_; rintro e1 w1 ⟨rfl, k1, rfl⟩)
        | (go_at_call 170; refine (HPK.out _ (HR.out.drewN k1)).mono ?_; rintro e2 w2 ⟨rfl, k2, rfl⟩))
      all_goals
        have hn := fun k => (HR.out.drewN k).next hjl
        refine ⟨⟨j + 1, ⟨hn _, HC.out.trans ((chg_drewN _ (· = r)).set rfl 1 _)⟩⟩, ?_⟩
        rw [c1, (hn _).cells.2.1]
        simp [intOf]
        omega
    · go_wp2_with (first
        | (go_at_call 170; refine (HPK.out _ HR.out).mono ?_; rintro e1 w1 ⟨rfl, k1, rfl⟩)
        | (go_at_call 170; refine (HPK.out _ (HR.out.drewN k1)).mono ?_; rintro e2 w2 ⟨rfl, k2, rfl⟩))
      all_goals first
        | (exfalso; omega)
        | (exfalso; simp at *; omega)
        | (go_end0; exact ⟨j, rfl, HR.out.drewN _, HC.out.trans (chg_drewN _ _)⟩)
/-- the three named results -/
structure PV (w W : World) (k n : Int) (t : ByteArray) (a x : Int) : Prop where
  v : W.heap[w.heap.size]? = some (.cells #[.int .i64 k, .int .i64 n, .string t, .slice none 0 0] 42 (0, 0))
  a : W.heap[w.heap.size + 1]? = some (.cells #[.int .i64 a] 3 (0, 0))
  x : W.heap[w.heap.size + 2]? = some (.cells #[.int .i64 x] 29 (0, 0))
  b : Below w.heap.size w W
theorem PV.chg {w W W' : World} {k n : Int} {t : ByteArray} {a x : Int} (h : PV w W k n t a x) (hc : Chg W W' (· = w.heap.size + 3)) : PV w W' k n t a x :=
  ⟨(hc.block _ (blk_lt h.v) (fun e => by have e' : w.heap.size = w.heap.size + 3 := e; omega)).trans h.v, (hc.block _ (blk_lt h.a) (fun e => by have e' : w.heap.size + 1 = w.heap.size + 3 := e; omega)).trans h.a, (hc.block _ (blk_lt h.x) (fun e => by have e' : w.heap.size + 2 = w.heap.size + 3 := e; omega)).trans h.x, below_chg h.b hc (fun q hq => by have e' : q = w.heap.size + 3 := hq; omega)⟩
theorem PV.set {w W : World} {k n : Int} {t : ByteArray} {a x : Int} (h : PV w W k n t a x) (k' n' : Int) (t' : ByteArray) : PV w ((((W.setCell ⟨w.heap.size, 0, none⟩ (.int .i64 k')).setCell ⟨w.heap.size, 1, none⟩ (.int .i64 n')).setCell ⟨w.heap.size, 2, none⟩ (.string t')).setCell ⟨w.heap.size, 3, none⟩ (.slice none 0 0)) k' n' t' a x := by
  have hc := chg4 (Chg.refl W (· = w.heap.size)) rfl (.int .i64 k') (.int .i64 n') (.string t') (.slice none 0 0)
  exact ⟨put4 h.v rfl _ _ _ _, (hc.block _ (blk_lt h.a) (fun e => by have e' : w.heap.size + 1 = w.heap.size := e; omega)).trans h.a, (hc.block _ (blk_lt h.x) (fun e => by have e' : w.heap.size + 2 = w.heap.size := e; omega)).trans h.x, below_chg h.b hc (fun q hq => Nat.le_of_eq hq.symm)⟩
def ParseP (w : World) (e : Ending) (w' : World) : Prop := ∃ (k n : Int) (t : ByteArray) (a x : Int), e = .returned (.tuple #[.agg #[.int .i64 k, .int .i64 n, .string t, .slice none 0 0], .int .i64 a, .int .i64 x]) ∧ t.size ≤ 24 ∧ Below w.heap.size w w'
set_option maxHeartbeats 4000000 in
theorem door_hit (a b : Int) (w W : World) {k n : Int} {t : ByteArray} {x y : Int} (h : PV w W k n t x y) (tm : Array Value) (h2 : tm.getD 2 undef = .pointer (some ⟨w.heap.size, 0, none⟩)) (h3 : tm.getD 3 undef = .pointer (some ⟨w.heap.size + 1, 0, none⟩)) (h4 : tm.getD 4 undef = .pointer (some ⟨w.heap.size + 1 + 1, 0, none⟩)) :
    bodyPostD Tryz.prog Tryz.f134 (ParseP w) (Exit.panic [{ v := .iface 290 (.agg #[.int .i64 a, .int .i64 b]), recovered := false }]) { tmps := tm, defers := [{ target := .fn (Fn.func 146) #[.pointer (some ⟨w.heap.size, 0, none⟩), .pointer (some ⟨w.heap.size + 1, 0, none⟩), .pointer (some ⟨w.heap.size + 1 + 1, 0, none⟩)], args := #[] }] } W := by
  refine leaves_cons (f := 146) (args := #[.pointer (some ⟨w.heap.size, 0, none⟩), .pointer (some ⟨w.heap.size + 1, 0, none⟩), .pointer (some ⟨w.heap.size + 1 + 1, 0, none⟩)]) (by simp) (by simp [go_sem]) ?_
  refine (parse1_hit a b w.heap.size k n t none 0 0 x y W h.v h.a h.x).mono ?_
  rintro e u' w'' ⟨rfl, rfl, g0, g1, g2, hc⟩
  have d0 := blk_cell g0 0
  have d1 := blk_cell g0 1
  have d2 := blk_cell g0 2
  have d3 := blk_cell g0 3
  have e0 := blk_cell g1 0
  have f0 := blk_cell g2 0
  simp at d0 d1 d2 d3 e0 f0
  rw [Array.getD_eq_getD_getElem?] at h2 h3 h4
  simp [Leaves, settle, results, Tryz.results134, go_sem, h2, h3, h4, d0, d1, d2, d3, e0, f0]
  exact ⟨0, 0, ⟨#[]⟩, b, a, rfl, by decide, below_chg h.b hc (fun q hq => hq)⟩
set_option maxHeartbeats 4000000 in
theorem door_idle (w W : World) {k n : Int} {t : ByteArray} {x y : Int} (h : PV w W k n t x y) (ht : t.size ≤ 24) (tm : Array Value) (h2 : tm.getD 2 undef = .pointer (some ⟨w.heap.size, 0, none⟩)) (h3 : tm.getD 3 undef = .pointer (some ⟨w.heap.size + 1, 0, none⟩)) (h4 : tm.getD 4 undef = .pointer (some ⟨w.heap.size + 1 + 1, 0, none⟩)) :
    bodyPostD Tryz.prog Tryz.f134 (ParseP w) Exit.ret { tmps := tm, defers := [{ target := .fn (Fn.func 146) #[.pointer (some ⟨w.heap.size, 0, none⟩), .pointer (some ⟨w.heap.size + 1, 0, none⟩), .pointer (some ⟨w.heap.size + 1 + 1, 0, none⟩)], args := #[] }] } W := by
  have d0 := blk_cell h.v 0
  have d1 := blk_cell h.v 1
  have d2 := blk_cell h.v 2
  have d3 := blk_cell h.v 3
  have e0 := blk_cell h.a 0
  have f0 := blk_cell h.x 0
  simp at d0 d1 d2 d3 e0 f0
  rw [Array.getD_eq_getD_getElem?] at h2 h3 h4
  refine leaves_cons (f := 146) (args := #[.pointer (some ⟨w.heap.size, 0, none⟩), .pointer (some ⟨w.heap.size + 1, 0, none⟩), .pointer (some ⟨w.heap.size + 1 + 1, 0, none⟩)]) (by simp) (by simp [go_sem]) ?_
  refine (parse1_idle w.heap.size W).mono ?_
  rintro e u' w'' ⟨rfl, rfl, rfl⟩
  simp [Leaves, settle, results, Tryz.results134, go_sem, h2, h3, h4, d0, d1, d2, d3, e0, f0]
  exact ⟨k, n, t, x, y, rfl, ht, h.b⟩
set_option maxHeartbeats 8000000 in
set_option maxRecDepth 100000 in
/-- Parse of a text in quotes: a text of at most 24 bytes where no fault is told -/
theorem parse_calls (s : ByteArray) (w : World) (hs : s.size ≤ 100) (hb : byteAt s 0 = 34) (hp : ∀ k (hk : k < s.size), 32 ≤ s[k].toNat ∧ s[k].toNat ≤ 126) (hg : GV w) :
    Calls Tryz.prog 134 #[.string s] w (ParseP w) := by
  have HG := Ad.mk hg
  have HP := Ad.mk hp
  have HB := Ad.mk hb
  have hmf : ∀ (fn : Fn) (first cap : Array Value) (w : World), (Instr.makeFunc fn first cap).run Tryz.prog w = .ok (.func fn first cap) w := fun _ _ _ _ => rfl
  clear hg hp hb
  go_enter_defers Tryz.func134, Tryz.ntmps134
  obtain ⟨W0, hW0⟩ : ∃ W0, (((w.alloc (.cells #[.int .i64 0, .int .i64 0, .string ⟨#[]⟩, .slice none 0 0] 42)).alloc (.cells #[.int .i64 0] 3)).alloc (.cells #[.int .i64 0] 29)).alloc (.cells #[.string s, .int .i64 0, .int .i64 0] 287) = W0 := ⟨_, rfl⟩
  have hs0 : W0.heap.size = w.heap.size + 4 := by rw [← hW0]; simp
  have hB0 : Below w.heap.size w W0 := by rw [← hW0]; exact below_alloc (below_alloc (below_alloc (below_alloc (Below.refl _ _) _) _) _) _
  have b0 : W0.heap[w.heap.size]? = some (.cells #[.int .i64 0, .int .i64 0, .string ⟨#[]⟩, .slice none 0 0] 42 (0, 0)) := by rw [← hW0]; exact blk_alloc (blk_alloc (blk_alloc (blk_new w _) _) _) _
  have b1 : W0.heap[w.heap.size + 1]? = some (.cells #[.int .i64 0] 3 (0, 0)) := by rw [← hW0]; exact blk_alloc (blk_alloc (blk_new2 (by simp)) _) _
  have b2 : W0.heap[w.heap.size + 2]? = some (.cells #[.int .i64 0] 29 (0, 0)) := by rw [← hW0]; exact blk_alloc (blk_new2 (by simp)) _
  have b3 : W0.heap[w.heap.size + 3]? = some (.cells #[.string s, .int .i64 0, .int .i64 0] 287 (0, 0)) := by rw [← hW0]; exact blk_new2 (by simp)
  have R0 : Ad (RB W0 (w.heap.size + 3) s 0 0) := ⟨⟨b3, Nat.zero_le _, hs⟩⟩
  have G0 : Ad (GVb W0 (w.heap.size + 3)) := ⟨by obtain ⟨w0, h0, h1⟩ := HG.out; exact ⟨w0, h0, below_then h1 hB0, by have := h1.size; omega⟩⟩
  have B0 := Ad.mk (And.intro hs0 (And.intro hB0 (And.intro b0 (And.intro b1 b2))))
  have P0 : Ad (PV w W0 0 0 ⟨#[]⟩ 0 0) := ⟨⟨b0, b1, b2, hB0⟩⟩
  have HW0 := Ad.mk hW0
  clear hW0 hs0 hB0 b0 b1 b2 b3
  go_wp2_with fail
  rw [HW0.out]
  go_wp2_with (go_at_call 148; refine (blanks_none (w.heap.size + 3) s 0 0 _ R0.out HB.out).mono ?_; rintro e1 w1 ⟨rfl, k, rfl⟩)
  go_wp2_with (go_at_call 149; refine (rvalue_calls (w.heap.size + 3) s 0 0 0 _ (R0.out.drewN k) rfl HB.out HP.out (G0.out.chg (chg_drewN k _))).mono ?_; rintro e2 w2 (⟨a2, b2, rfl, hc2⟩ | ⟨t, j, n, rfl, ht, hr2, hc2⟩) <;> (have P2 := Ad.mk ((P0.out.chg (chg_drewN k _)).chg hc2); have v0 := blk_cell P2.out.v 0; have v1 := blk_cell P2.out.v 1; have v2 := blk_cell P2.out.v 2; have v3 := blk_cell P2.out.v 3; have vf := (fun j => blk_frozen P2.out.v j); have q0 := blk_lt P2.out.v; clear hc2; simp at v0 v1 v2 v3))
  · exact door_hit a2 b2 w w2 P2.out _ rfl rfl rfl
  · have q1 : w.heap.size + 3 < w2.heap.size := blk_lt hr2.blk
    have R2 := Ad.mk hr2
    clear hr2
    have hr3 : RB ((((w2.setCell ⟨w.heap.size, 0, none⟩ (.int .i64 2)).setCell ⟨w.heap.size, 1, none⟩ (.int .i64 0)).setCell ⟨w.heap.size, 2, none⟩ (.string t)).setCell ⟨w.heap.size, 3, none⟩ (.slice none 0 0)) (w.heap.size + 3) s j n :=
      ⟨((chg4 (Chg.refl w2 (· = w.heap.size)) rfl (.int .i64 2) (.int .i64 0) (.string t) (.slice none 0 0)).block _ q1 (fun e => by have e' : w.heap.size + 3 = w.heap.size := e; omega)).trans R2.out.blk, R2.out.i, R2.out.s⟩
    have P3 := Ad.mk (P2.out.set 2 0 t)
    have R3 := Ad.mk hr3
    clear hr3 v0 v1 v2 v3 vf
    go_wp2_with (go_at_call 148; refine (blanks_calls (w.heap.size + 3) s j n _ R3.out).mono ?_; rintro e4 w4 ⟨j4, rfl, hr4, hc4⟩; have P4 := Ad.mk (P3.out.chg hc4); have R4 := Ad.mk hr4; have rc1 : w4.cell? ⟨w.heap.size + 1 + 1 + 1, 1, none⟩ = some (.int .i64 j4) := hr4.cells.2.1; have v0 := blk_cell P4.out.v 0; have v1 := blk_cell P4.out.v 1; have v2 := blk_cell P4.out.v 2; have v3 := blk_cell P4.out.v 3; have vf := (fun j => blk_frozen P4.out.v j); have a0 := blk_cell P4.out.a 0; have af := (fun j => blk_frozen P4.out.a j); have x0 : w4.cell? ⟨w.heap.size + 1 + 1, 0, none⟩ = some (.int .i64 0) := blk_cell P4.out.x 0; have xf : (∀ j, w4.frozen? ⟨w.heap.size + 1 + 1, j, none⟩ = false) := (fun j => blk_frozen P4.out.x j); clear hr4 hc4; simp at v0 v1 v2 v3 a0)
    · go_wp2_with (go_at_call 150; refine (fail_calls _ _ _ _).mono ?_; rintro e' w' ⟨a, b, rfl, hc⟩)
      exact door_hit a b w w' (P4.out.chg ((Chg.refl w4 _).then_ hc (fun _ _ h => h.elim))) _ rfl rfl rfl
    · have P5 := P4.out.set 2 0 t
      generalize ((((w4.setCell ⟨w.heap.size, 0, none⟩ (.int .i64 2)).setCell ⟨w.heap.size, 1, none⟩ (.int .i64 0)).setCell ⟨w.heap.size, 2, none⟩ (.string t)).setCell ⟨w.heap.size, 3, none⟩ (.slice none 0 0)) = W at P5 ⊢
      have h1 := (Chg.refl W (· = w.heap.size + 1)).set rfl 0 (.int .i64 (s.size : Int))
      have P6 : PV w (W.setCell ⟨w.heap.size + 1, 0, none⟩ (.int .i64 (s.size : Int))) 2 0 t s.size 0 :=
        ⟨(h1.block _ (blk_lt P5.v) (fun e => by have e' : w.heap.size = w.heap.size + 1 := e; omega)).trans P5.v, blk_put P5.a 0 _ rfl, (h1.block _ (blk_lt P5.x) (fun e => by have e' : w.heap.size + 2 = w.heap.size + 1 := e; omega)).trans P5.x, below_chg P5.b h1 (fun q hq => by have e' : q = w.heap.size + 1 := hq; omega)⟩
      generalize W.setCell ⟨w.heap.size + 1, 0, none⟩ (.int .i64 (s.size : Int)) = W2 at P6 ⊢
      have h2 := (Chg.refl W2 (· = w.heap.size + 2)).set rfl 0 (.int .i64 0)
      have P7 : PV w (W2.setCell ⟨w.heap.size + 2, 0, none⟩ (.int .i64 0)) 2 0 t s.size 0 :=
        ⟨(h2.block _ (blk_lt P6.v) (fun e => by have e' : w.heap.size = w.heap.size + 2 := e; omega)).trans P6.v, (h2.block _ (blk_lt P6.a) (fun e => by have e' : w.heap.size + 1 = w.heap.size + 2 := e; omega)).trans P6.a, blk_put P6.x 0 _ rfl, below_chg P6.b h2 (fun q hq => by have e' : q = w.heap.size + 2 := hq; omega)⟩
      exact door_idle w _ P7 ht _ rfl rfl rfl
end Go.Proofs.YtahnelihohmjfaaGreatDoor.V
namespace Go.Proofs.YtahnelihohmjfaaGreatDoor.V
open Go.RowKit
set_option linter.unusedVariables false
set_option linter.unusedSimpArgs false
set_option maxHeartbeats 8000000 in
set_option maxRecDepth 100000 in
theorem quoted_read (g tb : Nat) (p : PS) (ta : Nat) (w : World) (hb : PB w g p) (hs : p.s.size ≤ 100) (hp : byteAt p.s p.pos = 34) (hta : ta = p.pos) (ht : w.heap[tb]? = some (.cells #[.int .i64 0, .int .i64 ta, .string ⟨#[]⟩, .int .i64 0] 177 (0, 0))) (hgt : g < tb) :
    Calls Tryz.prog 118 #[.pointer (some ⟨g, 0, none⟩), .pointer (some ⟨tb, 0, none⟩)] w (ReadT w g tb p 3 ta) := by
  subst hta
  have hT : TokW w g tb p 0 p.pos p.pos ⟨#[]⟩ 0 w := ⟨hb, ht, Chg.refl _ _⟩
  have HT := Ad.mk hT
  have hpos : p.pos < p.s.size := byteAt_lt (by rw [hp]; decide)
  have HP := Ad.mk hp
  have hl := blk_lt hb.blk
  have htl := blk_lt ht
  have n1 : ¬ g = tb := by omega
  have n2 : ¬ tb = g := by omega
  have HGT := Ad.mk hgt
  have t0 := blk_cell ht 0
  have tf := fun j => blk_frozen ht j
  obtain ⟨c0, c1, c2, c3, c4, c5, c6, c7, cf⟩ := hb.cells
  clear hb ht hT hgt hp c2 c3 c4 c5 c6 c7
  go_enter Tryz.func118, Tryz.ntmps118
  go_upto_block 0 with fail
  clear t0 tf c0 c1 cf
  go_cut [4] (fun v4 wx => ∃ (i : Nat), p.pos < i ∧ i ≤ p.s.size ∧ Ad (TokW w g tb p 3 p.pos i ⟨#[]⟩ 0 wx))
  case first =>
    go_wp2_with fail
    go_loopw [4, 5] (fun v4 v5 wr => ∃ (i : Nat) (m : Int), p.pos < i ∧ i ≤ p.s.size ∧ v4 = .int .i64 m ∧ 0 ≤ m ∧ m ≤ i ∧ Ad (TokW w g tb p 3 p.pos i ⟨#[]⟩ 0 wr)) (fun _ _ wr => p.s.size - (intOf ((wr.cell? ⟨g, 1, none⟩).getD undef)).toNat)
    case atStart => exact ⟨p.pos + 1, 0, by omega, by omega, rfl, by omega, by omega, ⟨(HT.out.kind HGT.out 3).next HGT.out⟩⟩
    case round =>
      obtain ⟨i, m, hi0, hi1, rfl, hm0, hm1, hW⟩ := hrel
      obtain ⟨hbw, htw, hcw⟩ := hW.out
      obtain ⟨c0, c1, c2, c3, c4, c5, c6, c7, cf⟩ := hbw.cells
      have wl := blk_lt hbw.blk
      clear hbw htw hcw c2 c3 c4 c5 c6 c7
      by_cases hlt : i < p.s.size
      · have j0 : (0 : Int) ≤ (i : Int) := by omega
        have j1 : (i : Int) < (p.s.size : Int) := by omega
        go_wp2_with fail
        go_quiet (fail)
        go_wp2_with fail
        go_quiet (fail)
        go_wp2_with fail
        · go_meet
          exact ⟨i + 1, by omega, by omega, ⟨(hW.out.drewN _).next HGT.out⟩⟩
        all_goals
          have hn := fun k => (hW.out.drewN k).next HGT.out
          refine ⟨⟨i + 1, _, by omega, by omega, rfl, by omega, by omega, ⟨hn _⟩⟩, ?_⟩
          rw [c1, (hn _).1.cells.2.1]
          simp [intOf]
          omega
      · have e0 : decide ((i : Int) < (p.s.size : Int)) = false := decide_eq_false (by omega)
        go_wp2_with fail
        go_quiet (fail)
        go_wp2_with fail
        go_meet
        exact ⟨i, hi0, hi1, ⟨hW.out.drewN _⟩⟩
  case rest =>
    obtain ⟨i, hi0, hi1, hW⟩ := hcut
    obtain ⟨hbw, htw, hcw⟩ := hW.out
    have c0 := hbw.cells.1
    have c1 := hbw.cells.2.1
    have wl := blk_lt hbw.blk
    have wtl := blk_lt htw
    have t1 := blk_cell htw 1
    have t2 := blk_cell htw 2
    have tf := fun j => blk_frozen htw j
    simp at c0 c1 t1 t2
    clear hbw htw hcw
    have j0 : (0 : Int) ≤ (p.pos : Int) := by omega
    have j1 : (p.pos : Int) ≤ (i : Int) := by omega
    have j2 : (i : Int) ≤ (p.s.size : Int) := by omega
    go_wp2_with fail
    go_quiet (fail)
    go_wp2_with fail
    have hW2 := hW.out.drewN nq
    have hqs : (p.s.extract p.pos i).size = i - p.pos := by rw [ByteArray.size_extract]; omega
    have hq0 : byteAt (p.s.extract p.pos i) 0 = 34 := by
      have h1 := HP.out
      unfold byteAt at h1 ⊢
      rw [dif_pos hpos] at h1
      rw [dif_pos (by omega)]
      rw [ByteArray.getElem_extract]
      simpa using h1
    generalize wc.drewN nq = W2 at hW2 ⊢
    generalize p.s.extract p.pos i = q at hqs hq0 ⊢
    have HQS := Ad.mk hqs
    have HQ0 := Ad.mk hq0
    have HW2 := Ad.mk hW2
    have hql : q.size ≤ 100 := by omega
    have x1 := blk_cell hW2.2.1 1
    have x2 := blk_cell hW2.2.1 2
    have xf := fun j => blk_frozen hW2.2.1 j
    have xl := blk_lt hW2.2.1
    simp at x1 x2
    clear hW2 hqs hq0 c0 c1 t1 t2 tf wl wtl
    go_loopw [7, 73] (fun v7 v73 wr => ∃ j : Nat, j ≤ q.size ∧ v73 = .int .i64 j ∧ wr = W2 ∧ Ad (∀ k (hk : k < q.size), k < j → 32 ≤ q[k].toNat ∧ q[k].toNat ≤ 126)) (fun _ v73 _ => q.size - (intOf v73).toNat)
    case atStart => exact ⟨0, by omega, rfl, rfl, ⟨fun k _ h => absurd h (by omega)⟩⟩
    case round =>
      obtain ⟨j, hj, rfl, rfl, hpl⟩ := hrel
      have hqs' := HQS.out
      by_cases hlt : j < q.size
      · have k0 : (0 : Int) ≤ (j : Int) := by omega
        have k1 : (j : Int) < (q.size : Int) := by omega
        have k2 : (j : Int) < ((i - p.pos : Nat) : Int) := by omega
        have k3 : j < i - p.pos := by omega
        clear hqs'
        go_wp2_with (go_at_call 77; refine (giveUp_calls _ _ _).mono ?_; rintro e' w' ⟨x, rfl, hc⟩)
        · exact ⟨rfl, .inl ⟨x, rfl, HW2.out.2.2.then_ hc (fun _ _ h => h.elim)⟩⟩
        · exact ⟨rfl, .inl ⟨x, rfl, HW2.out.2.2.then_ hc (fun _ _ h => h.elim)⟩⟩
        · refine ⟨⟨j + 1, by omega, by go_num, trivial, ⟨fun k hk hkj => ?_⟩⟩, by simp [intOf]; omega⟩
          rcases Nat.lt_or_ge k j with h | h
          · exact hpl.out k hk h
          · obtain rfl : k = j := by omega
            omega
      · have k3 : ¬ j < i - p.pos := by omega
        clear hqs'
        go_wp2_with (first
          | (go_at_call 134; refine (parse_calls q _ hql HQ0.out (fun k hk => hpl.out k hk (by omega)) HW2.out.1.gv.gv).mono ?_; rintro e1 w1 ⟨vk, vn, vt, va, vx, rfl, hvt, hb1⟩; have HB1 := Ad.mk hb1; have z1 := cell_below hb1 x1; have zl := Nat.lt_of_lt_of_le xl hb1.size; have z2 := cell_below hb1 x2; have zf := (fun j => blk_frozen (blk_below HW2.out.2.1 hb1) j); clear hb1 x1 x2 xf)
          | (go_at_call 77; refine (giveUp_calls _ _ _).mono ?_; rintro e' w' ⟨x, rfl, hc⟩))
        · exact ⟨rfl, .inl ⟨x, rfl, ((HW2.out.below HB1.out).below (below_alloc (Below.refl _ _) _)).2.2.then_ hc (fun _ _ h => h.elim)⟩⟩
        · go_end0
          exact .inr ⟨i, vt, 0, rfl, by omega, hi1, by omega, fun _ => hvt, ((HW2.out.below HB1.out).text HGT.out vt).below (below_alloc (Below.refl _ _) _), by unfold I64; omega⟩
end Go.Proofs.YtahnelihohmjfaaGreatDoor.V
namespace Go.Proofs.YtahnelihohmjfaaGreatDoor.V
open Go.RowKit
set_option linter.unusedVariables false
set_option linter.unusedSimpArgs false
theorem signs_index (j : Nat) (h : j < 16) (w : World) : (Instr.index 252 (.agg #[.string ⟨#[60, 61]⟩, .string ⟨#[62, 61]⟩, .string ⟨#[61, 61]⟩, .string ⟨#[33, 61]⟩, .string ⟨#[43]⟩, .string ⟨#[45]⟩, .string ⟨#[42]⟩, .string ⟨#[47]⟩, .string ⟨#[37]⟩, .string ⟨#[40]⟩, .string ⟨#[41]⟩, .string ⟨#[91]⟩, .string ⟨#[93]⟩, .string ⟨#[44]⟩, .string ⟨#[60]⟩, .string ⟨#[62]⟩]) (.int .i64 j)).run Tryz.prog w = .ok (.string (signsL.getD j ⟨#[]⟩)) w := by
  have hj : j = 0 ∨ j = 1 ∨ j = 2 ∨ j = 3 ∨ j = 4 ∨ j = 5 ∨ j = 6 ∨ j = 7 ∨ j = 8 ∨ j = 9 ∨ j = 10 ∨ j = 11 ∨ j = 12 ∨ j = 13 ∨ j = 14 ∨ j = 15 := by omega
  rcases hj with rfl | rfl | rfl | rfl | rfl | rfl | rfl | rfl | rfl | rfl | rfl | rfl | rfl | rfl | rfl | rfl
  all_goals (clear h; refine Eq.trans (b := _) ?_ rfl; kernel_rfl)
theorem signs_size (j : Nat) (h : j < 16) : 1 ≤ (signsL.getD j ⟨#[]⟩).size ∧ (signsL.getD j ⟨#[]⟩).size ≤ 2 := by
  have hj : j = 0 ∨ j = 1 ∨ j = 2 ∨ j = 3 ∨ j = 4 ∨ j = 5 ∨ j = 6 ∨ j = 7 ∨ j = 8 ∨ j = 9 ∨ j = 10 ∨ j = 11 ∨ j = 12 ∨ j = 13 ∨ j = 14 ∨ j = 15 := by omega
  rcases hj with rfl | rfl | rfl | rfl | rfl | rfl | rfl | rfl | rfl | rfl | rfl | rfl | rfl | rfl | rfl | rfl
  all_goals decide
theorem PB.next {w : World} {g : Nat} {p : PS} {i : Nat} (h : PB w g { p with pos := i }) : PB (w.setCell ⟨g, 1, none⟩ (.int .i64 ((i : Int) + 1))) g { p with pos := i + 1 } :=
  ⟨blk_put h.blk 1 (.int .i64 ((i : Int) + 1)) rfl, h.gv.chg ((Chg.refl w (· = g)).set rfl 1 _)⟩
theorem PB.drewN {w : World} {g : Nat} {p : PS} (h : PB w g p) (k : Nat) : PB (w.drewN k) g p := h.below (below_drewN k)
/-- what 'read' leaves: given up, or a token q (the parser's position moved, the token's variable as it was) -/
def ReadP (w : World) (g : Nat) (p : PS) (e : Ending) (w' : World) : Prop :=
  (Gave w (· = g) e w' ∧ ¬ Z0 p ∧ ¬ Z1 p) ∨ ∃ q : PS, e = .returned q.tok ∧ PB w' g { p with pos := q.pos } ∧ POK q ∧ q.hv = true ∧ q.s = p.s ∧ q.op = p.op ∧ q.rem ≤ p.rem ∧ Chg w w' (· = g) ∧ (Z0 p → Z0 q) ∧ (Z1 p → Z1 q)
/-- a token was read: what is left to store -/
theorem ReadP.fin {w wc W1 W : World} {g : Nat} {p : PS} {i j : Nat} {k n : Int} {s : ByteArray} {fn : Func} {A : Act} (hl : g < w.heap.size) (hK : POK p) (hh : p.hv = false) (hi0 : p.pos ≤ i) (hij : i < j) (hj : j ≤ p.s.size) (hcw : Chg w wc (· = g)) (hb1 : Below wc.heap.size wc W1) (hc : Chg W1 W (fun q => q = g ∨ q = wc.heap.size)) (hpb : PB W g { p with pos := j })
    (hx : W.heap[w.heap.size]? = some (.cells #[.int .i64 0, .int .i64 0, .string ⟨#[]⟩, .int .i64 0] 177 (0, 0))) (hxl : w.heap.size < wc.heap.size) (hk : 1 ≤ k ∧ k ≤ 4) (hs : s.size ≤ 100) (hq : k = 3 → s.size ≤ 24) (hn : I64 n) (hz : Z0 p → k = 1)
    {X : World} (hX : Below ((((W.setCell ⟨w.heap.size, 0, none⟩ (.int .i64 k)).setCell ⟨w.heap.size, 1, none⟩ (.int .i64 i)).setCell ⟨w.heap.size, 2, none⟩ (.string s)).setCell ⟨w.heap.size, 3, none⟩ (.int .i64 n)).heap.size ((((W.setCell ⟨w.heap.size, 0, none⟩ (.int .i64 k)).setCell ⟨w.heap.size, 1, none⟩ (.int .i64 i)).setCell ⟨w.heap.size, 2, none⟩ (.string s)).setCell ⟨w.heap.size, 3, none⟩ (.int .i64 n)) X) (hfn : fn.results = #[.cell 2 177]) (ha : A.tmps.getD 2 undef = .pointer (some ⟨w.heap.size, 0, Option.none⟩)) (hd : A.defers = []) :
    bodyPost Tryz.prog fn (ReadP w g p) .ret A X := by
  have hc4 := chg4 (Chg.refl W (· = w.heap.size)) rfl (.int .i64 k) (.int .i64 i) (.string s) (.int .i64 n)
  have hsz := hK.sz
  refine tok_fin (b := w.heap.size) hfn ha hd (blk_below (put4 hx rfl _ _ _ _) hX) (.inr ⟨{ p with pos := j, tk := k, ta := i, tt := s, tn := n, hv := true }, rfl, ⟨blk_below ((hc4.block g (blk_lt hpb.blk) (fun e => by have e' : g = w.heap.size := e; omega)).trans hpb.blk) hX, ?_⟩, ⟨hsz, hj, by show 0 ≤ k ∧ k ≤ 4; omega, by show i ≤ 100; omega, hs, hq, hn, fun _ _ => by show 1 ≤ j; omega⟩, rfl, rfl, rfl, ?_, ?_, ?_, ?_⟩)
  · obtain ⟨w0, e0, e1, e2⟩ := hpb.gv
    exact ⟨w0, e0, below_then (below_chg e1 hc4 (fun q hq => by have e' : q = w.heap.size := hq; omega)) hX, e2⟩
  · show p.s.size - j + _ ≤ p.s.size - p.pos + _
    simp [hh]
    split <;> omega
  · exact (((hcw.trans (Chg.of_below hb1)).then_ hc (fun q hq h => by rcases h with h | h; exact h; omega)).then_ hc4 (fun q hq h => by have e' : q = w.heap.size := h; omega)).trans (Chg.of_below hX)
  · intro h
    have h1 : p.s.size = 1 := by rw [h.1]; rfl
    exact ⟨h.1, .inr ⟨rfl, by show j = 1; omega, hz h⟩⟩
  · intro h
    have h1 : p.s.size = 1 := by rw [h.1]; rfl
    have h2 := h.2.1
    omega
/-- the blanks are over: position i; the token's variable and the result's are made -/
def ReadM (w : World) (g : Nat) (p : PS) (wx : World) : Prop := ∃ i, p.pos ≤ i ∧ i ≤ p.s.size ∧ (p.s = ⟨#[48]⟩ → i = p.pos) ∧ (i < p.s.size → byteAt p.s i ≠ 32) ∧ PB wx g { p with pos := i } ∧ Chg w wx (· = g) ∧ wx.heap[w.heap.size]? = some (.cells #[.int .i64 0, .int .i64 0, .string ⟨#[]⟩, .int .i64 0] 177 (0, 0))
set_option maxHeartbeats 8000000 in
set_option maxRecDepth 100000 in
theorem read_calls (g : Nat) (p : PS) (w : World) (hb : PB w g p) (hk : POK p) (hh : p.hv = false) : Calls Tryz.prog 98 #[.pointer (some ⟨g, 0, none⟩)] w (ReadP w g p) := by
  have HB := Ad.mk hb
  have HK := Ad.mk hk
  have hs := hk.sz
  have hpos := hk.pos
  have hl := blk_lt hb.blk
  have n1 : ¬ g = w.heap.size := by omega
  have n2 : ¬ w.heap.size = g := by omega
  have HX := Ad.mk (blk_new w (.cells #[.int .i64 0, .int .i64 0, .string ⟨#[]⟩, .int .i64 0] 177))
  clear hb hk
  go_enter Tryz.func98, Tryz.ntmps98
  go_upto_block 0 with fail
  go_cut [] (fun wx => Ad (ReadM w g p wx))
  case first =>
    go_wp2_with fail
    go_loopw [] (fun wr => Ad (∃ i, p.pos ≤ i ∧ i ≤ p.s.size ∧ (p.s = ⟨#[48]⟩ → i = p.pos) ∧ PB wr g { p with pos := i } ∧ Chg w wr (· = g) ∧ wr.heap[w.heap.size]? = some (.cells #[.int .i64 0, .int .i64 0, .string ⟨#[]⟩, .int .i64 0] 177 (0, 0)))) (fun wr => p.s.size - (intOf ((wr.cell? ⟨g, 1, none⟩).getD undef)).toNat)
    case atStart => exact ⟨⟨p.pos, Nat.le_refl _, hpos, fun _ => rfl, HB.out.below (below_alloc (Below.refl _ _) _), Chg.of_below (below_alloc (Below.refl _ _) _), HX.out⟩⟩
    case round =>
      obtain ⟨i, hi0, hi1, hz, hbw, hcw, hxw⟩ := hrel.out
      obtain ⟨c0, c1, c2, c3, c4, c5, c6, c7, cf⟩ := hbw.cells
      have wl := blk_lt hbw.blk
      have HBW := Ad.mk hbw
      have HCW := Ad.mk hcw
      have HXW := Ad.mk hxw
      have HZ := Ad.mk hz
      clear hrel hbw hcw hxw c2 c3 c4 c5 c6 c7 hz
      by_cases hlt : i < p.s.size
      · have j0 : (0 : Int) ≤ (i : Int) := by omega
        have j1 : (i : Int) < (p.s.size : Int) := by omega
        have hby : byteAt p.s i = (p.s[i].toNat : Int) := dif_pos hlt
        have HBY := Ad.mk hby
        clear hby
        by_cases h32 : ((p.s[i].toNat : Int) == 32) = true
        · go_wp2_with fail
          go_quiet (fail)
          go_wp2_with fail
          have hn := fun k => PB.next (HBW.out.drewN k)
          refine ⟨⟨i + 1, by omega, by omega, fun hz => ?_, hn _, (HCW.out.trans (chg_drewN _ _)).set rfl 1 _, (((Chg.refl (wr.drewN nq) (· = g)).set rfl 1 (.int .i64 ((i : Int) + 1))).block _ (blk_lt (blk_below HXW.out (below_drewN nq))) n2).trans (blk_below HXW.out (below_drewN nq))⟩, ?_⟩
          · exfalso
            have h1 : byteAt p.s i = 32 := by rw [HBY.out]; simpa using h32
            rw [hz] at h1 hlt
            have h2 : i = 0 := by have : (⟨#[48]⟩ : ByteArray).size = 1 := rfl; omega
            subst h2
            exact absurd h1 (by decide)
          · rw [c1, (hn _).cells.2.1]
            simp [intOf]
            omega
        · have h32' : ((p.s[i].toNat : Int) == 32) = false := by simpa using h32
          go_wp2_with fail
          go_quiet (fail)
          go_wp2_with fail
          go_meet
          exact ⟨⟨i, hi0, hi1, HZ.out, fun _ => by rw [HBY.out]; simpa using h32, HBW.out.drewN _, HCW.out.trans (chg_drewN _ _), blk_below HXW.out (below_drewN _)⟩⟩
      · have e0 : decide ((i : Int) < (p.s.size : Int)) = false := decide_eq_false (by omega)
        go_wp2_with fail
        go_quiet (fail)
        go_wp2_with fail
        go_meet
        exact ⟨⟨i, hi0, hi1, HZ.out, fun h => absurd h hlt, HBW.out.drewN _, HCW.out.trans (chg_drewN _ _), blk_below HXW.out (below_drewN _)⟩⟩
  case rest =>
    obtain ⟨i, hi0, hi1, hz, h32, hbw, hcw, hxw⟩ := hcut.out
    obtain ⟨c0, c1, c2, c3, c4, c5, c6, c7, cf⟩ := hbw.cells
    have wl := blk_lt hbw.blk
    have xl := blk_lt hxw
    have x0 := blk_cell hxw 0
    have x1 := blk_cell hxw 1
    have x2 := blk_cell hxw 2
    have x3 := blk_cell hxw 3
    have xf := fun j => blk_frozen hxw j
    simp at x0 x1 x2 x3
    have m1 : ¬ g = wc.heap.size := by omega
    have m2 : ¬ wc.heap.size = g := by omega
    have m3 : ¬ w.heap.size = wc.heap.size := by omega
    have m4 : ¬ wc.heap.size = w.heap.size := by omega
    have HBW := Ad.mk hbw
    have HCW := Ad.mk hcw
    have HXW := Ad.mk hxw
    have HZ := Ad.mk hz
    have H32 := Ad.mk h32
    clear hcut hbw hcw hxw c2 c3 c4 c5 c6 c7 hz h32
    by_cases hlt : i < p.s.size
    · have j0 : (0 : Int) ≤ (i : Int) := by omega
      have j1 : (i : Int) < (p.s.size : Int) := by omega
      have e0 : ((i : Int) == (p.s.size : Int)) = false := by simp; omega
      go_wp2_with fail
      go_quiet (fail)
      go_wp2_with fail
      go_quiet (fail)
      have hpb := fun k => (HBW.out.below (below_alloc (Below.refl _ _) (.cells #[.int .i64 0, .int .i64 i, .string ⟨#[]⟩, .int .i64 0] 177))).drewN k
      have htk := fun k => blk_below (blk_new wc (.cells #[.int .i64 0, .int .i64 i, .string ⟨#[]⟩, .int .i64 0] 177)) (below_drewN k)
      have hB1 := fun k => below_then (below_alloc (Below.refl _ wc) (.cells #[.int .i64 0, .int .i64 i, .string ⟨#[]⟩, .int .i64 0] 177)) (below_drewN k)
      have HPB := Ad.mk hpb
      have HTK := Ad.mk htk
      have HB1 := Ad.mk hB1
      have hby : byteAt p.s i = (p.s[i].toNat : Int) := dif_pos hlt
      have HBY := Ad.mk hby
      have hu8 := UInt8.toNat_lt p.s[i]
      have hno1 : ¬ Z1 p := fun h => by have h1 : p.s.size = 1 := by rw [h.1]; rfl
                                        have := h.2.1; omega
      have HN1 := Ad.mk hno1
      clear hpb htk hB1 hby hno1
      by_cases hd : (48 : Int) ≤ (p.s[i].toNat : Int) ∧ (p.s[i].toNat : Int) ≤ 57
      · have d1 := decide_eq_true hd.1
        have d2 := decide_eq_true hd.2
        go_wp2_with (go_at_call 116; refine (number_read g wc.heap.size { p with pos := i } i _ (HPB.out _) hs hlt (by show 48 ≤ p.s[i].toNat ∧ p.s[i].toNat ≤ 57; omega) (HTK.out _) wl).mono ?_; rintro e1 w1 (⟨⟨x, rfl, hc1⟩, hnz⟩ | ⟨j, n, rfl, hj0, hj1, hpb1, htk1, hc1, hn0, hn1⟩) <;> (try (have hx1 := (hc1.block w.heap.size (Nat.lt_of_lt_of_le xl (HB1.out _).size) (fun h => by rcases h with h | h <;> omega)).trans (blk_below HXW.out (HB1.out _)); have y0 := blk_cell htk1 0; have y1 := blk_cell htk1 1; have y2 := blk_cell htk1 2; have y3 := blk_cell htk1 3; have z0 := blk_cell hx1 0; have z1 := blk_cell hx1 1; have z2 := blk_cell hx1 2; have z3 := blk_cell hx1 3; have zf := (fun j => blk_frozen hx1 j); simp at y0 y1 y2 y3 z0 z1 z2 z3; have ql := blk_lt hx1; have HX1 := Ad.mk hx1; have HPB1 := Ad.mk hpb1; have HC1 := Ad.mk hc1; clear hx1 htk1 hpb1 hc1)))
        · refine ⟨rfl, .inl ⟨⟨x, rfl, ((HCW.out.trans (Chg.of_below (HB1.out _))).then_ hc1 (fun q hq h => by rcases h with h | h; exact h; omega))⟩, fun h => hnz ⟨h.1, ?_⟩, HN1.out⟩⟩
          rcases h.2 with h2 | h2
          · have := HZ.out h.1; omega
          · rw [hh] at h2; cases h2.1
        · exact ReadP.fin hl HK.out hh hi0 hj0 hj1 HCW.out (HB1.out _) HC1.out HPB1.out HX1.out xl (by omega) (by decide) (by omega) ⟨by omega, hn1⟩ (fun _ => rfl) (Below.refl _ _) rfl rfl rfl
      · have hno0 : ¬ Z0 p := fun h => by
          have h1 : p.s.size = 1 := by rw [h.1]; rfl
          have h2 : i = 0 := by omega
          have h3 := HBY.out
          have h4 : byteAt p.s i = 48 := by rw [h.1, h2]; decide
          exact hd (by omega)
        have HN0 := Ad.mk hno0
        clear hno0
        by_cases hw : (97 : Int) ≤ (p.s[i].toNat : Int) ∧ (p.s[i].toNat : Int) ≤ 122
        · have d0 : decide ((48 : Int) ≤ (p.s[i].toNat : Int)) = true := decide_eq_true (by omega)
          have d1 : decide ((p.s[i].toNat : Int) ≤ 57) = false := decide_eq_false (by omega)
          have d2 := decide_eq_true hw.1
          have d3 := decide_eq_true hw.2
          go_wp2_with (go_at_call 117; refine (word_read g wc.heap.size { p with pos := i } i _ (HPB.out _) hs hlt (by show 97 ≤ p.s[i].toNat ∧ p.s[i].toNat ≤ 122; omega) rfl (HTK.out _) wl).mono ?_; rintro e1 w1 (⟨x, rfl, hc1⟩ | ⟨j, s, n, rfl, hj0, hj1, hss, hsq, ⟨hpb1, htk1, hc1⟩, hn1⟩) <;> (try (have hx1 := (hc1.block w.heap.size (Nat.lt_of_lt_of_le xl (HB1.out _).size) (fun h => by rcases h with h | h <;> omega)).trans (blk_below HXW.out (HB1.out _)); have y0 := blk_cell htk1 0; have y1 := blk_cell htk1 1; have y2 := blk_cell htk1 2; have y3 := blk_cell htk1 3; have z0 := blk_cell hx1 0; have z1 := blk_cell hx1 1; have z2 := blk_cell hx1 2; have z3 := blk_cell hx1 3; have zf := (fun j => blk_frozen hx1 j); simp at y0 y1 y2 y3 z0 z1 z2 z3; have ql := blk_lt hx1; have HX1 := Ad.mk hx1; have HPB1 := Ad.mk hpb1; have HC1 := Ad.mk hc1; clear hx1 htk1 hpb1 hc1)))
          · exact ⟨rfl, .inl ⟨⟨x, rfl, ((HCW.out.trans (Chg.of_below (HB1.out _))).then_ hc1 (fun q hq h => by rcases h with h | h; exact h; omega))⟩, HN0.out, HN1.out⟩⟩
          · exact ReadP.fin hl HK.out hh hi0 hj0 hj1 HCW.out (HB1.out _) HC1.out HPB1.out HX1.out xl (by omega) hss (fun _ => hsq (by first | rfl | trivial | omega)) hn1 (fun h => absurd h HN0.out) (Below.refl _ _) rfl rfl rfl
        · by_cases hq : ((p.s[i].toNat : Int) == 34) = true
          · have hq34 : byteAt p.s i = 34 := by rw [HBY.out]; simpa using hq
            have HQ := Ad.mk hq34
            have d0 : decide ((48 : Int) ≤ (p.s[i].toNat : Int)) = false := decide_eq_false (by simp at hq; omega)
            have d2 : decide ((97 : Int) ≤ (p.s[i].toNat : Int)) = false := decide_eq_false (by simp at hq; omega)
            clear hq34
            go_wp2_with (go_at_call 118; refine (quoted_read g wc.heap.size { p with pos := i } i _ (HPB.out _) hs HQ.out rfl (HTK.out _) wl).mono ?_; rintro e1 w1 (⟨x, rfl, hc1⟩ | ⟨j, s, n, rfl, hj0, hj1, hss, hsq, ⟨hpb1, htk1, hc1⟩, hn1⟩) <;> (try (have hx1 := (hc1.block w.heap.size (Nat.lt_of_lt_of_le xl (HB1.out _).size) (fun h => by rcases h with h | h <;> omega)).trans (blk_below HXW.out (HB1.out _)); have y0 := blk_cell htk1 0; have y1 := blk_cell htk1 1; have y2 := blk_cell htk1 2; have y3 := blk_cell htk1 3; have z0 := blk_cell hx1 0; have z1 := blk_cell hx1 1; have z2 := blk_cell hx1 2; have z3 := blk_cell hx1 3; have zf := (fun j => blk_frozen hx1 j); simp at y0 y1 y2 y3 z0 z1 z2 z3; have ql := blk_lt hx1; have HX1 := Ad.mk hx1; have HPB1 := Ad.mk hpb1; have HC1 := Ad.mk hc1; clear hx1 htk1 hpb1 hc1)))
            · exact ⟨rfl, .inl ⟨⟨x, rfl, ((HCW.out.trans (Chg.of_below (HB1.out _))).then_ hc1 (fun q hq h => by rcases h with h | h; exact h; omega))⟩, HN0.out, HN1.out⟩⟩
            · exact ReadP.fin hl HK.out hh hi0 hj0 hj1 HCW.out (HB1.out _) HC1.out HPB1.out HX1.out xl (by omega) hss (fun _ => hsq (by first | rfl | trivial | omega)) hn1 (fun h => absurd h HN0.out) (Below.refl _ _) rfl rfl rfl
          · have hq' : ((p.s[i].toNat : Int) == 34) = false := by simpa using hq
            have hgv := (HPB.out 0).gv
            have g1' : 1 < g := by obtain ⟨w0, h0, h1, h2⟩ := hgv; have := World.block_lt_of_cell? _ _ (h0.signs 0 (by omega)); simp at this; omega
            clear hgv
            have hsg := HBW.out.gv.gv
            have q1 : ¬ wc.heap.size = 1 := by omega
            have q2 : ¬ 1 = wc.heap.size := by omega
            have ql1 : 1 < wc.heap.size := by omega
            have ws0 := hsg.signs 0 (by omega)
            have ws1 := hsg.signs 1 (by omega)
            have ws2 := hsg.signs 2 (by omega)
            have ws3 := hsg.signs 3 (by omega)
            have ws4 := hsg.signs 4 (by omega)
            have ws5 := hsg.signs 5 (by omega)
            have ws6 := hsg.signs 6 (by omega)
            have ws7 := hsg.signs 7 (by omega)
            have ws8 := hsg.signs 8 (by omega)
            have ws9 := hsg.signs 9 (by omega)
            have ws10 := hsg.signs 10 (by omega)
            have ws11 := hsg.signs 11 (by omega)
            have ws12 := hsg.signs 12 (by omega)
            have ws13 := hsg.signs 13 (by omega)
            have ws14 := hsg.signs 14 (by omega)
            have ws15 := hsg.signs 15 (by omega)
            simp only [signsL, List.getD_cons_zero, List.getD_cons_succ] at ws0 ws1 ws2 ws3 ws4 ws5 ws6 ws7 ws8 ws9 ws10 ws11 ws12 ws13 ws14 ws15
            clear hsg
            by_cases hg48 : (48 : Int) ≤ (p.s[i].toNat : Int)
            · have d0 := decide_eq_true hg48
              have d1 : decide ((p.s[i].toNat : Int) ≤ 57) = false := decide_eq_false (by omega)
              by_cases hg97 : (97 : Int) ≤ (p.s[i].toNat : Int)
              · have d2 := decide_eq_true hg97
                have d3 : decide ((p.s[i].toNat : Int) ≤ 122) = false := decide_eq_false (by omega)
                go_wp2_with fail
                clear ws0 ws1 ws2 ws3 ws4 ws5 ws6 ws7 ws8 ws9 ws10 ws11 ws12 ws13 ws14 ws15
                go_loopw [6, 63] (fun v6 v63 wr => ∃ j : Nat, j ≤ 16 ∧ v63 = .int .i64 j ∧ Ad (TokW wc g wc.heap.size { p with pos := i } 4 i i ⟨#[]⟩ 0 wr)) (fun _ v63 _ => 16 - (intOf v63).toNat)
                case atStart => exact ⟨0, by omega, rfl, ⟨TokW.kind ⟨HPB.out _, HTK.out _, Chg.of_below (HB1.out _)⟩ wl 4⟩⟩
                case round =>
                  obtain ⟨j, hj, rfl, hT⟩ := hrel
                  have b0 := hT.out.1.cells.1
                  have b1 := hT.out.1.cells.2.1
                  have bf := fun j => blk_frozen hT.out.1.blk j
                  have bl := blk_lt hT.out.1.blk
                  have t0 := blk_cell hT.out.2.1 0
                  have t1 := blk_cell hT.out.2.1 1
                  have t2 := blk_cell hT.out.2.1 2
                  have t3 := blk_cell hT.out.2.1 3
                  have tf := fun j => blk_frozen hT.out.2.1 j
                  have tl := blk_lt hT.out.2.1
                  simp at b0 b1 t0 t1 t2 t3
                  by_cases hj16 : j < 16
                  · have k0 : (0 : Int) ≤ (j : Int) := by omega
                    have k1 : (j : Int) < 16 := by omega
                    have j2 : (i : Int) ≤ (p.s.size : Int) := by omega
                    have hix := signs_index j hj16
                    obtain ⟨hx1, hx2⟩ := signs_size j hj16
                    generalize signsL.getD j ⟨#[]⟩ = x at hix hx1 hx2
                    go_wp2_with fail
                    go_region_held3 (fun w' => w'.cell? ⟨g, 0, none⟩ = some (.string p.s) ∧ w'.cell? ⟨g, 1, none⟩ = some (.int .i64 i)) (first | go_keep) ((go_at_call 119; refine (Tryz.strings_HasPrefix _ _ _).mono ?_; rintro e1 w1 ⟨he, rfl⟩; generalize hbb : Lib.hasPrefix _ _ = bb at he; subst he; have HBB := Ad.mk hbb; clear hbb))
                    cases bb with
                    | false =>
                      go_wp2_with fail
                      exact ⟨⟨j + 1, by omega, by go_num, ⟨hT.out.below (Below.refl _ _).drew⟩⟩, by simp [intOf]; omega⟩
                    | true =>
                      have hz1 := (hT.out.2.2.block w.heap.size xl (fun h => by rcases h with h | h <;> omega)).trans HXW.out
                      have z0 := blk_cell hz1 0
                      have z1 := blk_cell hz1 1
                      have z2 := blk_cell hz1 2
                      have z3 := blk_cell hz1 3
                      have zf := fun j => blk_frozen hz1 j
                      have zl := blk_lt hz1
                      simp at z0 z1 z2 z3
                      have HZ1 := Ad.mk hz1
                      clear hz1
                      have hxs : i + x.size ≤ p.s.size := by
                        have h1 := (List.isPrefixOf_iff_prefix.1 HBB.out).length_le
                        have h2 := bytes_len x
                        have h3 := bytes_len (p.s.extract i p.s.size)
                        rw [ByteArray.size_extract] at h3
                        omega
                      go_wp2_with fail
                      have hW := (hT.out.text wl x).pos wl (i + x.size)
                      have hW' : Chg wr ((wr.setCell ⟨wc.heap.size, 2, none⟩ (.string x)).setCell ⟨g, 1, none⟩ (.int .i64 ((i : Int) + (x.size : Int)))) (fun q => q = g ∨ q = wc.heap.size) := ((Chg.refl wr _).set (.inr rfl) 2 _).set (.inl rfl) 1 _
                      exact ReadP.fin (W := ((wr.setCell ⟨wc.heap.size, 2, none⟩ (.string x)).setCell ⟨g, 1, none⟩ (.int .i64 ((i : Int) + (x.size : Int))))) (j := i + x.size) hl HK.out hh hi0 (by omega) hxs HCW.out (Below.refl _ _) hW.2.2 hW.1 ((hW'.block w.heap.size zl (fun h => by rcases h with h | h <;> omega)).trans HZ1.out) xl (by omega) (by omega) (fun h => by omega) (by unfold I64; omega) (fun h => absurd h HN0.out) (Below.refl _ _).drew rfl rfl rfl
                  · go_wp2_with (go_at_call 77; refine (giveUp_calls _ _ _).mono ?_; rintro e' w' ⟨x, rfl, hc⟩)
                    exact ⟨rfl, .inl ⟨⟨x, rfl, (((HCW.out.then_ hT.out.2.2 (fun q hq h => by rcases h with h | h; exact h; omega))).then_ hc (fun _ _ h => h.elim))⟩, HN0.out, HN1.out⟩⟩
              · have d2 := decide_eq_false hg97
                go_wp2_with fail
                clear ws0 ws1 ws2 ws3 ws4 ws5 ws6 ws7 ws8 ws9 ws10 ws11 ws12 ws13 ws14 ws15
                go_loopw [6, 63] (fun v6 v63 wr => ∃ j : Nat, j ≤ 16 ∧ v63 = .int .i64 j ∧ Ad (TokW wc g wc.heap.size { p with pos := i } 4 i i ⟨#[]⟩ 0 wr)) (fun _ v63 _ => 16 - (intOf v63).toNat)
                case atStart => exact ⟨0, by omega, rfl, ⟨TokW.kind ⟨HPB.out _, HTK.out _, Chg.of_below (HB1.out _)⟩ wl 4⟩⟩
                case round =>
                  obtain ⟨j, hj, rfl, hT⟩ := hrel
                  have b0 := hT.out.1.cells.1
                  have b1 := hT.out.1.cells.2.1
                  have bf := fun j => blk_frozen hT.out.1.blk j
                  have bl := blk_lt hT.out.1.blk
                  have t0 := blk_cell hT.out.2.1 0
                  have t1 := blk_cell hT.out.2.1 1
                  have t2 := blk_cell hT.out.2.1 2
                  have t3 := blk_cell hT.out.2.1 3
                  have tf := fun j => blk_frozen hT.out.2.1 j
                  have tl := blk_lt hT.out.2.1
                  simp at b0 b1 t0 t1 t2 t3
                  by_cases hj16 : j < 16
                  · have k0 : (0 : Int) ≤ (j : Int) := by omega
                    have k1 : (j : Int) < 16 := by omega
                    have j2 : (i : Int) ≤ (p.s.size : Int) := by omega
                    have hix := signs_index j hj16
                    obtain ⟨hx1, hx2⟩ := signs_size j hj16
                    generalize signsL.getD j ⟨#[]⟩ = x at hix hx1 hx2
                    go_wp2_with fail
                    go_region_held3 (fun w' => w'.cell? ⟨g, 0, none⟩ = some (.string p.s) ∧ w'.cell? ⟨g, 1, none⟩ = some (.int .i64 i)) (first | go_keep) ((go_at_call 119; refine (Tryz.strings_HasPrefix _ _ _).mono ?_; rintro e1 w1 ⟨he, rfl⟩; generalize hbb : Lib.hasPrefix _ _ = bb at he; subst he; have HBB := Ad.mk hbb; clear hbb))
                    cases bb with
                    | false =>
                      go_wp2_with fail
                      exact ⟨⟨j + 1, by omega, by go_num, ⟨hT.out.below (Below.refl _ _).drew⟩⟩, by simp [intOf]; omega⟩
                    | true =>
                      have hz1 := (hT.out.2.2.block w.heap.size xl (fun h => by rcases h with h | h <;> omega)).trans HXW.out
                      have z0 := blk_cell hz1 0
                      have z1 := blk_cell hz1 1
                      have z2 := blk_cell hz1 2
                      have z3 := blk_cell hz1 3
                      have zf := fun j => blk_frozen hz1 j
                      have zl := blk_lt hz1
                      simp at z0 z1 z2 z3
                      have HZ1 := Ad.mk hz1
                      clear hz1
                      have hxs : i + x.size ≤ p.s.size := by
                        have h1 := (List.isPrefixOf_iff_prefix.1 HBB.out).length_le
                        have h2 := bytes_len x
                        have h3 := bytes_len (p.s.extract i p.s.size)
                        rw [ByteArray.size_extract] at h3
                        omega
                      go_wp2_with fail
                      have hW := (hT.out.text wl x).pos wl (i + x.size)
                      have hW' : Chg wr ((wr.setCell ⟨wc.heap.size, 2, none⟩ (.string x)).setCell ⟨g, 1, none⟩ (.int .i64 ((i : Int) + (x.size : Int)))) (fun q => q = g ∨ q = wc.heap.size) := ((Chg.refl wr _).set (.inr rfl) 2 _).set (.inl rfl) 1 _
                      exact ReadP.fin (W := ((wr.setCell ⟨wc.heap.size, 2, none⟩ (.string x)).setCell ⟨g, 1, none⟩ (.int .i64 ((i : Int) + (x.size : Int))))) (j := i + x.size) hl HK.out hh hi0 (by omega) hxs HCW.out (Below.refl _ _) hW.2.2 hW.1 ((hW'.block w.heap.size zl (fun h => by rcases h with h | h <;> omega)).trans HZ1.out) xl (by omega) (by omega) (fun h => by omega) (by unfold I64; omega) (fun h => absurd h HN0.out) (Below.refl _ _).drew rfl rfl rfl
                  · go_wp2_with (go_at_call 77; refine (giveUp_calls _ _ _).mono ?_; rintro e' w' ⟨x, rfl, hc⟩)
                    exact ⟨rfl, .inl ⟨⟨x, rfl, (((HCW.out.then_ hT.out.2.2 (fun q hq h => by rcases h with h | h; exact h; omega))).then_ hc (fun _ _ h => h.elim))⟩, HN0.out, HN1.out⟩⟩
            · have d0 := decide_eq_false hg48
              have d2 : decide ((97 : Int) ≤ (p.s[i].toNat : Int)) = false := decide_eq_false (by omega)
              go_wp2_with fail
              clear ws0 ws1 ws2 ws3 ws4 ws5 ws6 ws7 ws8 ws9 ws10 ws11 ws12 ws13 ws14 ws15
              go_loopw [6, 63] (fun v6 v63 wr => ∃ j : Nat, j ≤ 16 ∧ v63 = .int .i64 j ∧ Ad (TokW wc g wc.heap.size { p with pos := i } 4 i i ⟨#[]⟩ 0 wr)) (fun _ v63 _ => 16 - (intOf v63).toNat)
              case atStart => exact ⟨0, by omega, rfl, ⟨TokW.kind ⟨HPB.out _, HTK.out _, Chg.of_below (HB1.out _)⟩ wl 4⟩⟩
              case round =>
                obtain ⟨j, hj, rfl, hT⟩ := hrel
                have b0 := hT.out.1.cells.1
                have b1 := hT.out.1.cells.2.1
                have bf := fun j => blk_frozen hT.out.1.blk j
                have bl := blk_lt hT.out.1.blk
                have t0 := blk_cell hT.out.2.1 0
                have t1 := blk_cell hT.out.2.1 1
                have t2 := blk_cell hT.out.2.1 2
                have t3 := blk_cell hT.out.2.1 3
                have tf := fun j => blk_frozen hT.out.2.1 j
                have tl := blk_lt hT.out.2.1
                simp at b0 b1 t0 t1 t2 t3
                by_cases hj16 : j < 16
                · have k0 : (0 : Int) ≤ (j : Int) := by omega
                  have k1 : (j : Int) < 16 := by omega
                  have j2 : (i : Int) ≤ (p.s.size : Int) := by omega
                  have hix := signs_index j hj16
                  obtain ⟨hx1, hx2⟩ := signs_size j hj16
                  generalize signsL.getD j ⟨#[]⟩ = x at hix hx1 hx2
                  go_wp2_with fail
                  go_region_held3 (fun w' => w'.cell? ⟨g, 0, none⟩ = some (.string p.s) ∧ w'.cell? ⟨g, 1, none⟩ = some (.int .i64 i)) (first | go_keep) ((go_at_call 119; refine (Tryz.strings_HasPrefix _ _ _).mono ?_; rintro e1 w1 ⟨he, rfl⟩; generalize hbb : Lib.hasPrefix _ _ = bb at he; subst he; have HBB := Ad.mk hbb; clear hbb))
                  cases bb with
                  | false =>
                    go_wp2_with fail
                    exact ⟨⟨j + 1, by omega, by go_num, ⟨hT.out.below (Below.refl _ _).drew⟩⟩, by simp [intOf]; omega⟩
                  | true =>
                    have hz1 := (hT.out.2.2.block w.heap.size xl (fun h => by rcases h with h | h <;> omega)).trans HXW.out
                    have z0 := blk_cell hz1 0
                    have z1 := blk_cell hz1 1
                    have z2 := blk_cell hz1 2
                    have z3 := blk_cell hz1 3
                    have zf := fun j => blk_frozen hz1 j
                    have zl := blk_lt hz1
                    simp at z0 z1 z2 z3
                    have HZ1 := Ad.mk hz1
                    clear hz1
                    have hxs : i + x.size ≤ p.s.size := by
                      have h1 := (List.isPrefixOf_iff_prefix.1 HBB.out).length_le
                      have h2 := bytes_len x
                      have h3 := bytes_len (p.s.extract i p.s.size)
                      rw [ByteArray.size_extract] at h3
                      omega
                    go_wp2_with fail
                    have hW := (hT.out.text wl x).pos wl (i + x.size)
                    have hW' : Chg wr ((wr.setCell ⟨wc.heap.size, 2, none⟩ (.string x)).setCell ⟨g, 1, none⟩ (.int .i64 ((i : Int) + (x.size : Int)))) (fun q => q = g ∨ q = wc.heap.size) := ((Chg.refl wr _).set (.inr rfl) 2 _).set (.inl rfl) 1 _
                    exact ReadP.fin (W := ((wr.setCell ⟨wc.heap.size, 2, none⟩ (.string x)).setCell ⟨g, 1, none⟩ (.int .i64 ((i : Int) + (x.size : Int))))) (j := i + x.size) hl HK.out hh hi0 (by omega) hxs HCW.out (Below.refl _ _) hW.2.2 hW.1 ((hW'.block w.heap.size zl (fun h => by rcases h with h | h <;> omega)).trans HZ1.out) xl (by omega) (by omega) (fun h => by omega) (by unfold I64; omega) (fun h => absurd h HN0.out) (Below.refl _ _).drew rfl rfl rfl
                · go_wp2_with (go_at_call 77; refine (giveUp_calls _ _ _).mono ?_; rintro e' w' ⟨x, rfl, hc⟩)
                  exact ⟨rfl, .inl ⟨⟨x, rfl, (((HCW.out.then_ hT.out.2.2 (fun q hq h => by rcases h with h | h; exact h; omega))).then_ hc (fun _ _ h => h.elim))⟩, HN0.out, HN1.out⟩⟩
    · have e0 : ((i : Int) == (p.s.size : Int)) = true := by simp; omega
      go_wp2_with fail
      go_quiet (fail)
      go_wp2_with fail
      have hx1 := blk_below HXW.out (below_then (below_alloc (Below.refl _ wc) (.cells #[.int .i64 0, .int .i64 i, .string ⟨#[]⟩, .int .i64 0] 177)) (below_drewN nq))
      have hpb := (HBW.out.below (below_alloc (Below.refl _ wc) (.cells #[.int .i64 0, .int .i64 i, .string ⟨#[]⟩, .int .i64 0] 177))).drewN nq
      have hc4 := chg4 (Chg.refl (((wc.alloc (.cells #[.int .i64 0, .int .i64 i, .string ⟨#[]⟩, .int .i64 0] 177)).drewN nq)) (· = w.heap.size)) rfl (.int .i64 0) (.int .i64 i) (.string ⟨#[]⟩) (.int .i64 0)
      have hie : i = p.s.size := by omega
      refine tok_fin (b := w.heap.size) rfl rfl rfl (put4 hx1 rfl _ _ _ _) (.inr ⟨{ p with pos := i, tk := 0, ta := i, tt := ⟨#[]⟩, tn := 0, hv := true }, rfl, ⟨(hc4.block g (blk_lt hpb.blk) (fun e => by have e' : g = w.heap.size := e; omega)).trans hpb.blk, ?_⟩, ⟨hs, hi1, by show (0 : Int) ≤ 0 ∧ (0 : Int) ≤ 4; omega, by show i ≤ 100; omega, by show (0 : Nat) ≤ 100; omega, fun h => absurd h (by show ¬ (0 : Int) = 3; decide), by show I64 0; unfold I64; omega, fun _ h => absurd rfl h⟩, rfl, rfl, rfl, ?_, ?_, ?_, ?_⟩)
      · obtain ⟨w0, e0, e1, e2⟩ := hpb.gv
        exact ⟨w0, e0, below_chg e1 hc4 (fun q hq => by have e' : q = w.heap.size := hq; omega), e2⟩
      · show p.s.size - i + _ ≤ p.s.size - p.pos + _
        simp
        omega
      · exact (HCW.out.trans (Chg.of_below (below_then (below_alloc (Below.refl _ wc) _) (below_drewN nq)))).then_ hc4 (fun q hq h => by have e' : q = w.heap.size := h; omega)
      · intro h
        have h1 : p.s.size = 1 := by rw [h.1]; rfl
        have h2 := HZ.out h.1
        rcases h.2 with h3 | h3
        · omega
        · rw [hh] at h3; cases h3.1
      · intro h
        exact ⟨h.1, by show i = 1; have h1 : p.s.size = 1 := by rw [h.1]; rfl
                       omega, .inr rfl⟩
end Go.Proofs.YtahnelihohmjfaaGreatDoor.V
namespace Go.Proofs.YtahnelihohmjfaaGreatDoor.V
open Go.RowKit
set_option linter.unusedVariables false
set_option linter.unusedSimpArgs false
/-! ### the token that stands there -/
/-- what 'peek' leaves -/
def PeekP (w : World) (g : Nat) (p : PS) (e : Ending) (w' : World) : Prop :=
  (Gave w (· = g) e w' ∧ ¬ Z0 p ∧ ¬ Z1 p) ∨ ∃ q : PS, e = .returned q.tok ∧ PB w' g q ∧ POK q ∧ q.hv = true ∧ q.s = p.s ∧ q.rem ≤ p.rem ∧ Chg w w' (· = g) ∧ (Z0 p → Z0 q) ∧ (Z1 p → Z1 q)
theorem put4at {w : World} {b : Nat} {T : TypeId} {c0 c1 c2 c3 c4 c5 c6 c7 : Value} (h : w.heap[b]? = some (.cells #[c0, c1, c2, c3, c4, c5, c6, c7] T (0, 0))) (v0 v1 v2 v3 v4 : Value) :
    (((((w.setCell ⟨b, 2, none⟩ v0).setCell ⟨b, 3, none⟩ v1).setCell ⟨b, 4, none⟩ v2).setCell ⟨b, 5, none⟩ v3).setCell ⟨b, 6, none⟩ v4).heap[b]? = some (.cells #[c0, c1, v0, v1, v2, v3, v4, c7] T (0, 0)) :=
  blk_put (blk_put (blk_put (blk_put (blk_put h 2 _ rfl) 3 _ rfl) 4 _ rfl) 5 _ rfl) 6 _ rfl
set_option maxHeartbeats 8000000 in
set_option maxRecDepth 100000 in
theorem peek_calls (g : Nat) (p : PS) (w : World) (hb : PB w g p) (hk : POK p) : Calls Tryz.prog 79 #[.pointer (some ⟨g, 0, none⟩)] w (PeekP w g p) := by
  cases hv : p.hv with
  | true =>
    refine (peek_have g p w hb hv).mono ?_
    rintro e w' ⟨rfl, hB⟩
    exact .inr ⟨p, rfl, hb.below hB, hk, hv, rfl, Nat.le_refl _, Chg.of_below hB, id, id⟩
  | false =>
    have HB := Ad.mk hb
    have HK := Ad.mk hk
    have hl := blk_lt hb.blk
    have n1 : ¬ g = w.heap.size := by omega
    have n2 : ¬ w.heap.size = g := by omega
    obtain ⟨c0, c1, c2, c3, c4, c5, c6, c7, cf⟩ := hb.cells
    rw [hv] at c6
    have HX := Ad.mk (blk_new w (.cells #[.int .i64 0, .int .i64 0, .string ⟨#[]⟩, .int .i64 0] 177))
    clear hb hk
    go_enter Tryz.func79, Tryz.ntmps79
    go_wp2_with (go_at_call 98; refine (read_calls g p _ (HB.out.below (below_alloc (Below.refl _ _) _)) HK.out hv).mono ?_; rintro e1 w1 (⟨⟨x, rfl, hc1⟩, hz⟩ | ⟨q, rfl, hpb, hqk, hqh, hqs, hqo, hqr, hc1, hz0, hz1⟩) <;> (try (have hx1 := (hc1.block w.heap.size (by simp) n2).trans HX.out; obtain ⟨d0, d1, d2, d3, d4, d5, d6, d7, df⟩ := hpb.cells; have z0 := blk_cell hx1 0; have z1 := blk_cell hx1 1; have z2 := blk_cell hx1 2; have z3 := blk_cell hx1 3; have zf := (fun j => blk_frozen hx1 j); simp at z0 z1 z2 z3; have xl := blk_lt hx1; have gl := blk_lt hpb.blk; have HX1 := Ad.mk hx1; have HPB := Ad.mk hpb; have HQK := Ad.mk hqk; have HC1 := Ad.mk hc1; have HQ := Ad.mk (And.intro hqh (And.intro hqs (And.intro hqo hqr))); have HZ0 := Ad.mk hz0; have HZ1 := Ad.mk hz1; unfold PS.tok; clear hx1 hpb hqk hc1 hqh hqs hqo hqr hz0 hz1)))
    · exact ⟨rfl, .inl ⟨⟨x, rfl, (Chg.of_below (below_alloc (Below.refl _ _) _)).trans hc1⟩, hz⟩⟩
    · obtain ⟨hqh, hqs, hqo, hqr⟩ := HQ.out
      have hg2 := put4at HPB.out.blk (.int .i64 q.tk) (.int .i64 q.ta) (.string q.tt) (.int .i64 q.tn) (.bool true)
      have hc2 := (((((Chg.refl w1 (· = g)).set rfl 2 (.int .i64 q.tk)).set rfl 3 (.int .i64 q.ta)).set rfl 4 (.string q.tt)).set rfl 5 (.int .i64 q.tn)).set rfl 6 (.bool true)
      generalize (((((w1.setCell ⟨g, 2, none⟩ (.int .i64 q.tk)).setCell ⟨g, 3, none⟩ (.int .i64 q.ta)).setCell ⟨g, 4, none⟩ (.string q.tt)).setCell ⟨g, 5, none⟩ (.int .i64 q.tn)).setCell ⟨g, 6, none⟩ (.bool true)) = W2 at hg2 hc2 ⊢
      have hx2 := (hc2.block _ xl n2).trans HX1.out
      have hc4 := chg4 (Chg.refl W2 (· = w.heap.size)) rfl (.int .i64 q.tk) (.int .i64 q.ta) (.string q.tt) (.int .i64 q.tn)
      have hg4 := (hc4.block g (blk_lt hg2) n1).trans hg2
      have hall := (((Chg.of_below (S := (· = g)) (below_alloc (Below.refl _ w) (.cells #[.int .i64 0, .int .i64 0, .string ⟨#[]⟩, .int .i64 0] 177))).trans HC1.out).trans hc2).then_ hc4 (fun z hz e => by have e' : z = w.heap.size := e; omega)
      refine tok_fin (b := w.heap.size) rfl rfl rfl (put4 hx2 rfl _ _ _ _) (.inr ⟨q, rfl, ⟨?_, HB.out.gv.chg hall⟩, HQK.out, hqh, hqs, hqr, hall, HZ0.out, HZ1.out⟩)
      rw [hqs, hqh, hqo]
      exact hg4
/-- is that word or sign there? -/
def IsP (w : World) (g : Nat) (p : PS) (k : Int) (s : ByteArray) (e : Ending) (w' : World) : Prop :=
  (Gave w (· = g) e w' ∧ ¬ Z0 p ∧ ¬ Z1 p) ∨ ∃ q : PS, e = .returned (.bool (q.tk == k && q.tt.toList == s.toList)) ∧ PB w' g q ∧ POK q ∧ q.hv = true ∧ q.s = p.s ∧ q.rem ≤ p.rem ∧ Chg w w' (· = g) ∧ (Z0 p → Z0 q) ∧ (Z1 p → Z1 q)
set_option maxHeartbeats 8000000 in
set_option maxRecDepth 100000 in
theorem is_calls (g : Nat) (p : PS) (k : Int) (s : ByteArray) (w : World) (hb : PB w g p) (hk : POK p) : Calls Tryz.prog 94 #[.pointer (some ⟨g, 0, none⟩), .int .i64 k, .string s] w (IsP w g p k s) := by
  have HB := Ad.mk hb
  have HK := Ad.mk hk
  have hl := blk_lt hb.blk
  clear hb hk
  go_enter Tryz.func94, Tryz.ntmps94
  go_wp2_with (go_at_call 79; refine (peek_calls g p _ HB.out HK.out).mono ?_; rintro e1 w1 (⟨⟨x, rfl, hc1⟩, hz⟩ | ⟨q, rfl, hpb, hqk, hqh, hqs, hqr, hc1, hz0, hz1⟩) <;> (try (have HPB := Ad.mk hpb; have HQK := Ad.mk hqk; have HC1 := Ad.mk hc1; have HQ := Ad.mk (And.intro hqh (And.intro hqs hqr)); have HZ0 := Ad.mk hz0; have HZ1 := Ad.mk hz1; unfold PS.tok; clear hpb hqk hc1 hqh hqs hqr hz0 hz1)))
  · exact ⟨rfl, .inl ⟨⟨x, rfl, hc1⟩, hz⟩⟩
  · have e : (q.tk == k && q.tt.toList == s.toList) = (q.tt.toList == s.toList) := by simp [‹q.tk = k›]
    go_ret
    exact .inr ⟨q, by rw [e]; rfl, HPB.out.below (below_alloc (Below.refl _ _) _), HQK.out, HQ.out.1, HQ.out.2.1, HQ.out.2.2, HC1.out.trans (Chg.of_below (below_alloc (Below.refl _ _) _)), HZ0.out, HZ1.out⟩
  · have e : (q.tk == k && q.tt.toList == s.toList) = false := by simp [‹¬q.tk = k›]
    go_ret
    exact .inr ⟨q, by rw [e]; rfl, HPB.out.below (below_alloc (Below.refl _ _) _), HQK.out, HQ.out.1, HQ.out.2.1, HQ.out.2.2, HC1.out.trans (Chg.of_below (below_alloc (Below.refl _ _) _)), HZ0.out, HZ1.out⟩
theorem PB.open {w : World} {g : Nat} {p : PS} (h : PB w g p) (n : Int) : PB (w.setCell ⟨g, 7, none⟩ (.int .i64 n)) g { p with op := n } :=
  ⟨blk_put h.blk 7 (.int .i64 n) rfl, h.gv.chg ((Chg.refl w (· = g)).set rfl 7 _)⟩
theorem tok_field (a b c d : Value) (w : World) : (Instr.field 177 (.agg #[a, b, c, d]) 1).run Tryz.prog w = .ok b w := by kernel_rfl
/-- a word or sign that must be there -/
def WantP (w : World) (g : Nat) (p : PS) (e : Ending) (w' : World) : Prop :=
  Gave w (· = g) e w' ∨ ∃ q : PS, e = .returned (.tuple #[]) ∧ PB w' g q ∧ POK q ∧ q.hv = false ∧ q.s = p.s ∧ q.rem + 1 ≤ p.rem ∧ Chg w w' (· = g)
set_option maxHeartbeats 8000000 in
set_option maxRecDepth 100000 in
theorem want_calls (g : Nat) (p : PS) (k : Int) (s : ByteArray) (w : World) (hb : PB w g p) (hk : POK p) (hk0 : k ≠ 0) : Calls Tryz.prog 97 #[.pointer (some ⟨g, 0, none⟩), .int .i64 k, .string s] w (WantP w g p) := by
  have HB := Ad.mk hb
  have HK := Ad.mk hk
  have HK0 := Ad.mk hk0
  have hl := blk_lt hb.blk
  clear hb hk hk0
  go_enter Tryz.func97, Tryz.ntmps97
  go_wp2_with (go_at_call 94; refine (is_calls g p k s _ HB.out HK.out).mono ?_; rintro e1 w1 (⟨⟨x, rfl, hc1⟩, hz⟩ | ⟨q, rfl, hpb, hqk, hqh, hqs, hqr, hc1, hz0, hz1⟩) <;> (try (generalize hbb : (q.tk == k && q.tt.toList == s.toList) = bb; have HBB := Ad.mk hbb; have HPB := Ad.mk hpb; have HQK := Ad.mk hqk; have HC1 := Ad.mk hc1; have HQ := Ad.mk (And.intro hqh (And.intro hqs hqr)); clear hpb hqk hc1 hqh hqs hqr hz0 hz1 hbb)))
  · exact ⟨rfl, .inl ⟨x, rfl, hc1⟩⟩
  · have hfd := tok_field
    go_wp2_with (first
      | (go_at_call 79; refine (peek_have g q _ HPB.out HQ.out.1).mono ?_; rintro e2 w2 ⟨rfl, hb2⟩; have HB2 := Ad.mk hb2; clear hb2; unfold PS.tok)
      | (go_at_call 77; refine (giveUp_calls _ _ _).mono ?_; rintro e' w' ⟨x, rfl, hc⟩))
    exact ⟨rfl, .inl ⟨x, rfl, (HC1.out.trans (Chg.of_below HB2.out)).then_ hc (fun _ _ h => h.elim)⟩⟩
  · have hbt : bb = true := by simpa using ‹(!bb) = false›
    subst hbt
    have hqk : (q.tk == k) = true := by have := HBB.out; simp only [Bool.and_eq_true] at this; exact this.1
    have hqk0 : q.tk ≠ 0 := by have h1 : q.tk = k := by simpa using hqk
                               have h2 := HK0.out; omega
    have hrem : ({ q with hv := false } : PS).rem + 1 ≤ p.rem := by
      have h1 := HQ.out.2.2
      unfold PS.rem at h1 ⊢
      rw [if_pos ⟨HQ.out.1, hqk0⟩] at h1
      simp only [Bool.false_eq_true, false_and, if_false]
      have := HQK.out.pos
      simpa using h1
    have hok : POK { q with hv := false } := ⟨HQK.out.sz, HQK.out.pos, HQK.out.tk0, HQK.out.ta, HQK.out.tt, HQK.out.quo, HQK.out.tn, fun h => by cases h⟩
    have HREM := Ad.mk hrem
    have HOK := Ad.mk hok
    clear hrem hok hqk hqk0
    go_wp2_with (first
      | (go_at_call 96; refine (next_have g q _ HPB.out HQ.out.1).mono ?_; rintro e2 w2 ⟨rfl, hpb2, hc2⟩; obtain ⟨d0, d1, d2, d3, d4, d5, d6, d7, df⟩ := hpb2.cells; have gl := blk_lt hpb2.blk; have m1 : ¬ g = w2.heap.size := (by omega); have m2 : ¬ w2.heap.size = g := (by omega); have HPB2 := Ad.mk hpb2; have HC2 := Ad.mk hc2; clear hpb2 hc2 d0 d1 d2 d3 d4 d5 d6; unfold PS.tok)
      | (go_at_call 77; refine (giveUp_calls _ _ _).mono ?_; rintro e' w' ⟨x, rfl, hc⟩))
    all_goals first
      | exact ⟨rfl, .inl ⟨x, rfl, (((HC1.out.trans HC2.out).set rfl 7 _).alloc _).then_ hc (fun _ _ h => h.elim)⟩⟩
      | (go_end0
         first
         | exact .inr ⟨_, rfl, ((HPB2.out.open _).open _).below (below_alloc (Below.refl _ _) _), ⟨HOK.out.sz, HOK.out.pos, HOK.out.tk0, HOK.out.ta, HOK.out.tt, HOK.out.quo, HOK.out.tn, HOK.out.one⟩, rfl, HQ.out.2.1, HREM.out, (((HC1.out.trans HC2.out).set rfl 7 _).set rfl 7 _).alloc _⟩
         | exact .inr ⟨_, rfl, (HPB2.out.open _).below (below_alloc (Below.refl _ _) _), ⟨HOK.out.sz, HOK.out.pos, HOK.out.tk0, HOK.out.ta, HOK.out.tt, HOK.out.quo, HOK.out.tn, HOK.out.one⟩, rfl, HQ.out.2.1, HREM.out, ((HC1.out.trans HC2.out).set rfl 7 _).alloc _⟩
         | exact .inr ⟨_, rfl, HPB2.out.below (below_alloc (Below.refl _ _) _), ⟨HOK.out.sz, HOK.out.pos, HOK.out.tk0, HOK.out.ta, HOK.out.tt, HOK.out.quo, HOK.out.tn, HOK.out.one⟩, rfl, HQ.out.2.1, HREM.out, (HC1.out.trans HC2.out).alloc _⟩)
end Go.Proofs.YtahnelihohmjfaaGreatDoor.V
namespace Go.Proofs.YtahnelihohmjfaaGreatDoor.V
open Go.RowKit
set_option linter.unusedVariables false
set_option linter.unusedSimpArgs false
/-! ### the functions that read nodes -/
/-- what one leaves: given up, or a node of n parts, for which as many tokens at least went -/
def NodeP (w : World) (g : Nat) (p : PS) (e : Ending) (w' : World) : Prop :=
  (Gave w (· = g) e w' ∧ ¬ Z0 p) ∨ ∃ v q n, e = .returned v ∧ PB w' g q ∧ POK q ∧ q.s = p.s ∧ q.rem + n ≤ p.rem ∧ 1 ≤ n ∧ NodeAt (fun x => w.heap.size ≤ x) w' n v ∧ Chg w w' (· = g) ∧ (Z0 p → Z1 q)
abbrev NodeF (k N : Nat) : Prop := ∀ (g : Nat) (p : PS) (w : World), PB w g p → POK p → p.rem ≤ N → Calls Tryz.prog k #[.pointer (some ⟨g, 0, none⟩)] w (NodeP w g p)
/-- underway: the parser is at q, N tokens have gone at least -/
structure Way (w : World) (g : Nat) (p : PS) (N : Nat) (w1 : World) (q : PS) : Prop where
  c : Chg w w1 (· = g)
  b : PB w1 g q
  k : POK q
  s : q.s = p.s
  r : q.rem + N ≤ p.rem
theorem Way.start {w : World} {g : Nat} {p : PS} (hb : PB w g p) (hk : POK p) : Way w g p 0 w p := ⟨Chg.refl _ _, hb, hk, rfl, Nat.le_refl _⟩
theorem Way.below {w w1 w2 : World} {g : Nat} {p q : PS} {N : Nat} (h : Way w g p N w1 q) (hb : Below w1.heap.size w1 w2) : Way w g p N w2 q := ⟨h.c.trans (Chg.of_below hb), h.b.below hb, h.k, h.s, h.r⟩
theorem Way.next {w w1 w2 : World} {g : Nat} {p q : PS} {N : Nat} (h : Way w g p N w1 q) (hv : q.hv = true) (ht : q.tk ≠ 0) (hb : PB w2 g { q with hv := false }) (hc : Chg w1 w2 (· = g)) : Way w g p (N + 1) w2 { q with hv := false } := by
  refine ⟨h.c.trans hc, hb, ⟨h.k.sz, h.k.pos, h.k.tk0, h.k.ta, h.k.tt, h.k.quo, h.k.tn, fun h => by cases h⟩, h.s, ?_⟩
  have h1 := h.r
  unfold PS.rem at h1 ⊢
  rw [if_pos ⟨hv, ht⟩] at h1
  simp only [Bool.false_eq_true, false_and, if_false]
  omega
theorem Way.want {w w1 w2 : World} {g : Nat} {p q q' : PS} {N : Nat} (h : Way w g p N w1 q) (hb : PB w2 g q') (hk : POK q') (hs : q'.s = q.s) (hr : q'.rem + 1 ≤ q.rem) (hc : Chg w1 w2 (· = g)) : Way w g p (N + 1) w2 q' :=
  ⟨h.c.trans hc, hb, hk, hs.trans h.s, by have := h.r; omega⟩
theorem Way.peek {w w1 w2 : World} {g : Nat} {p q q' : PS} {N : Nat} (h : Way w g p N w1 q) (hb : PB w2 g q') (hk : POK q') (hs : q'.s = q.s) (hr : q'.rem ≤ q.rem) (hc : Chg w1 w2 (· = g)) : Way w g p N w2 q' :=
  ⟨h.c.trans hc, hb, hk, hs.trans h.s, by have := h.r; omega⟩
theorem Way.node {w w1 w2 : World} {g : Nat} {p q q' : PS} {N n : Nat} {v : Value} (h : Way w g p N w1 q) (hb : PB w2 g q') (hk : POK q') (hs : q'.s = q.s) (hr : q'.rem + n ≤ q.rem) (hc : Chg w1 w2 (· = g)) (hn : NodeAt (fun x => w1.heap.size ≤ x) w2 n v) : Way w g p (N + n) w2 q' ∧ NodeAt (fun x => w.heap.size ≤ x) w2 n v :=
  ⟨⟨h.c.trans hc, hb, hk, hs.trans h.s, by have := h.r; omega⟩, hn.chg (Chg.refl w2 (fun _ => False)) (fun _ _ _ h => h) (fun _ _ hq => Nat.le_trans h.c.size hq)⟩
theorem Way.gave {w w1 : World} {g : Nat} {p q : PS} {N : Nat} {e : Ending} {w' : World} (h : Way w g p N w1 q) (hg : Gave w1 (· = g) e w') : Gave w (· = g) e w' := by
  obtain ⟨x, rfl, hc⟩ := hg
  exact ⟨x, rfl, h.c.trans hc⟩
/-- a node stays as the parser goes on -/
theorem NodeAt.on {w w1 w2 : World} {g n : Nat} {v : Value} (h : NodeAt (fun x => w.heap.size ≤ x) w1 n v) (hg : g < w.heap.size) (hc : Chg w1 w2 (· = g)) : NodeAt (fun x => w.heap.size ≤ x) w2 n v :=
  h.chg hc (fun b _ hq e => by have e' : b = g := e; omega) (fun _ _ hq => hq)
theorem NodeAt.form {Q : Nat → Prop} {w : World} {n : Nat} {v : Value} (h : NodeAt Q w n v) : ∃ T b, v = .iface T (.pointer (some ⟨b, 0, none⟩)) := by
  cases h <;> exact ⟨_, _, rfl⟩
theorem NodeP.from {w w1 : World} {g : Nat} {p q : PS} {e : Ending} {w' : World} (h : NodeP w1 g q e w') (hw : Way w g p 0 w1 q) (hz : Z0 p → Z0 q) : NodeP w g p e w' := by
  rcases h with ⟨hg, hn⟩ | ⟨v, q', n, rfl, hb, hk, hs, hr, h1, hn, hc, hz'⟩
  · exact .inl ⟨hw.gave hg, fun h => hn (hz h)⟩
  · obtain ⟨h2, h3⟩ := hw.node hb hk hs hr hc hn
    exact .inr ⟨v, q', n, rfl, hb, hk, h2.s, by have := h2.r; omega, h1, h3, h2.c, fun h => hz' (hz h)⟩
set_option maxHeartbeats 8000000 in
set_option maxRecDepth 100000 in
theorem expr_of (N : Nat) (hor : NodeF 95 N) (hex : ∀ M, M < N → NodeF 78 M) : NodeF 78 N := by
  intro g p w hb hk hN
  have hl := blk_lt hb.blk
  have W0 := Ad.mk (Way.start hb hk)
  have HOR := Ad.mk hor
  have HEX := Ad.mk hex
  clear hb hk hor hex
  go_enter Tryz.func78, Tryz.ntmps78
  go_wp2_with (go_at_call 94; refine (is_calls g p 2 ⟨#[105, 102]⟩ _ W0.out.b W0.out.k).mono ?_; rintro e1 w1 (⟨⟨x, rfl, hc⟩, hz⟩ | ⟨q1, rfl, hpb, hqk, hqh, hqs, hqr, hc, hz0, hz1⟩) <;> (try (generalize hbb : (q1.tk == 2 && q1.tt.toList == (⟨#[105, 102]⟩ : ByteArray).toList) = bb1; have HBB1 := Ad.mk hbb; have W1 := Ad.mk (W0.out.peek hpb hqk hqs hqr hc); have HQ1 := Ad.mk hqh; have HZ1 := Ad.mk hz0; have HZZ1 := Ad.mk hz1; clear hpb hqk hc hqh hqs hqr hz0 hz1 hbb)))
  · exact ⟨rfl, .inl ⟨⟨x, rfl, hc⟩, hz.1⟩⟩
  · go_wp2_with (go_at_call 95; refine (HOR.out  g q1 _ W1.out.b W1.out.k (by have := W1.out.r; omega)).mono ?_; rintro e2 w2 (⟨⟨x, rfl, hc⟩, hn⟩ | ⟨v1, q2, n1, rfl, hb, hk, hs, hr, h1, hn, hc, hz⟩) <;> (try (obtain ⟨hw, hnd⟩ := W1.out.node hb hk hs hr hc hn; obtain ⟨T2, b2, rfl⟩ := hnd.form; have W2 := Ad.mk hw; have ND1 := Ad.mk hnd; have H11 := Ad.mk h1; have HC2 := Ad.mk hc; have HZN2 := Ad.mk hz; clear hw hnd hb hk hs hr h1 hn hc hz)))
    · exact ⟨rfl, .inl ⟨⟨x, rfl, W1.out.c.trans hc⟩, fun h => hn (HZ1.out h)⟩⟩
    · go_ret
      exact .inr ⟨_, q2, n1, rfl, W2.out.b, W2.out.k, W2.out.s, by have := W2.out.r; omega, H11.out, ND1.out, W2.out.c, fun h => HZN2.out (HZ1.out h)⟩
  · have hbt : bb1 = true := by simpa using ‹(!bb1) = false›
    subst hbt
    have h2 := HBB1.out
    simp only [Bool.and_eq_true] at h2
    have htk : q1.tk = 2 := by simpa using h2.1
    have htk0 : q1.tk ≠ 0 := by omega
    have HNZ : Ad (¬ Z0 p) := ⟨fun h => by
      rcases (HZ1.out h).2 with h3 | h3
      · rw [HQ1.out] at h3; cases h3.1
      · omega⟩
    clear h2 htk
    go_wp2_with (go_at_call 96; refine (next_have g q1 _ W1.out.b HQ1.out).mono ?_; rintro e2 w2 ⟨rfl, hb, hc⟩; have W2 := Ad.mk (W1.out.next HQ1.out htk0 hb hc); clear hb hc; unfold PS.tok)
    go_wp2_with (go_at_call 78; refine (HEX.out _ (by have := W2.out.r; omega) g _ _ W2.out.b W2.out.k (Nat.le_refl _)).mono ?_; rintro e3 w3 (⟨⟨x, rfl, hc⟩, hn⟩ | ⟨v1, q3, n1, rfl, hb, hk, hs, hr, h1, hn, hc, hz⟩) <;> (try (obtain ⟨hw, hnd⟩ := W2.out.node hb hk hs hr hc hn; obtain ⟨T3, b3, rfl⟩ := hnd.form; have W3 := Ad.mk hw; have ND1 := Ad.mk hnd; have H11 := Ad.mk h1; have HC3 := Ad.mk hc; have HZN3 := Ad.mk hz; clear hw hnd hb hk hs hr h1 hn hc hz)))
    · exact ⟨rfl, .inl ⟨⟨x, rfl, W2.out.c.trans hc⟩, HNZ.out⟩⟩
    · go_wp2_with (go_at_call 97; refine (want_calls g q3 2 ⟨#[116, 104, 101, 110]⟩ _ W3.out.b W3.out.k (by decide)).mono ?_; rintro e4 w4 (⟨x, rfl, hc⟩ | ⟨q4, rfl, hb, hk, hh, hs, hr, hc⟩) <;> (try (have W4 := Ad.mk (W3.out.want hb hk hs hr hc); have HC4 := Ad.mk hc; clear hb hk hh hs hr hc)))
      · exact ⟨rfl, .inl ⟨⟨x, rfl, W3.out.c.trans hc⟩, HNZ.out⟩⟩
      · go_wp2_with (go_at_call 78; refine (HEX.out _ (by have := W4.out.r; omega) g _ _ W4.out.b W4.out.k (Nat.le_refl _)).mono ?_; rintro e5 w5 (⟨⟨x, rfl, hc⟩, hn⟩ | ⟨v2, q5, n2, rfl, hb, hk, hs, hr, h1, hn, hc, hz⟩) <;> (try (obtain ⟨hw, hnd⟩ := W4.out.node hb hk hs hr hc hn; obtain ⟨T5, b5, rfl⟩ := hnd.form; have W5 := Ad.mk hw; have ND2 := Ad.mk hnd; have H12 := Ad.mk h1; have HC5 := Ad.mk hc; have HZN5 := Ad.mk hz; clear hw hnd hb hk hs hr h1 hn hc hz)))
        · exact ⟨rfl, .inl ⟨⟨x, rfl, W4.out.c.trans hc⟩, HNZ.out⟩⟩
        · go_wp2_with (go_at_call 97; refine (want_calls g q5 2 ⟨#[101, 108, 115, 101]⟩ _ W5.out.b W5.out.k (by decide)).mono ?_; rintro e6 w6 (⟨x, rfl, hc⟩ | ⟨q6, rfl, hb, hk, hh, hs, hr, hc⟩) <;> (try (have W6 := Ad.mk (W5.out.want hb hk hs hr hc); have HC6 := Ad.mk hc; clear hb hk hh hs hr hc)))
          · exact ⟨rfl, .inl ⟨⟨x, rfl, W5.out.c.trans hc⟩, HNZ.out⟩⟩
          · go_wp2_with (go_at_call 78; refine (HEX.out _ (by have := W6.out.r; omega) g _ _ W6.out.b W6.out.k (Nat.le_refl _)).mono ?_; rintro e7 w7 (⟨⟨x, rfl, hc⟩, hn⟩ | ⟨v3, q7, n3, rfl, hb, hk, hs, hr, h1, hn, hc, hz⟩) <;> (try (obtain ⟨hw, hnd⟩ := W6.out.node hb hk hs hr hc hn; obtain ⟨T7, b7, rfl⟩ := hnd.form; have W7 := Ad.mk hw; have ND3 := Ad.mk hnd; have H13 := Ad.mk h1; have HC7 := Ad.mk hc; have HZN7 := Ad.mk hz; clear hw hnd hb hk hs hr h1 hn hc hz)))
            · exact ⟨rfl, .inl ⟨⟨x, rfl, W6.out.c.trans hc⟩, HNZ.out⟩⟩
            · go_ret
              have hc7 := HC7.out.alloc (.cells #[.iface T3 (.pointer (some ⟨b3, 0, none⟩)), .iface T5 (.pointer (some ⟨b5, 0, none⟩)), .iface T7 (.pointer (some ⟨b7, 0, none⟩))] 213)
              have hB := below_alloc (Below.refl _ w7) (.cells #[.iface T3 (.pointer (some ⟨b3, 0, none⟩)), .iface T5 (.pointer (some ⟨b5, 0, none⟩)), .iface T7 (.pointer (some ⟨b7, 0, none⟩))] 213)
              have W8 := W7.out.below hB
              exact .inr ⟨_, q7, _, rfl, W8.b, W8.k, W8.s, by have := W8.r; omega, by omega, .cond w7.heap.size _ _ _ n1 n2 n3 W7.out.c.size (blk_new _ _) (ND1.out.on hl (((HC4.out.trans HC5.out).trans HC6.out).trans hc7)) (ND2.out.on hl (HC6.out.trans hc7)) (ND3.out.on hl (Chg.of_below hB)), W8.c, fun h => absurd h HNZ.out⟩
end Go.Proofs.YtahnelihohmjfaaGreatDoor.V
namespace Go.Proofs.YtahnelihohmjfaaGreatDoor.V
open Go.RowKit
set_option linter.unusedVariables false
set_option linter.unusedSimpArgs false
set_option maxHeartbeats 8000000 in
set_option maxRecDepth 100000 in
theorem not_of (N : Nat) (hot : NodeF 144 N) (hse : ∀ M, M < N → NodeF 132 M) : NodeF 132 N := by
  intro g p w hb hk hN
  have hl := blk_lt hb.blk
  have W0 := Ad.mk (Way.start hb hk)
  have HOT := Ad.mk hot
  have HSE := Ad.mk hse
  clear hb hk hot hse
  go_enter Tryz.func132, Tryz.ntmps132
  go_wp2_with (go_at_call 94; refine (is_calls g p 2 ⟨#[110, 111, 116]⟩ _ W0.out.b W0.out.k).mono ?_; rintro e1 w1 (⟨⟨x, rfl, hc⟩, hz⟩ | ⟨q1, rfl, hpb, hqk, hqh, hqs, hqr, hc, hz0, hz1⟩) <;> (try (generalize hbb : (q1.tk == 2 && q1.tt.toList == (⟨#[110, 111, 116]⟩ : ByteArray).toList) = bb1; have HBB1 := Ad.mk hbb; have W1 := Ad.mk (W0.out.peek hpb hqk hqs hqr hc); have HQ1 := Ad.mk hqh; have HZ1 := Ad.mk hz0; have HZZ1 := Ad.mk hz1; clear hpb hqk hc hqh hqs hqr hz0 hz1 hbb)))
  · exact ⟨rfl, .inl ⟨⟨x, rfl, hc⟩, hz.1⟩⟩
  · go_wp2_with (go_at_call 144; refine (HOT.out  g q1 _ W1.out.b W1.out.k (by have := W1.out.r; omega)).mono ?_; rintro e2 w2 (⟨⟨x, rfl, hc⟩, hn⟩ | ⟨v1, q2, n1, rfl, hb, hk, hs, hr, h1, hn, hc, hz⟩) <;> (try (obtain ⟨hw, hnd⟩ := W1.out.node hb hk hs hr hc hn; obtain ⟨T2, b2, rfl⟩ := hnd.form; have W2 := Ad.mk hw; have ND1 := Ad.mk hnd; have H11 := Ad.mk h1; have HC2 := Ad.mk hc; have HZN2 := Ad.mk hz; clear hw hnd hb hk hs hr h1 hn hc hz)))
    · exact ⟨rfl, .inl ⟨⟨x, rfl, W1.out.c.trans hc⟩, fun h => hn (HZ1.out h)⟩⟩
    · go_ret
      exact .inr ⟨_, q2, n1, rfl, W2.out.b, W2.out.k, W2.out.s, by have := W2.out.r; omega, H11.out, ND1.out, W2.out.c, fun h => HZN2.out (HZ1.out h)⟩
  · have hbt : bb1 = true := by simpa using ‹(!bb1) = false›
    subst hbt
    have h2 := HBB1.out
    simp only [Bool.and_eq_true] at h2
    have htk : q1.tk = 2 := by simpa using h2.1
    have htk0 : q1.tk ≠ 0 := by omega
    have HNZ : Ad (¬ Z0 p) := ⟨fun h => by
      rcases (HZ1.out h).2 with h3 | h3
      · rw [HQ1.out] at h3; cases h3.1
      · omega⟩
    clear h2 htk
    go_wp2_with (go_at_call 96; refine (next_have g q1 _ W1.out.b HQ1.out).mono ?_; rintro e2 w2 ⟨rfl, hb, hc⟩; have W2 := Ad.mk (W1.out.next HQ1.out htk0 hb hc); clear hb hc; unfold PS.tok)
    go_wp2_with (go_at_call 132; refine (HSE.out _ (by have := W2.out.r; omega) g _ _ W2.out.b W2.out.k (Nat.le_refl _)).mono ?_; rintro e3 w3 (⟨⟨x, rfl, hc⟩, hn⟩ | ⟨v1, q3, n1, rfl, hb, hk, hs, hr, h1, hn, hc, hz⟩) <;> (try (obtain ⟨hw, hnd⟩ := W2.out.node hb hk hs hr hc hn; obtain ⟨T3, b3, rfl⟩ := hnd.form; have W3 := Ad.mk hw; have ND1 := Ad.mk hnd; have H11 := Ad.mk h1; have HC3 := Ad.mk hc; have HZN3 := Ad.mk hz; clear hw hnd hb hk hs hr h1 hn hc hz)))
    · exact ⟨rfl, .inl ⟨⟨x, rfl, W2.out.c.trans hc⟩, HNZ.out⟩⟩
    · go_ret
      have hB := below_alloc (Below.refl _ w3) (.cells #[.string ⟨#[110, 111, 116]⟩, .iface T3 (.pointer (some ⟨b3, 0, none⟩))] 207)
      have W8 := W3.out.below hB
      exact .inr ⟨_, q3, _, rfl, W8.b, W8.k, W8.s, by have := W8.r; omega, by omega, .unary w3.heap.size _ _ n1 W3.out.c.size (blk_new _ _) (by decide) (ND1.out.on hl (Chg.of_below hB)), W8.c, fun h => absurd h HNZ.out⟩
set_option maxHeartbeats 8000000 in
set_option maxRecDepth 100000 in
theorem neg_of (N : Nat) (hot : NodeF 203 N) (hse : ∀ M, M < N → NodeF 194 M) : NodeF 194 N := by
  intro g p w hb hk hN
  have hl := blk_lt hb.blk
  have W0 := Ad.mk (Way.start hb hk)
  have HOT := Ad.mk hot
  have HSE := Ad.mk hse
  clear hb hk hot hse
  go_enter Tryz.func194, Tryz.ntmps194
  go_wp2_with (go_at_call 94; refine (is_calls g p 4 ⟨#[45]⟩ _ W0.out.b W0.out.k).mono ?_; rintro e1 w1 (⟨⟨x, rfl, hc⟩, hz⟩ | ⟨q1, rfl, hpb, hqk, hqh, hqs, hqr, hc, hz0, hz1⟩) <;> (try (generalize hbb : (q1.tk == 4 && q1.tt.toList == (⟨#[45]⟩ : ByteArray).toList) = bb1; have HBB1 := Ad.mk hbb; have W1 := Ad.mk (W0.out.peek hpb hqk hqs hqr hc); have HQ1 := Ad.mk hqh; have HZ1 := Ad.mk hz0; have HZZ1 := Ad.mk hz1; clear hpb hqk hc hqh hqs hqr hz0 hz1 hbb)))
  · exact ⟨rfl, .inl ⟨⟨x, rfl, hc⟩, hz.1⟩⟩
  · go_wp2_with (go_at_call 203; refine (HOT.out  g q1 _ W1.out.b W1.out.k (by have := W1.out.r; omega)).mono ?_; rintro e2 w2 (⟨⟨x, rfl, hc⟩, hn⟩ | ⟨v1, q2, n1, rfl, hb, hk, hs, hr, h1, hn, hc, hz⟩) <;> (try (obtain ⟨hw, hnd⟩ := W1.out.node hb hk hs hr hc hn; obtain ⟨T2, b2, rfl⟩ := hnd.form; have W2 := Ad.mk hw; have ND1 := Ad.mk hnd; have H11 := Ad.mk h1; have HC2 := Ad.mk hc; have HZN2 := Ad.mk hz; clear hw hnd hb hk hs hr h1 hn hc hz)))
    · exact ⟨rfl, .inl ⟨⟨x, rfl, W1.out.c.trans hc⟩, fun h => hn (HZ1.out h)⟩⟩
    · go_ret
      exact .inr ⟨_, q2, n1, rfl, W2.out.b, W2.out.k, W2.out.s, by have := W2.out.r; omega, H11.out, ND1.out, W2.out.c, fun h => HZN2.out (HZ1.out h)⟩
  · have hbt : bb1 = true := by simpa using ‹(!bb1) = false›
    subst hbt
    have h2 := HBB1.out
    simp only [Bool.and_eq_true] at h2
    have htk : q1.tk = 4 := by simpa using h2.1
    have htk0 : q1.tk ≠ 0 := by omega
    have HNZ : Ad (¬ Z0 p) := ⟨fun h => by
      rcases (HZ1.out h).2 with h3 | h3
      · rw [HQ1.out] at h3; cases h3.1
      · omega⟩
    clear h2 htk
    go_wp2_with (go_at_call 96; refine (next_have g q1 _ W1.out.b HQ1.out).mono ?_; rintro e2 w2 ⟨rfl, hb, hc⟩; have W2 := Ad.mk (W1.out.next HQ1.out htk0 hb hc); clear hb hc; unfold PS.tok)
    go_wp2_with (go_at_call 194; refine (HSE.out _ (by have := W2.out.r; omega) g _ _ W2.out.b W2.out.k (Nat.le_refl _)).mono ?_; rintro e3 w3 (⟨⟨x, rfl, hc⟩, hn⟩ | ⟨v1, q3, n1, rfl, hb, hk, hs, hr, h1, hn, hc, hz⟩) <;> (try (obtain ⟨hw, hnd⟩ := W2.out.node hb hk hs hr hc hn; obtain ⟨T3, b3, rfl⟩ := hnd.form; have W3 := Ad.mk hw; have ND1 := Ad.mk hnd; have H11 := Ad.mk h1; have HC3 := Ad.mk hc; have HZN3 := Ad.mk hz; clear hw hnd hb hk hs hr h1 hn hc hz)))
    · exact ⟨rfl, .inl ⟨⟨x, rfl, W2.out.c.trans hc⟩, HNZ.out⟩⟩
    · go_ret
      have hB := below_alloc (Below.refl _ w3) (.cells #[.string ⟨#[45]⟩, .iface T3 (.pointer (some ⟨b3, 0, none⟩))] 207)
      have W8 := W3.out.below hB
      exact .inr ⟨_, q3, _, rfl, W8.b, W8.k, W8.s, by have := W8.r; omega, by omega, .unary w3.heap.size _ _ n1 W3.out.c.size (blk_new _ _) (by decide) (ND1.out.on hl (Chg.of_below hB)), W8.c, fun h => absurd h HNZ.out⟩
end Go.Proofs.YtahnelihohmjfaaGreatDoor.V
