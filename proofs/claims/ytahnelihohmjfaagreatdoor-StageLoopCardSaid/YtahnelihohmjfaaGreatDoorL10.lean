/- A part of the walk (V34, V40, V41, V42, V43, V35a, V35, V36, V37). -/
import Derived.Test.YtahnelihohmjfaaGreatDoorL1
import Derived.Test.YtahnelihohmjfaaGreatDoorL9
import Derived.Lib.ItoaLen
import Derived.Deep.DeepMust
namespace Go.Proofs.YtahnelihohmjfaaGreatDoor.V
open Go.RowKit
set_option linter.unusedVariables false
set_option linter.unusedSimpArgs false
theorem itoaS_len {n : Int} (h : I64 n) : (itoaS n).size ≤ 21 := by
  have := Lib.itoa_length_le n h.1 h.2
  show (Lib.itoa n).toArray.size ≤ 21
  simpa using this
def textV (vs : List Val) : Val := bif (vs.getD 0 Val.none).k == 2 then vs.getD 0 Val.none else bif (vs.getD 0 Val.none).k == 1 then Val.text (itoaS (vs.getD 0 Val.none).n) else Val.none
set_option maxHeartbeats 8000000 in
set_option maxRecDepth 100000 in
theorem doText_ok : DoG 159 1 textV := ⟨fun w A c vs Q hg hn hl hQ hv => by
  obtain ⟨ad, B0, d0, rfl, g00, g01, g02, g03, ha0⟩ := arg0 hl (by omega) box0
  unfold box0 at g00 g01 g02 g03
  obtain ⟨R, hR⟩ : ∃ R, textV vs = R := ⟨_, rfl⟩
  rw [hR]
  unfold textV at hR
  have hm0 : vs.getD 0 Val.none ∈ vs := by rw [List.getD_eq_getElem?_getD, List.getElem?_eq_getElem (by omega)]; exact List.getElem_mem _
  have hv0 := hv _ hm0
  obtain ⟨x0, hx0⟩ : ∃ x, vs.getD 0 Val.none = x := ⟨_, rfl⟩
  rw [hx0] at hR g00 g01 g02 g03 ha0 hv0
  have hfit : fitV x0 = x0 := by unfold fitV; rw [if_pos hv0]
  have HF := Ad.mk hfit
  have HA0 := Ad.mk ha0
  have HR := Ad.mk hR
  have HQ := Ad.mk hQ
  have HG := Ad.mk hg
  rw [hn]
  have hbw := blk_new w (.cells #[.int .i64 0, .int .i64 0, .string ⟨#[]⟩, .slice none 0 0] 42)
  have HBW := Ad.mk hbw
  clear hR hl hQ hv hn hm0 hx0 ha0 hv0 hg hfit hbw
  by_cases hk2 : (x0.k == 2) = true
  · go_enter Tryz.func159, Tryz.ntmps159
    go_wp2_with fail
    have e : R = x0 := by rw [← HR.out, hk2]; rfl
    rw [e]
    exact RetV.fin0 HA0.out rfl rfl rfl rfl (Below.refl _ _) (fun _ _ h => .inl h)
  · have hk2' : (x0.k == 2) = false := by simpa using hk2
    by_cases hk1 : (x0.k == 1) = true
    · have HK1 := Ad.mk hk1
      go_enter Tryz.func159, Tryz.ntmps159
      go_wp2_with (first
        | (go_at_call 87; refine (print_int d0 B0 x0 Q _ (HA0.out.below (below_alloc (Below.refl _ _) _)) (by intro b hb; have := HQ.out b hb; simp; omega) (by rw [HF.out]; exact HK1.out) (by rw [HF.out]; exact HA0.out.n) (HG.out.below (below_alloc (Below.refl _ _) _)) (by rw [HF.out]; have := itoaS_len HA0.out.n; omega)).mono ?_; rw [HF.out]; rintro e1 w1 ⟨rfl, hb1⟩; obtain ⟨k1, z1, y1, HB1⟩ := kcell (w.heap.size + 1) hb1 (by simp); clear hb1)
        | (go_at_call 88; refine (ofText_calls (fun _ => False) _ _ (by have := itoaS_len HA0.out.n; omega)).mono ?_; rintro e3 w3 ⟨A3, c3, rfl, ha3, hb3⟩; obtain ⟨k3, z3, y3, HB3⟩ := kcell (w.heap.size + 1) hb3 y1; have HA3 := Ad.mk ha3; clear ha3 hb3))
      have e : R = Val.text (itoaS x0.n) := by rw [← HR.out, hk2', HK1.out]; rfl
      rw [e]
      exact RetV.fin HA3.out rfl rfl rfl (blk_below (blk_below HBW.out HB1.out) HB3.out) rfl (below_then (below_then (below_alloc (Below.refl _ _) _) HB1.out) HB3.out) (Nat.le_refl _) (fun x _ hq => by rcases hq with hq | hq; exact hq.elim; exact ⟨.inr (by omega), by omega⟩)
    · have hk1' : (x0.k == 1) = false := by simpa using hk1
      go_enter Tryz.func159, Tryz.ntmps159
      go_wp2_with fail
      have e : R = Val.none := by rw [← HR.out, hk2', hk1']; rfl
      rw [e]
      exact RetV.fin0 (VA.none (fun _ => False) w Option.none 0) rfl rfl rfl rfl (Below.refl _ _) (fun _ _ h => h.elim)⟩
end Go.Proofs.YtahnelihohmjfaaGreatDoor.V
namespace Go.Proofs.YtahnelihohmjfaaGreatDoor.V
open Go.RowKit
set_option linter.unusedVariables false
set_option linter.unusedSimpArgs false
/-! ### trees of expressions in memory -/
/-- a list of one-cell words: its row lies in a block of Q -/
structure IfL (Q : Nat → Prop) (w : World) (A : Option Addr) (c : Nat) (l : List Value) : Prop where
  c : l.length ≤ c
  m : l.length ≤ 6
  h : 0 < l.length → ∃ g, A = some ⟨g, 0, none⟩ ∧ Q g ∧ g < w.heap.size ∧ ∀ i, i < l.length → w.cell? ⟨g, i, none⟩ = some (l.getD i undef)
theorem IfL.chg {Q Q' : Nat → Prop} {w w' : World} {S : Nat → Prop} {A : Option Addr} {c : Nat} {l : List Value} (hc : Chg w w' S) (hS : ∀ b, b < w.heap.size → Q b → ¬ S b) (hQ : ∀ b, b < w.heap.size → Q b → Q' b) (h : IfL Q w A c l) : IfL Q' w' A c l :=
  ⟨h.c, h.m, fun hp => let ⟨g, e, hq, hl, hcell⟩ := h.h hp; ⟨g, e, hQ g hl hq, Nat.lt_of_lt_of_le hl hc.size, fun i hi => ((ccell hc).1 g i hl (hS g hl hq)).trans (hcell i hi)⟩⟩
/-- v is a node: a tree of n nodes, its blocks are of Q -/
inductive NodeAt (Q : Nat → Prop) (w : World) : Nat → Value → Prop
  | number (b : Nat) (n : Int) (hq : Q b) (hb : w.heap[b]? = some (.cells #[.int .i64 n] 195 (0, 0))) (hn : I64 n) : NodeAt Q w 1 (.iface 192 (.pointer (some ⟨b, 0, none⟩)))
  | quote (b : Nat) (s : ByteArray) (hq : Q b) (hb : w.heap[b]? = some (.cells #[.string s] 201 (0, 0))) (hs : s.size ≤ 24) : NodeAt Q w 1 (.iface 196 (.pointer (some ⟨b, 0, none⟩)))
  | word (b : Nat) (s : ByteArray) (hq : Q b) (hb : w.heap[b]? = some (.cells #[.string s] 204 (0, 0))) (hs : s.size ≤ 24) : NodeAt Q w 1 (.iface 202 (.pointer (some ⟨b, 0, none⟩)))
  | unary (b : Nat) (op : ByteArray) (a : Value) (n : Nat) (hq : Q b) (hb : w.heap[b]? = some (.cells #[.string op, a] 207 (0, 0))) (hs : op.size ≤ 24) (ha : NodeAt Q w n a) : NodeAt Q w (n + 1) (.iface 205 (.pointer (some ⟨b, 0, none⟩)))
  | binary (b : Nat) (op : ByteArray) (a1 a2 : Value) (n1 n2 : Nat) (hq : Q b) (hb : w.heap[b]? = some (.cells #[.string op, a1, a2] 210 (0, 0))) (hs : op.size ≤ 24) (h1 : NodeAt Q w n1 a1) (h2 : NodeAt Q w n2 a2) : NodeAt Q w (n1 + n2 + 1) (.iface 208 (.pointer (some ⟨b, 0, none⟩)))
  | cond (b : Nat) (a1 a2 a3 : Value) (n1 n2 n3 : Nat) (hq : Q b) (hb : w.heap[b]? = some (.cells #[a1, a2, a3] 213 (0, 0))) (h1 : NodeAt Q w n1 a1) (h2 : NodeAt Q w n2 a2) (h3 : NodeAt Q w n3 a3) : NodeAt Q w (n1 + n2 + n3 + 1) (.iface 211 (.pointer (some ⟨b, 0, none⟩)))
  | list (b : Nat) (A : Option Addr) (c : Nat) (l : List Value) (ns : List Nat) (hq : Q b) (hb : w.heap[b]? = some (.cells #[.slice A l.length c] 218 (0, 0))) (hl : IfL Q w A c l) (hn : ns.length = l.length) (hi : ∀ i, i < l.length → NodeAt Q w (ns.getD i 0) (l.getD i undef)) : NodeAt Q w (ns.sum + 1) (.iface 214 (.pointer (some ⟨b, 0, none⟩)))
  | call (b : Nat) (s : ByteArray) (k : Nat) (D : List Val → Val) (A : Option Addr) (c : Nat) (l : List Value) (ns : List Nat) (hq : Q b) (hb : w.heap[b]? = some (.cells #[.string s, .int .i64 l.length, .func (.func k) #[] #[], .slice A l.length c] 224 (0, 0))) (hs : s.size ≤ 24) (hk : ∀ args w, (callFunc k args).run Tryz.prog w = .ok (.enter k args) w) (hd : DoG k l.length D) (hl : IfL Q w A c l) (hn : ns.length = l.length) (hi : ∀ i, i < l.length → NodeAt Q w (ns.getD i 0) (l.getD i undef)) : NodeAt Q w (ns.sum + 1) (.iface 219 (.pointer (some ⟨b, 0, none⟩)))
theorem NodeAt.chg {Q Q' : Nat → Prop} {w w' : World} {S : Nat → Prop} (hc : Chg w w' S) (hS : ∀ b, b < w.heap.size → Q b → ¬ S b) (hQ : ∀ b, b < w.heap.size → Q b → Q' b) {n : Nat} {v : Value} (h : NodeAt Q w n v) : NodeAt Q' w' n v := by
  have hb : ∀ {b : Nat} {o : Obj}, Q b → w.heap[b]? = some o → w'.heap[b]? = some o ∧ Q' b := fun hq h => ⟨(hc.block _ (blk_lt h) (hS _ (blk_lt h) hq)).trans h, hQ _ (blk_lt h) hq⟩
  induction h with
  | number b n hq h hn => exact .number b n (hb hq h).2 (hb hq h).1 hn
  | quote b s hq h hs => exact .quote b s (hb hq h).2 (hb hq h).1 hs
  | word b s hq h hs => exact .word b s (hb hq h).2 (hb hq h).1 hs
  | unary b op a n hq h hs _ i => exact .unary b op a n (hb hq h).2 (hb hq h).1 hs i
  | binary b op a1 a2 n1 n2 hq h hs _ _ i1 i2 => exact .binary b op a1 a2 n1 n2 (hb hq h).2 (hb hq h).1 hs i1 i2
  | cond b a1 a2 a3 n1 n2 n3 hq h _ _ _ i1 i2 i3 => exact .cond b a1 a2 a3 n1 n2 n3 (hb hq h).2 (hb hq h).1 i1 i2 i3
  | list b A c l ns hq h hl hn _ i => exact .list b A c l ns (hb hq h).2 (hb hq h).1 (hl.chg hc hS hQ) hn i
  | call b s k D A c l ns hq h hs hk hd hl hn _ i => exact .call b s k D A c l ns (hb hq h).2 (hb hq h).1 hs hk hd (hl.chg hc hS hQ) hn i
theorem NodeAt.later {Q : Nat → Prop} {w w' : World} {n : Nat} {v : Value} (h : NodeAt Q w n v) (hb : Below w.heap.size w w') : NodeAt Q w' n v := h.chg (Chg.of_below (S := fun _ => False) hb) (fun _ _ _ h => h) (fun _ _ h => h)
end Go.Proofs.YtahnelihohmjfaaGreatDoor.V
namespace Go.Proofs.YtahnelihohmjfaaGreatDoor.V
open Go.RowKit
set_option linter.unusedVariables false
set_option linter.unusedSimpArgs false
/-! ### the parser in memory -/
structure PS where
  s : ByteArray
  pos : Nat
  tk : Int
  ta : Nat
  tt : ByteArray
  tn : Int
  hv : Bool
  op : Int
/-- the package variables, as they stay whatever the blocks from g on become -/
def GVb (w : World) (g : Nat) : Prop := ∃ w0, GOK w0 ∧ Below w0.heap.size w0 w ∧ w0.heap.size ≤ g
theorem GVb.gv {w : World} {g : Nat} (h : GVb w g) : GV w := let ⟨w0, h0, h1, _⟩ := h; ⟨w0, h0, h1⟩
theorem GVb.chg {w w' : World} {g : Nat} (h : GVb w g) (hc : Chg w w' (· = g)) : GVb w' g := by
  obtain ⟨w0, h0, h1, h2⟩ := h
  exact ⟨w0, h0, below_chg h1 hc (fun q hq => by omega), h2⟩
theorem GVb.chgS {w w' : World} {g : Nat} {S : Nat → Prop} (h : GVb w g) (hc : Chg w w' S) (hS : ∀ q, S q → g ≤ q) : GVb w' g := by
  obtain ⟨w0, h0, h1, h2⟩ := h
  exact ⟨w0, h0, below_chg h1 hc (fun q hq => Nat.le_trans h2 (hS q hq)), h2⟩
structure PB (w : World) (g : Nat) (p : PS) : Prop where
  blk : w.heap[g]? = some (.cells #[.string p.s, .int .i64 p.pos, .int .i64 p.tk, .int .i64 p.ta, .string p.tt, .int .i64 p.tn, .bool p.hv, .int .i64 p.op] 179 (0, 0))
  gv : GVb w g
structure POK (p : PS) : Prop where
  sz : p.s.size ≤ 100
  pos : p.pos ≤ p.s.size
  tk0 : 0 ≤ p.tk ∧ p.tk ≤ 4
  ta : p.ta ≤ 100
  tt : p.tt.size ≤ 100
  quo : p.tk = 3 → p.tt.size ≤ 24
  tn : I64 p.tn
  one : p.hv = true → p.tk ≠ 0 → 1 ≤ p.pos
def PS.rem (p : PS) : Nat := p.s.size - p.pos + (if p.hv = true ∧ p.tk ≠ 0 then 1 else 0)
/-- the text is "0", its number still to come -/
def Z0 (p : PS) : Prop := p.s = ⟨#[48]⟩ ∧ ((p.hv = false ∧ p.pos = 0) ∨ (p.hv = true ∧ p.pos = 1 ∧ p.tk = 1))
/-- the text is "0", and read -/
def Z1 (p : PS) : Prop := p.s = ⟨#[48]⟩ ∧ p.pos = 1 ∧ (p.hv = false ∨ p.tk = 0)
/-- given up -/
def Gave (w : World) (S : Nat → Prop) (e : Ending) (w' : World) : Prop := ∃ g, e = .panicked [{ v := .iface 173 (.pointer (some ⟨g, 0, none⟩)), recovered := false }] ∧ Chg w w' S
def PS.tok (p : PS) : Value := .agg #[.int .i64 p.tk, .int .i64 p.ta, .string p.tt, .int .i64 p.tn]
/-- how a reading function leaves: given up (then nz holds), or with a value and the parser's new state -/
def PR (w : World) (g : Nat) (p : PS) (nz : Prop) (post : Value → PS → World → Prop) (e : Ending) (w' : World) : Prop :=
  (Gave w (· = g) e w' ∧ nz) ∨ ∃ v q, e = .returned v ∧ PB w' g q ∧ POK q ∧ q.s = p.s ∧ q.rem ≤ p.rem ∧ Chg w w' (· = g) ∧ post v q w'
set_option maxHeartbeats 4000000 in
theorem giveUp_calls (n : Int) (a : Nat) (w : World) : Calls Tryz.prog 77 #[.int .i64 n, .int .i64 a] w (Gave w (fun _ => False)) := by
  go_enter Tryz.func77, Tryz.ntmps77
  go_wp2_with fail
  exact ⟨rfl, _, rfl, Chg.of_below (below_alloc (Below.refl _ _) _)⟩
/-- a token's four cells -/
theorem PB.cells {w : World} {g : Nat} {p : PS} (h : PB w g p) : w.cell? ⟨g, 0, none⟩ = some (.string p.s) ∧ w.cell? ⟨g, 1, none⟩ = some (.int .i64 p.pos) ∧ w.cell? ⟨g, 2, none⟩ = some (.int .i64 p.tk) ∧ w.cell? ⟨g, 3, none⟩ = some (.int .i64 p.ta) ∧ w.cell? ⟨g, 4, none⟩ = some (.string p.tt) ∧ w.cell? ⟨g, 5, none⟩ = some (.int .i64 p.tn) ∧ w.cell? ⟨g, 6, none⟩ = some (.bool p.hv) ∧ w.cell? ⟨g, 7, none⟩ = some (.int .i64 p.op) ∧ ∀ j, w.frozen? ⟨g, j, none⟩ = false := ⟨blk_cell h.blk 0, blk_cell h.blk 1, blk_cell h.blk 2, blk_cell h.blk 3, blk_cell h.blk 4, blk_cell h.blk 5, blk_cell h.blk 6, blk_cell h.blk 7, blk_frozen h.blk⟩
theorem PB.below {w w' : World} {g : Nat} {p : PS} (h : PB w g p) (hb : Below w.heap.size w w') : PB w' g p := ⟨blk_below h.blk hb, by obtain ⟨w0, h0, h1, h2⟩ := h.gv; exact ⟨w0, h0, below_then h1 hb, h2⟩⟩
theorem put4 {w : World} {b : Nat} {T : TypeId} {cs : Array Value} (h : w.heap[b]? = some (.cells cs T (0, 0))) (h4 : cs.size = 4) (v0 v1 v2 v3 : Value) :
    ((((w.setCell ⟨b, 0, none⟩ v0).setCell ⟨b, 1, none⟩ v1).setCell ⟨b, 2, none⟩ v2).setCell ⟨b, 3, none⟩ v3).heap[b]? = some (.cells #[v0, v1, v2, v3] T (0, 0)) := by
  obtain ⟨cs⟩ := cs
  obtain ⟨c0, c1, c2, c3, rfl⟩ : ∃ c0 c1 c2 c3, cs = [c0, c1, c2, c3] := by
    match cs, h4 with
    | [c0, c1, c2, c3], _ => exact ⟨c0, c1, c2, c3, rfl⟩
  exact blk_put (blk_put (blk_put (blk_put h 0 _ rfl) 1 _ rfl) 2 _ rfl) 3 _ rfl
theorem chg4 {w W : World} {S : Nat → Prop} (h : Chg w W S) {b : Nat} (hb : S b) (v0 v1 v2 v3 : Value) : Chg w ((((W.setCell ⟨b, 0, none⟩ v0).setCell ⟨b, 1, none⟩ v1).setCell ⟨b, 2, none⟩ v2).setCell ⟨b, 3, none⟩ v3) S := (((h.set hb 0 v0).set hb 1 v1).set hb 2 v2).set hb 3 v3
/-- a token's result, stored as a struct of four cells -/
theorem tok_fin {W : World} {b t : Nat} {k a n : Int} {s : ByteArray} {fn : Func} {A : Act} {R : Ending → World → Prop} (hfn : fn.results = #[.cell t 177]) (ha : A.tmps.getD t undef = .pointer (some ⟨b, 0, Option.none⟩)) (hd : A.defers = [])
    (h0 : W.heap[b]? = some (.cells #[.int .i64 k, .int .i64 a, .string s, .int .i64 n] 177 (0, 0))) (hR : R (.returned (.agg #[.int .i64 k, .int .i64 a, .string s, .int .i64 n])) W) :
    bodyPost Tryz.prog fn R .ret A W := by
  have g0 := blk_cell h0 0
  have g1 := blk_cell h0 1
  have g2 := blk_cell h0 2
  have g3 := blk_cell h0 3
  simp at g0 g1 g2 g3
  refine ⟨hd, .agg #[.int .i64 k, .int .i64 a, .string s, .int .i64 n], ?_, hR⟩
  rw [Array.getD_eq_getD_getElem?] at ha
  simp [results, hfn, ha, go_sem, g0, g1, g2, g3]
set_option maxHeartbeats 4000000 in
theorem peek_have (g : Nat) (p : PS) (w : World) (hb : PB w g p) (hv : p.hv = true) : Calls Tryz.prog 79 #[.pointer (some ⟨g, 0, none⟩)] w (Ret w p.tok) := by
  have hl := blk_lt hb.blk
  obtain ⟨c0, c1, c2, c3, c4, c5, c6, c7, cf⟩ := (hb.below (below_alloc (Below.refl _ w) (.cells #[.int .i64 0, .int .i64 0, .string ⟨#[]⟩, .int .i64 0] 177))).cells
  rw [hv] at c6
  clear hb
  go_enter Tryz.func79, Tryz.ntmps79
  go_wp2_with fail
  exact tok_fin (b := w.heap.size) rfl rfl rfl (blk_new _ _) ⟨rfl, below_alloc (Below.refl _ _) _⟩
set_option maxHeartbeats 4000000 in
theorem next_have (g : Nat) (p : PS) (w : World) (hb : PB w g p) (hv : p.hv = true) : Calls Tryz.prog 96 #[.pointer (some ⟨g, 0, none⟩)] w (fun e w' => e = .returned p.tok ∧ PB w' g { p with hv := false } ∧ Chg w w' (· = g)) := by
  have HB := Ad.mk hb
  have hl := blk_lt hb.blk
  have hne : ¬ g = w.heap.size := by omega
  have hne' : ¬ w.heap.size = g := by omega
  obtain ⟨c0, c1, c2, c3, c4, c5, c6, c7, cf⟩ := hb.cells
  clear hb
  go_enter Tryz.func96, Tryz.ntmps96
  go_wp2_with (go_at_call 79; refine (peek_have g p _ (HB.out.below (below_alloc (Below.refl _ _) _)) hv).mono ?_; rintro e1 w1 ⟨rfl, hb1⟩; obtain ⟨k1, z1, y1, HB1⟩ := kcell (w.heap.size + 1) hb1 (by simp); clear hb1; have s1 : w.heap.size < w1.heap.size := (by omega); have s2 : g < w1.heap.size := (by omega); have s3 : ¬ g = w1.heap.size := (by omega); have s4 : ¬ w1.heap.size = g := (by omega); have s5 : ¬ w.heap.size = w1.heap.size := (by omega); have s6 : ¬ w1.heap.size = w.heap.size := (by omega); unfold PS.tok)
  have hbx := blk_below (blk_new w (.cells #[.int .i64 0, .int .i64 0, .string ⟨#[]⟩, .int .i64 0] 177)) HB1.out
  have hgb := (HB.out.below (below_then (below_alloc (Below.refl _ _) _) HB1.out)).blk
  have hc1 := (Chg.refl w1 (· = g)).set rfl 6 (.bool false)
  have hb2 := (hc1.block w.heap.size s1 (by omega)).trans hbx
  have hg2 := blk_put hgb 6 (.bool false) rfl
  have hc2 := chg4 (Chg.refl (w1.setCell ⟨g, 6, none⟩ (.bool false)) (· = w.heap.size)) rfl (.int .i64 p.tk) (.int .i64 p.ta) (.string p.tt) (.int .i64 p.tn)
  have hg3 := (hc2.block g (blk_lt hg2) hne).trans hg2
  have hc3 : Chg w _ (· = g) := (Chg.of_below (S := (· = g)) (below_then (below_alloc (Below.refl _ w) _) HB1.out)).trans hc1
  have hc4 := (hc3.then_ hc2 (fun q hq h => by omega)).alloc (.cells #[.int .i64 p.tk, .int .i64 p.ta, .string p.tt, .int .i64 p.tn] 177)
  exact tok_fin (b := w.heap.size) rfl rfl rfl (blk_alloc (put4 hb2 rfl _ _ _ _) _) ⟨rfl, ⟨blk_alloc hg3 _, HB.out.gv.chg hc4⟩, hc4⟩
end Go.Proofs.YtahnelihohmjfaaGreatDoor.V
namespace Go.Proofs.YtahnelihohmjfaaGreatDoor.V
open Go.RowKit
set_option linter.unusedVariables false
set_option linter.unusedSimpArgs false
/-! ### the parser's numbers -/
/-- the parser at position i, the token's number n -/
def NumW (w : World) (g tb : Nat) (p : PS) (ta : Nat) (i : Nat) (n : Int) (wr : World) : Prop :=
  PB wr g { p with pos := i } ∧ wr.heap[tb]? = some (.cells #[.int .i64 1, .int .i64 ta, .string ⟨#[]⟩, .int .i64 n] 177 (0, 0)) ∧ Chg w wr (fun q => q = g ∨ q = tb) ∧ 0 ≤ n ∧ n ≤ 9223372036854775807
theorem chg_drewN {w : World} (n : Nat) (S : Nat → Prop) : Chg w (w.drewN n) S := Chg.of_below (below_drewN n)
theorem NumW.drewN {w wr : World} {g tb : Nat} {p : PS} {ta i : Nat} {n : Int} (h : NumW w g tb p ta i n wr) (k : Nat) : NumW w g tb p ta i n (wr.drewN k) :=
  ⟨h.1.below (below_drewN k), blk_below h.2.1 (below_drewN k), h.2.2.1.trans (chg_drewN k _), h.2.2.2⟩
theorem NumW.step {w wr : World} {g tb : Nat} {p : PS} {ta i : Nat} {n : Int} (h : NumW w g tb p ta i n wr) (hgt : g < tb) (m : Int) (h0 : 0 ≤ m) (h1 : m ≤ 9223372036854775807) :
    NumW w g tb p ta (i + 1) m ((wr.setCell ⟨tb, 3, none⟩ (.int .i64 m)).setCell ⟨g, 1, none⟩ (.int .i64 (i + 1))) := by
  obtain ⟨hb, ht, hc, _⟩ := h
  have hne : ¬ g = tb := by omega
  have hc1 := (Chg.refl wr (· = tb)).set rfl 3 (.int .i64 m)
  have hg1 := (hc1.block g (blk_lt hb.blk) hne).trans hb.blk
  have ht1 := blk_put ht 3 (.int .i64 m) rfl
  have hc2 := (Chg.refl (wr.setCell ⟨tb, 3, none⟩ (.int .i64 m)) (· = g)).set rfl 1 (.int .i64 (i + 1))
  have hg2 := blk_put hg1 1 (.int .i64 (i + 1)) rfl
  have ht2 := (hc2.block tb (blk_lt ht1) (fun e => hne e.symm)).trans ht1
  have hall : Chg w ((wr.setCell ⟨tb, 3, none⟩ (.int .i64 m)).setCell ⟨g, 1, none⟩ (.int .i64 (i + 1))) (fun q => q = g ∨ q = tb) := (hc.set (.inr rfl) 3 _).set (.inl rfl) 1 _
  refine ⟨⟨hg2, ?_⟩, ht2, hall, h0, h1⟩
  exact hb.gv.chgS ((((Chg.refl wr (fun q => q = g ∨ q = tb)).set (.inr rfl) 3 (.int .i64 m)).set (.inl rfl) 1 (.int .i64 (i + 1)))) (fun q hq => by omega)
set_option maxHeartbeats 8000000 in
set_option maxRecDepth 100000 in
theorem number_read (g tb : Nat) (p : PS) (ta : Nat) (w : World) (hb : PB w g p) (hs : p.s.size ≤ 100) (hp : p.pos < p.s.size) (hd : 48 ≤ p.s[p.pos].toNat ∧ p.s[p.pos].toNat ≤ 57) (ht : w.heap[tb]? = some (.cells #[.int .i64 0, .int .i64 ta, .string ⟨#[]⟩, .int .i64 0] 177 (0, 0))) (hgt : g < tb) :
    Calls Tryz.prog 116 #[.pointer (some ⟨g, 0, none⟩), .pointer (some ⟨tb, 0, none⟩)] w (fun e w' => (Gave w (fun q => q = g ∨ q = tb) e w' ∧ ¬ (p.s = ⟨#[48]⟩ ∧ p.pos = 0)) ∨ ∃ i n, e = .returned (.tuple #[]) ∧ p.pos < i ∧ i ≤ p.s.size ∧ NumW w g tb p ta i n w') := by
  have HD := Ad.mk hd
  clear hd
  have HB := Ad.mk hb
  have HT := Ad.mk ht
  have hl := blk_lt hb.blk
  have htl := blk_lt ht
  have n1 : ¬ g = tb := by omega
  have n2 : ¬ tb = g := by omega
  obtain ⟨c0, c1, c2, c3, c4, c5, c6, c7, cf⟩ := hb.cells
  have t0 := blk_cell ht 0
  have t1 := blk_cell ht 1
  have t2 := blk_cell ht 2
  have t3 := blk_cell ht 3
  have tf := fun j => blk_frozen ht j
  have HGT := Ad.mk hgt
  clear hb ht hgt
  go_enter Tryz.func116, Tryz.ntmps116
  go_wp2_with fail
  clear c0 c1 c2 c3 c4 c5 c6 c7 cf t0 t1 t2 t3 tf
  go_loopw [4] (fun v4 wr => ∃ (i : Nat) (n : Int), p.pos ≤ i ∧ i ≤ p.s.size ∧ (i = p.pos → n = 0) ∧ Ad (NumW w g tb p ta i n wr)) (fun _ wr => p.s.size - (intOf ((wr.cell? ⟨g, 1, none⟩).getD undef)).toNat)
  case atStart =>
    have hc0 := (Chg.refl w (· = tb)).set rfl 0 (.int .i64 1)
    exact ⟨p.pos, 0, Nat.le_refl _, by omega, fun _ => rfl, ⟨⟨⟨(hc0.block g hl n1).trans HB.out.blk, HB.out.gv.chgS hc0 (fun q hq => by have h1 : q = tb := hq; have h2 := HGT.out; omega)⟩, blk_put HT.out 0 (.int .i64 1) rfl, (Chg.refl w _).set (.inr rfl) 0 _, by omega, by omega⟩⟩⟩
  case round =>
    obtain ⟨i, n, hi0, hi1, hn0, hW⟩ := hrel
    obtain ⟨hbw, htw, hcw, hn1, hn2⟩ := hW.out
    obtain ⟨c0, c1, c2, c3, c4, c5, c6, c7, cf⟩ := hbw.cells
    have t0 := blk_cell htw 0
    have t1 := blk_cell htw 1
    have t2 := blk_cell htw 2
    have t3 := blk_cell htw 3
    have tf := fun j => blk_frozen htw j
    have wl := blk_lt hbw.blk
    have wtl := blk_lt htw
    clear hbw htw hcw
    by_cases hlt : i < p.s.size
    · have j0 : (0 : Int) ≤ (i : Int) := by omega
      have j1 : (i : Int) < (p.s.size : Int) := by omega
      by_cases hd1 : (48 : Int) ≤ (p.s[i].toNat : Int)
      · have e1 := decide_eq_true hd1
        by_cases hd2 : (p.s[i].toNat : Int) ≤ 57
        · have e2 := decide_eq_true hd2
          go_wp2_with fail
          go_quiet (fail)
          go_wp2_with fail
          go_quiet (fail)
          go_wp2_with (go_at_call 77; refine (giveUp_calls _ _ _).mono ?_; rintro e' w' ⟨x, rfl, hc⟩)
          · refine ⟨rfl, .inl ⟨⟨x, rfl, (hW.out.drewN _).2.2.1.then_ hc (fun _ _ h => h.elim)⟩, ?_⟩⟩
            rintro ⟨z1, z2⟩
            have z3 : p.s.size = 1 := by rw [z1]; rfl
            have z4 := hn0 (by omega)
            omega
          · have hq : n ≤ (9223372036854775807 - (↑p.s[i].toNat - 48)) / 10 := by assumption
            have hstep := fun k => (hW.out.drewN k).step HGT.out (10 * n + (↑p.s[i].toNat - 48)) (by omega) (by omega)
            refine ⟨⟨i + 1, _, by omega, by omega, fun h => by omega, ⟨hstep _⟩⟩, ?_⟩
            rw [c1, (hstep _).1.cells.2.1]
            simp [intOf]
            omega
        · have e2 := decide_eq_false hd2
          go_wp2_with fail
          go_quiet (fail)
          go_wp2_with fail
          go_end0
          exact .inr ⟨i, n, rfl, by rcases Nat.lt_or_ge p.pos i with h | h; exact h; (have e : i = p.pos := by omega); subst e; have := HD.out; omega, hi1, hW.out.drewN _⟩
      · have e1 := decide_eq_false hd1
        go_wp2_with fail
        go_quiet (fail)
        go_wp2_with fail
        go_end0
        exact .inr ⟨i, n, rfl, by rcases Nat.lt_or_ge p.pos i with h | h; exact h; (have e : i = p.pos := by omega); subst e; have := HD.out; omega, hi1, hW.out.drewN _⟩
    · have e0 : decide ((i : Int) < (p.s.size : Int)) = false := decide_eq_false (by omega)
      go_wp2_with fail
      go_quiet (fail)
      go_wp2_with fail
      go_end0
      exact .inr ⟨i, n, rfl, by rcases Nat.lt_or_ge p.pos i with h | h; exact h; (have e : i = p.pos := by omega); subst e; have := HD.out; omega, hi1, hW.out.drewN _⟩
end Go.Proofs.YtahnelihohmjfaaGreatDoor.V
namespace Go.Proofs.YtahnelihohmjfaaGreatDoor.V
open Go.RowKit
set_option linter.unusedVariables false
set_option linter.unusedSimpArgs false
/-! ### the calls of the language -/
/-- the row of builtins -/
def biN : List (ByteArray × Int × Nat) := [(⟨#[108, 101, 110]⟩, 1, 156), (⟨#[107, 105, 110, 100]⟩, 1, 157), (⟨#[105, 110, 116]⟩, 1, 158), (⟨#[116, 101, 120, 116]⟩, 1, 159), (⟨#[115, 117, 109]⟩, 1, 160), (⟨#[115, 111, 114, 116]⟩, 1, 161), (⟨#[114, 101, 118]⟩, 1, 162), (⟨#[97, 116]⟩, 2, 163), (⟨#[116, 97, 107, 101]⟩, 2, 164), (⟨#[100, 114, 111, 112]⟩, 2, 165), (⟨#[109, 105, 110]⟩, 2, 166), (⟨#[109, 97, 120]⟩, 2, 167), (⟨#[104, 97, 115]⟩, 2, 168), (⟨#[112, 117, 116]⟩, 3, 169)]
def biC (x : ByteArray × Int × Nat) : List Value := [.string x.1, .int .i64 x.2.1, .func (.func x.2.2) #[] #[]]
set_option maxHeartbeats 8000000 in
set_option maxRecDepth 100000 in
theorem builtins_calls (w : World) : Calls Tryz.prog 145 #[] w (fun e w' => e = .returned (.slice (some ⟨w.heap.size, 0, none⟩) 14 14) ∧ w' = w.alloc (.cells (biN.flatMap biC).toArray 222 (0, 0))) := by
  go_enter Tryz.func145, Tryz.ntmps145
  go_wp2_with fail
  go_ret
  exact ⟨rfl, rfl⟩
/-- what a call of the language needs -/
structure BiOK (s : ByteArray) (n : Int) (f : Value) : Prop where
  s : s.size ≤ 24
  f : ∃ k D, f = .func (.func k) #[] #[] ∧ 0 ≤ n ∧ n ≤ 3 ∧ (∀ args w, (callFunc k args).run Tryz.prog w = .ok (.enter k args) w) ∧ DoG k n.toNat D
theorem bi_ok : ∀ x ∈ biN, BiOK x.1 x.2.1 (.func (.func x.2.2) #[] #[]) := by
  intro x hx
  simp only [biN, List.mem_cons, List.not_mem_nil, or_false] at hx
  rcases hx with rfl | rfl | rfl | rfl | rfl | rfl | rfl | rfl | rfl | rfl | rfl | rfl | rfl | rfl
  · exact ⟨by decide, _, _, rfl, by decide, by decide, enters Tryz.func156 (by kernel_rfl) (by kernel_rfl), doLen_ok.g⟩
  · exact ⟨by decide, _, _, rfl, by decide, by decide, enters Tryz.func157 (by kernel_rfl) (by kernel_rfl), doKind_ok.g⟩
  · exact ⟨by decide, _, _, rfl, by decide, by decide, enters Tryz.func158 (by kernel_rfl) (by kernel_rfl), doInt_ok.g⟩
  · exact ⟨by decide, _, _, rfl, by decide, by decide, enters Tryz.func159 (by kernel_rfl) (by kernel_rfl), doText_ok⟩
  · exact ⟨by decide, _, _, rfl, by decide, by decide, enters Tryz.func160 (by kernel_rfl) (by kernel_rfl), doSum_ok.g⟩
  · exact ⟨by decide, _, _, rfl, by decide, by decide, enters Tryz.func161 (by kernel_rfl) (by kernel_rfl), doSort_ok.g⟩
  · exact ⟨by decide, _, _, rfl, by decide, by decide, enters Tryz.func162 (by kernel_rfl) (by kernel_rfl), doRev_ok.g⟩
  · exact ⟨by decide, _, _, rfl, by decide, by decide, enters Tryz.func163 (by kernel_rfl) (by kernel_rfl), doAt_ok.g⟩
  · exact ⟨by decide, _, _, rfl, by decide, by decide, enters Tryz.func164 (by kernel_rfl) (by kernel_rfl), doTake_ok.g⟩
  · exact ⟨by decide, _, _, rfl, by decide, by decide, enters Tryz.func165 (by kernel_rfl) (by kernel_rfl), doDrop_ok.g⟩
  · exact ⟨by decide, _, _, rfl, by decide, by decide, enters Tryz.func166 (by kernel_rfl) (by kernel_rfl), doMin_ok.g⟩
  · exact ⟨by decide, _, _, rfl, by decide, by decide, enters Tryz.func167 (by kernel_rfl) (by kernel_rfl), doMax_ok.g⟩
  · exact ⟨by decide, _, _, rfl, by decide, by decide, enters Tryz.func168 (by kernel_rfl) (by kernel_rfl), doHas_ok⟩
  · exact ⟨by decide, _, _, rfl, by decide, by decide, enters Tryz.func169 (by kernel_rfl) (by kernel_rfl), doPut_ok.g⟩
theorem bi_cells (i : Nat) (h : i < 14) : (biN.flatMap biC).toArray[i * 3]? = some (.string (biN.getD i default).1) ∧ (biN.flatMap biC).toArray[i * 3 + 1]? = some (.int .i64 (biN.getD i default).2.1) ∧ (biN.flatMap biC).toArray[i * 3 + 2]? = some (.func (.func (biN.getD i default).2.2) #[] #[]) := by
  match i, h with
  | 0, _ => exact ⟨rfl, rfl, rfl⟩
  | 1, _ => exact ⟨rfl, rfl, rfl⟩
  | 2, _ => exact ⟨rfl, rfl, rfl⟩
  | 3, _ => exact ⟨rfl, rfl, rfl⟩
  | 4, _ => exact ⟨rfl, rfl, rfl⟩
  | 5, _ => exact ⟨rfl, rfl, rfl⟩
  | 6, _ => exact ⟨rfl, rfl, rfl⟩
  | 7, _ => exact ⟨rfl, rfl, rfl⟩
  | 8, _ => exact ⟨rfl, rfl, rfl⟩
  | 9, _ => exact ⟨rfl, rfl, rfl⟩
  | 10, _ => exact ⟨rfl, rfl, rfl⟩
  | 11, _ => exact ⟨rfl, rfl, rfl⟩
  | 12, _ => exact ⟨rfl, rfl, rfl⟩
  | 13, _ => exact ⟨rfl, rfl, rfl⟩
end Go.Proofs.YtahnelihohmjfaaGreatDoor.V
namespace Go.Proofs.YtahnelihohmjfaaGreatDoor.V
open Go.RowKit
set_option linter.unusedVariables false
set_option linter.unusedSimpArgs false
def worthV (op : ByteArray) (a b : Val) : Val :=
  bif op.toList == [61, 61] then Val.bool (decide (cmpV a b = 0))
  else bif op.toList == [33, 61] then Val.bool (!decide (cmpV a b = 0))
  else bif op.toList == [60] then Val.bool (decide (cmpV a b < 0))
  else bif op.toList == [60, 61] then Val.bool (decide (cmpV a b ≤ 0))
  else bif op.toList == [62] then Val.bool (decide (0 < cmpV a b))
  else bif op.toList == [62, 61] then Val.bool (decide (0 ≤ cmpV a b))
  else bif !(a.k == b.k) then Val.none
  else bif op.toList == [43] && a.k == 2 then Val.text (a.s ++ b.s)
  else bif op.toList == [43] && a.k == 3 then Val.list (a.items ++ b.items)
  else bif !(a.k == 1) then Val.none
  else bif (reckonV op a.n b.n).2 then Val.int (reckonV op a.n b.n).1 else Val.none
theorem flatV_append {l l' : List Val} {ps qs : List (Option Addr × Nat)} (h : ps.length = l.length) : flatV (l ++ l') (ps ++ qs) = flatV l ps ++ flatV l' qs := by
  induction l generalizing ps with
  | nil =>
    cases ps with
    | nil => simp [flatV]
    | cons _ _ => simp at h
  | cons v l ih =>
    cases ps with
    | nil => simp at h
    | cons q ps => simp only [List.cons_append, flatV, ih (by simpa using h), List.append_assoc]
theorem RowV.glue {Q Q4 : Nat → Prop} {base : Nat} {w w1 : World} {v : Value} {l l' : List Val} {g cap : Nat} {ps qs : List (Option Addr × Nat)} (h1 : ps.length = l.length) (h2 : qs.length = l'.length) (h3 : ∀ i, i < l.length → VA (fun b => Q b ∧ some b ≠ v.ownBlock) w (ps.getD i (none, 0)).1 (ps.getD i (none, 0)).2 (l.getD i Val.none))
    (h4 : ∀ i, i < l'.length → VA Q4 w (qs.getD i (none, 0)).1 (qs.getD i (none, 0)).2 (l'.getD i Val.none)) (hQ4 : ∀ b, b < w.heap.size → Q4 b → Q b ∧ some b ≠ v.ownBlock) (hown : w1.ownsRow base 42 4 (.slice (some ⟨g, 0, none⟩) (l.length + l'.length) cap) (l.length + l'.length) (flatV l ps ++ flatV l' qs)) (hgrow : w.grownBy w1 v.ownBlock) (hat : v.ownBlock = some g ∨ g = w.heap.size) (hm : l.length + l'.length ≤ 140737488355328) :
    RowV Q base w1 (.slice (some ⟨g, 0, none⟩) (l.length + l'.length) cap) (l ++ l') := by
  have hc : Chg w w1 (fun b => some b = v.ownBlock) := ⟨hgrow.os, hgrow.tape, hgrow.output, hgrow.size, fun i hi hn => hgrow.block i hi hn⟩
  have key : ∀ b, b < w.heap.size → some b ≠ v.ownBlock → some b ≠ (Value.slice (some ⟨g, 0, none⟩) (l.length + l'.length) cap).ownBlock := by
    intro b hb hn he
    simp only [Value.ownBlock, Option.some.injEq] at he
    subst he
    rcases hat with hat | hat
    · exact hn hat.symm
    · omega
  refine ⟨by simpa using hm, ps ++ qs, by simp [h1, h2], by rw [flatV_append h1]; simpa using hown, fun i hi => ?_⟩
  simp only [List.length_append] at hi
  by_cases hlt : i < l.length
  · have e1 : (l ++ l').getD i Val.none = l.getD i Val.none := by simp [List.getD_eq_getElem?_getD, List.getElem?_append_left hlt]
    have e2 : (ps ++ qs).getD i (none, 0) = ps.getD i (none, 0) := by simp [List.getD_eq_getElem?_getD, List.getElem?_append_left (h1 ▸ hlt)]
    rw [e1, e2]
    exact (h3 i hlt).chg hc (fun b hb hq he => hq.2 he) (fun b hb hq => ⟨hq.1, key b hb hq.2⟩)
  · have e1 : (l ++ l').getD i Val.none = l'.getD (i - l.length) Val.none := by simp [List.getD_eq_getElem?_getD, List.getElem?_append_right (show l.length ≤ i by omega)]
    have e2 : (ps ++ qs).getD i (none, 0) = qs.getD (i - l.length) (none, 0) := by simp [List.getD_eq_getElem?_getD, List.getElem?_append_right (show ps.length ≤ i by omega), h1]
    rw [e1, e2]
    exact (h4 (i - l.length) (by omega)).chg hc (fun b hb hq he => (hQ4 b hb hq).2 he) (fun b hb hq => ⟨(hQ4 b hb hq).1, key b hb (hQ4 b hb hq).2⟩)
theorem append_zero (base : Option Addr) (n c : Nat) (h : n ≤ c) (p : Option Addr) (c' : Nat) (ty : TypeId) (w : World) : (Builtin.append_ #[40, 40] ty #[.slice base n c, .slice p 0 c']).run Tryz.prog w = .ok (.slice base n c) w := by
  obtain ⟨i, hi, hz0, hz1, hz2⟩ := info_parts info42
  cases base <;> cases p <;> simp [Builtin.append_, run_underlying Tryz.underlying40, sizeOf, typeInfo, hi, Builtin.lenOf, Builtin.firstCells, loadCells, loadCellsFrom, storeCells, h]
theorem step_append_zero {ops : Array Oper} {o : Oper} {a : Act} {w : World} {K : Act → World → Prop} {Q : Exit → Act → World → Prop} {E : Prop} (hgd : o.guard = none) (s x : Operand)
    (ho : o.op = .call { callee := .builtin .append, args := #[s, x], argTypes := #[40, 40] }) (base : Option Addr) (n c : Nat) (hc : n ≤ c) (p : Option Addr) (c' : Nat) (hs : a.eval s = .slice base n c) (hx : a.eval x = .slice p 0 c') (h : K (a.put o.dst (.slice base n c)) w) :
    if Region.wanted o (yielded ops a.tmps) = true then Oper.wp Tryz.prog o a w K Q else E := by
  have hw : Region.wanted o (yielded ops a.tmps) = true := by simp [Region.wanted, hgd]
  rw [if_pos hw]
  have hr := append_zero base n c hc p c' o.type w
  unfold Oper.wp execOp
  simp only [ho, resolve, invoke, builtin, Sem.run_bind, Sem.run_pure, Result.andThen_ok, List.map_toArray, List.map_cons, List.map_nil, hs, hx, hr]
  exact h
set_option maxHeartbeats 8000000 in
set_option maxRecDepth 100000 in
theorem worth_lists (Q : Nat → Prop) (A A' : Option Addr) (c c' : Nat) (a b : Val) (w : World) (ha : VA Q w A c a) (hb : VA Q w A' c' b) (hQ : ∀ b, Q b → b < w.heap.size) (hva : checkP a = 0) (hvb : checkP b = 0) (hka : a.k = 3) (hkb : b.k = 3) (r : Int) (hr : cmpV a b = r) :
    Calls Tryz.prog 282 #[.string ⟨#[43]⟩, .agg #[.int .i64 a.k, .int .i64 a.n, .string a.s, .slice A a.items.length c], .agg #[.int .i64 b.k, .int .i64 b.n, .string b.s, .slice A' b.items.length c']] w (RetV Q w (Val.list (a.items ++ b.items))) := by
  have Hr := Ad.mk hr
  have HA := Ad.mk ha
  have HB := Ad.mk hb
  have HQ := Ad.mk hQ
  have l61 := (valid_f hva).l6
  have l62 := (valid_f hvb).l6
  have hblk : (((w.alloc (.cells #[.int .i64 a.k, .int .i64 a.n, .string a.s, .slice A a.items.length c] 42)).alloc (.cells #[.int .i64 b.k, .int .i64 b.n, .string b.s, .slice A' b.items.length c'] 42)).alloc (.cells #[.int .i64 0, .int .i64 0, .string ⟨#[]⟩, .slice none 0 0] 42)).heap[w.heap.size + 2]? = some (.cells #[.int .i64 0, .int .i64 0, .string ⟨#[]⟩, .slice none 0 0] 42 (0, 0)) := blk_new2 (by simp)
  have hB0 : Below w.heap.size w (((w.alloc (.cells #[.int .i64 a.k, .int .i64 a.n, .string a.s, .slice A a.items.length c] 42)).alloc (.cells #[.int .i64 b.k, .int .i64 b.n, .string b.s, .slice A' b.items.length c'] 42)).alloc (.cells #[.int .i64 0, .int .i64 0, .string ⟨#[]⟩, .slice none 0 0] 42)) := below_alloc (below_alloc (below_alloc (Below.refl _ _) _) _) _
  rw [hka, hkb] at hblk hB0
  have HBLK := Ad.mk hblk
  have HB0 := Ad.mk hB0
  have HKA := Ad.mk hka
  have HKB := Ad.mk hkb
  clear hblk hB0 hr ha hb hQ hva hvb
  obtain ⟨i0, hi, hz0, hz1, hz2⟩ := info_parts info42
  have HI := Ad.mk (And.intro hi (And.intro hz0 (And.intro hz1 hz2)))
  clear hi hz0 hz1 hz2
  rw [hka, hkb]
  clear hka hkb
  go_enter Tryz.func282, Tryz.ntmps282
  go_wp2_with (go_at_call 182; have hcc := compare_calls Q Q A A' c c' a b _ (HA.out.below HB0.out) (HB.out.below HB0.out); rw [HKA.out, HKB.out] at hcc; refine hcc.mono ?_; clear hcc; rw [Hr.out]; rintro e1 w1 ⟨rfl, hb1⟩; obtain ⟨k1, z1, y1, HB1⟩ := kcell (w.heap.size + 3) hb1 (by simp); clear hb1)
  have HBQ := Ad.mk (below_then HB0.out HB1.out)
  have r1 : w1.cell? ⟨w.heap.size, 3, none⟩ = some (.slice A a.items.length c) := blk_cell (blk_below (blk_alloc (blk_alloc (blk_new w (.cells #[.int .i64 3, .int .i64 a.n, .string a.s, .slice A a.items.length c] 42)) (.cells #[.int .i64 3, .int .i64 b.n, .string b.s, .slice A' b.items.length c'] 42)) (.cells #[.int .i64 0, .int .i64 0, .string ⟨#[]⟩, .slice none 0 0] 42)) HB1.out) 3
  have r2 : w1.cell? ⟨w.heap.size + 1, 3, none⟩ = some (.slice A' b.items.length c') := blk_cell (blk_below (blk_alloc (blk_new2 (w := w.alloc (.cells #[.int .i64 3, .int .i64 a.n, .string a.s, .slice A a.items.length c] 42)) (o := (.cells #[.int .i64 3, .int .i64 b.n, .string b.s, .slice A' b.items.length c'] 42)) (by simp)) (.cells #[.int .i64 0, .int .i64 0, .string ⟨#[]⟩, .slice none 0 0] 42)) HB1.out) 3
  have n1 : ¬ w.heap.size = w.heap.size + 1 + 1 := by omega
  have n3 : ¬ w.heap.size + 1 + 1 = w.heap.size := by omega
  by_cases hlb : b.items.length = 0
  · have hbn : b.items = [] := List.eq_nil_of_length_eq_zero hlb
    rw [hbn, List.append_nil]
    have r2' : w1.cell? ⟨w.heap.size + 1, 3, none⟩ = some (.slice A' 0 c') := by rw [← hlb]; exact r2
    have HBN := Ad.mk hbn
    clear r2 hbn l62 hlb
    have hzy : w1.drew.cell? ⟨w.heap.size, 3, none⟩ = some (.slice A a.items.length c) := r1
    have hzz : w1.drew.cell? ⟨w.heap.size + 1, 3, none⟩ = some (.slice A' 0 c') := r2'
    go_region_held3 (fun w' => w'.cell? ⟨w.heap.size, 3, none⟩ = some (.slice A a.items.length c) ∧ w'.cell? ⟨w.heap.size + 1, 3, none⟩ = some (.slice A' 0 c'))
      (first | (exact ⟨hzy, hzz⟩) | ((with_reducible refine And.imp (cell_below hb4) (cell_below hb4) ?_); assumption) | ((with_reducible refine And.imp (cell_below hb2) (cell_below hb2) ?_); assumption) | go_keep)
      (first
      | (go_at_call 180; refine (clone_calls Q A c a.items _ (HA.out.l.below HBQ.out.drew) (by intro b hb; have := HQ.out b hb; simp; omega) (by omega)).mono ?_; rintro e2 w2 ⟨v2, rfl, hrow, hb2⟩; obtain ⟨A2, c2, hv2, hv⟩ := hrow.form; subst hv2; have HB2 := Ad.mk hb2; have HV2 := Ad.mk hv; have hca := Ad.mk hv.out.1; clear hrow hv)
      | (go_at_call 183; refine (ofList_calls _ _ _ _ _ HV2.out).mono ?_; rintro e4 w4 ⟨A5, c5, rfl, ha5, hb4⟩; have hbk2 := blk_below (blk_below (blk_below HBLK.out HB1.out) (Below.refl _ _).drew) HB2.out; have hbk4 := blk_below hbk2 hb4; have s0 := blk_cell hbk4 0; have s1' := blk_cell hbk4 1; have s2' := blk_cell hbk4 2; have s3' := blk_cell hbk4 3; have sf := (fun j => blk_frozen hbk4 j); have HBK := Ad.mk hbk4; have HB4 := Ad.mk hb4; have q4 : w.heap.size + 2 < w4.heap.size := (blk_lt hbk4); have HA5 := Ad.mk ha5; clear ha5 hbk2 hbk4 k1 z1 r1 r2' hb2 hzy hzz)
      | (refine step_append_zero rfl _ _ rfl A2 a.items.length c2 hca.out A' c' (by rfl) (by rfl) ?_))
    go_wp2_with fail
    rw [HBN.out, List.append_nil]
    exact RetV.fin HA5.out rfl rfl rfl HBK.out rfl (below_then (below_then HBQ.out (below_then (Below.refl _ _).drew HB2.out)) HB4.out) (by omega) (fun x hx hq => by
      have h3 := HBQ.out.size
      have h4 : w1.heap.size ≤ w2.heap.size := HB2.out.size
      rcases hq with (hq | hq) | hq
      · exact ⟨.inl hq, by have := HQ.out x hq; omega⟩
      · have hq' : w1.heap.size ≤ x := hq
        exact ⟨.inr (by omega), by omega⟩
      · exact ⟨.inr (by omega), by omega⟩)
  · obtain ⟨ad, rfl⟩ : ∃ ad, A' = some ad := by obtain ⟨_, _, _, h3, _⟩ := HB.out.l.out; obtain ⟨ad, e, _⟩ := h3 (by omega); exact ⟨ad, e⟩
    obtain ⟨qs, hqs, hqc, hqv⟩ := HB.out.l.flat
    have HQS := Ad.mk hqs
    have HQC := Ad.mk hqc
    have HQV := Ad.mk hqv
    clear hqs hqc hqv
    go_region_held3 (fun w' => w'.cell? ⟨w.heap.size, 3, none⟩ = some (.slice A a.items.length c) ∧ w'.cell? ⟨w.heap.size + 1, 3, none⟩ = some (.slice (some ad) b.items.length c'))
      (first | ((with_reducible refine And.imp (cell_below hb4) (cell_below hb4) ?_); assumption) | ((with_reducible refine And.imp (fun h => (k3 _ _ (by omega)).trans h) (fun h => (k3 _ _ (by omega)).trans h) ?_); assumption) | ((with_reducible refine And.imp (cell_below hb2) (cell_below hb2) ?_); assumption) | go_keep)
      (first
      | (go_at_call 180; go_must (refine (clone_calls Q A c a.items _ (HA.out.l.below HBQ.out.drew) (by intro b hb; have := HQ.out b hb; simp; omega) (by omega)).mono ?_); rintro e2 w2 ⟨v2, rfl, hrow, hb2⟩; obtain ⟨k2, z2, y2, _⟩ := kcell (w.heap.size + 3) hb2 (by simpa using y1); obtain ⟨A2, c2, hv2, _⟩ := hrow.form; subst hv2; obtain ⟨ps, hps, hown, hel⟩ := hrow.out; have HPS := Ad.mk hps; have HO := Ad.mk hown; have HEL := Ad.mk hel; have HB2 := Ad.mk hb2; clear hrow hps hown hel)
      | (go_at_call 183; have hg3 := RowV.glue (Q := Q) (Q4 := Q) HPS.out HQS.out (fun i hi => HEL.out i hi) (fun i hi => (HQV.out i hi).below (below_then HBQ.out (below_then (Below.refl _ _).drew HB2.out))) (fun x hx hq => ⟨hq, fun e => by have h1 := HQ.out x hq; have h2 : w1.heap.size ≤ x := (own_lt HO.out x e.symm).1; omega⟩) HO3.out HG.out HAT.out (by omega); obtain ⟨A4, c4, e4, hv4⟩ := hg3.form; rw [List.length_append] at e4; injection e4 with e4 _ e5; subst e4; subst e5; have hcl := ofList_calls _ _ _ _ _ hv4; rw [List.length_append] at hcl; go_must (refine hcl.mono ?_); clear hcl; rintro e4 w4 ⟨A5, c5, rfl, ha5, hb4⟩; have hbk1 := blk_below HBLK.out HB1.out; have hbk2 := blk_below (blk_below hbk1 (Below.refl _ _).drew) HB2.out; have hbk3 := (HG.out.block (w.heap.size + 2) (blk_lt hbk2) (fun e => by have : w1.heap.size ≤ w.heap.size + 2 := (own_lt HO.out _ e.symm).1; omega)).trans hbk2; have hbk4 := blk_below hbk3 hb4; have s0 := blk_cell hbk4 0; have s1' := blk_cell hbk4 1; have s2' := blk_cell hbk4 2; have s3' := blk_cell hbk4 3; have sf := (fun j => blk_frozen hbk4 j); have HBK := Ad.mk hbk4; have HB4 := Ad.mk hb4; have y4 : w.heap.size + 3 ≤ w4.heap.size := (Nat.le_trans y3 hb4.size); have q4 : w.heap.size + 2 < w4.heap.size := (by omega); clear hbk1 hbk2 hbk3 hbk4 k1 z1 k2 z2 k3 z3 r1 r2; have HA5 := Ad.mk ha5; clear ha5 hv4 hg3)
      | (refine (step_append_lies _ rfl _ _ 40 (by rfl) w1.heap.size 42 i0 _ 4 56 Tryz.underlying40 HI.out.1 HI.out.2.1 HI.out.2.2.1 HI.out.2.2.2 rfl (by omega) (.slice A2 a.items.length c2) a.items.length (flatV a.items ps) (by rfl) HO.out ad b.items.length c' (flatV b.items qs) (by rfl) (flat_len _ _ HQS.out) (fun j u h => cell_below (below_then HBQ.out (below_then (Below.refl _ _).drew HB2.out)) (HQC.out j u h)) (flat_one _ _) (by omega) (by unfold maxLen; omega) (by omega) (by have := HB2.out.size; simpa using this) _ rfl ?_); intro g cp w3 hown3 hgrow hat hlt3; have HO3 := Ad.mk hown3; have HG := Ad.mk hgrow; have HAT := Ad.mk hat; have hfar : ∀ x o, x < w1.heap.size → w3.cell? ⟨x, o, none⟩ = w2.cell? ⟨x, o, none⟩ := (fun x o hx => World.grownBy.cell_far HG.out ⟨x, o, none⟩ (Nat.lt_of_lt_of_le hx (by have := HB2.out.size; simpa using this)) (fun e => Nat.lt_irrefl _ (Nat.lt_of_lt_of_le hx (show w1.heap.size ≤ x from (own_lt HO.out x e.symm).1)))); have k3 : ∀ x o, x < w.heap.size + 3 → w3.cell? ⟨x, o, none⟩ = w2.cell? ⟨x, o, none⟩ := (fun x o hx => hfar x o (by omega)); have z3 : ∀ x o, x < w.heap.size + 3 → w3.frozen? ⟨x, o, none⟩ = w2.frozen? ⟨x, o, none⟩ := (fun x o hx => World.grownBy.frozen_far HG.out ⟨x, o, none⟩ (Nat.lt_of_lt_of_le (show x < w1.heap.size by omega) (by have := HB2.out.size; simpa using this)) (fun e => Nat.lt_irrefl _ (Nat.lt_of_lt_of_le (show x < w1.heap.size by omega) (show w1.heap.size ≤ x from (own_lt HO.out x e.symm).1)))); have y3 : w.heap.size + 3 ≤ w3.heap.size := (Nat.le_trans y2 HG.out.size); clear hown3 hgrow hat hfar hb2))
    go_wp2_with fail
    have hz := below_then (below_then HBQ.out (below_then (Below.refl _ _).drew HB2.out)) (Below.refl _ _)
    have hz3 : Below w.heap.size w w3 := hz.grown HG.out (by have := hz.size; exact this) (fun k hk => Nat.le_trans HBQ.out.size (own_lt HO.out k hk).1)
    exact RetV.fin HA5.out rfl rfl rfl HBK.out rfl (below_then hz3 HB4.out) (by omega) (fun x hx hq => by
      have h3 := HBQ.out.size
      rcases hq with (hq | hq) | hq
      · exact ⟨.inl hq, by have := HQ.out x hq; omega⟩
      · have hq' : w1.heap.size ≤ x := hq
        exact ⟨.inr (by omega), by omega⟩
      · exact ⟨.inr (by omega), by omega⟩)
end Go.Proofs.YtahnelihohmjfaaGreatDoor.V
namespace Go.Proofs.YtahnelihohmjfaaGreatDoor.V
open Go.RowKit
set_option linter.unusedVariables false
set_option linter.unusedSimpArgs false
set_option maxHeartbeats 8000000 in
set_option maxRecDepth 100000 in
theorem worth_calls (Q : Nat → Prop) (op : ByteArray) (A A' : Option Addr) (c c' : Nat) (a b : Val) (w : World) (ha : VA Q w A c a) (hb : VA Q w A' c' b) (hQ : ∀ b, Q b → b < w.heap.size) (hva : checkP a = 0) (hvb : checkP b = 0) :
    Calls Tryz.prog 282 #[.string op, .agg #[.int .i64 a.k, .int .i64 a.n, .string a.s, .slice A a.items.length c], .agg #[.int .i64 b.k, .int .i64 b.n, .string b.s, .slice A' b.items.length c']] w (RetV Q w (worthV op a b)) := by
  by_cases hlist : (op.toList == [43] && (a.k == 3 && b.k == 3)) = true
  · simp only [Bool.and_eq_true] at hlist
    obtain ⟨h1, h2, h3⟩ := hlist
    have h43 : op.toList = [43] := by simpa using h1
    have hop : op = ⟨#[43]⟩ := by
      obtain ⟨⟨l⟩⟩ := op
      rw [ByteArray.toList_eq] at h43
      simp at h43
      rw [h43]
    subst hop
    have hw : worthV ⟨#[43]⟩ a b = Val.list (a.items ++ b.items) := by
      have h2' : a.k = 3 := by simpa using h2
      have h3' : b.k = 3 := by simpa using h3
      have e1 : (⟨#[43]⟩ : ByteArray).toList = [43] := ByteArray.toList_eq _
      unfold worthV
      rw [h2', h3', e1]
      rfl
    rw [hw]
    exact worth_lists Q A A' c c' a b w ha hb hQ hva hvb (by simpa using h2) (by simpa using h3) _ rfl
  have HLIST := Ad.mk hlist
  clear hlist
  obtain ⟨R, hR⟩ : ∃ R, worthV op a b = R := ⟨_, rfl⟩
  rw [hR]
  unfold worthV at hR
  obtain ⟨r, hr⟩ : ∃ r, cmpV a b = r := ⟨_, rfl⟩
  rw [hr] at hR
  have Hr := Ad.mk hr
  have HA := Ad.mk ha
  have HB := Ad.mk hb
  have HQ := Ad.mk hQ
  have HVA := Ad.mk hva
  have HVB := Ad.mk hvb
  have s1 := (valid_f hva).s24
  have s2 := (valid_f hvb).s24
  have s3 : (a.s ++ b.s).size ≤ 48 := by rw [ByteArray.size_append]; omega
  obtain ⟨T, hT⟩ : ∃ T, reckonV op a.n b.n = T := ⟨_, rfl⟩
  rw [hT] at hR
  have HT := Ad.mk hT
  have HTI := Ad.mk (hT ▸ reckon_i64 op (b := b.n) ha.n)
  clear hT
  have HR := Ad.mk hR
  clear hR hr ha hb hQ hva hvb
  have hblk : (((w.alloc (.cells #[.int .i64 a.k, .int .i64 a.n, .string a.s, .slice A a.items.length c] 42)).alloc (.cells #[.int .i64 b.k, .int .i64 b.n, .string b.s, .slice A' b.items.length c'] 42)).alloc (.cells #[.int .i64 0, .int .i64 0, .string ⟨#[]⟩, .slice none 0 0] 42)).heap[w.heap.size + 2]? = some (.cells #[.int .i64 0, .int .i64 0, .string ⟨#[]⟩, .slice none 0 0] 42 (0, 0)) := blk_new2 (by simp)
  have HBLK := Ad.mk hblk
  have hB0 : Below w.heap.size w (((w.alloc (.cells #[.int .i64 a.k, .int .i64 a.n, .string a.s, .slice A a.items.length c] 42)).alloc (.cells #[.int .i64 b.k, .int .i64 b.n, .string b.s, .slice A' b.items.length c'] 42)).alloc (.cells #[.int .i64 0, .int .i64 0, .string ⟨#[]⟩, .slice none 0 0] 42)) := below_alloc (below_alloc (below_alloc (Below.refl _ _) _) _) _
  have HB0 := Ad.mk hB0
  clear hblk hB0
  go_enter Tryz.func282, Tryz.ntmps282
  go_wp2_with (first
    | (go_at_call 182; refine (compare_calls Q Q A A' c c' a b _ (HA.out.below (below_alloc (below_alloc (below_alloc (Below.refl _ _) _) _) _)) (HB.out.below (below_alloc (below_alloc (below_alloc (Below.refl _ _) _) _) _))).mono ?_; rw [Hr.out]; rintro e1 w1 ⟨rfl, hb1⟩; obtain ⟨k1, z1, y1, HB1⟩ := kcell (w.heap.size + 3) hb1 (by simp); clear hb1)
    | (go_at_call 188; refine (ofBool_calls (fun _ => False) _ _).mono ?_; rintro e3 w3 ⟨A3, c3, rfl, ha3, hb3⟩; obtain ⟨k3, z3, y3, HB3⟩ := kcell (w.heap.size + 3) hb3 y1; have HA3 := Ad.mk ha3; clear ha3 hb3)
    | (go_at_call 88; refine (ofText_calls (fun _ => False) _ _ (by omega)).mono ?_; rintro e3 w3 ⟨A3, c3, rfl, ha3, hb3⟩; obtain ⟨k3, z3, y3, HB3⟩ := kcell (w.heap.size + 3) hb3 y1; have HA3 := Ad.mk ha3; clear ha3 hb3))
  all_goals (try (go_wp2_with (first
    | (go_at_call 179; refine (reckon_calls op a.n b.n _).mono ?_; rw [HT.out]; rintro e2 w2 ⟨rfl, hb2⟩; obtain ⟨k2, z2, y2, HB2⟩ := kcell (w.heap.size + 3) hb2 y1; clear hb2)
    | (go_at_call 177; refine (ofInt_calls (fun _ => False) _ _ HTI.out).mono ?_; rintro e3 w3 ⟨A3, c3, rfl, ha3, hb3⟩; obtain ⟨k3, z3, y3, HB3⟩ := kcell (w.heap.size + 3) hb3 y2; have HA3 := Ad.mk ha3; clear ha3 hb3))))
  · have hX := HR.out
    rw [show (op.toList == [61, 61]) = true by with_reducible assumption] at hX
    simp only [cond_true, cond_false, Bool.true_and, Bool.false_and] at hX
    rw [← hX]
    exact RetV.fin HA3.out rfl rfl rfl (blk_below (blk_below HBLK.out HB1.out) HB3.out) rfl (below_then (below_then HB0.out HB1.out) HB3.out) (by omega) (fun x _ hq => by rcases hq with hq | hq; exact hq.elim; exact ⟨.inr (by omega), by omega⟩)
  · have hX := HR.out
    rw [show (op.toList == [61, 61]) = false by with_reducible assumption] at hX
    rw [show (op.toList == [33, 61]) = true by with_reducible assumption] at hX
    simp only [cond_true, cond_false, Bool.true_and, Bool.false_and] at hX
    rw [← hX]
    exact RetV.fin HA3.out rfl rfl rfl (blk_below (blk_below HBLK.out HB1.out) HB3.out) rfl (below_then (below_then HB0.out HB1.out) HB3.out) (by omega) (fun x _ hq => by rcases hq with hq | hq; exact hq.elim; exact ⟨.inr (by omega), by omega⟩)
  · have hX := HR.out
    rw [show (op.toList == [61, 61]) = false by with_reducible assumption] at hX
    rw [show (op.toList == [33, 61]) = false by with_reducible assumption] at hX
    rw [show (op.toList == [60]) = true by with_reducible assumption] at hX
    simp only [cond_true, cond_false, Bool.true_and, Bool.false_and] at hX
    rw [← hX]
    exact RetV.fin HA3.out rfl rfl rfl (blk_below (blk_below HBLK.out HB1.out) HB3.out) rfl (below_then (below_then HB0.out HB1.out) HB3.out) (by omega) (fun x _ hq => by rcases hq with hq | hq; exact hq.elim; exact ⟨.inr (by omega), by omega⟩)
  · have hX := HR.out
    rw [show (op.toList == [61, 61]) = false by with_reducible assumption] at hX
    rw [show (op.toList == [33, 61]) = false by with_reducible assumption] at hX
    rw [show (op.toList == [60]) = false by with_reducible assumption] at hX
    rw [show (op.toList == [60, 61]) = true by with_reducible assumption] at hX
    simp only [cond_true, cond_false, Bool.true_and, Bool.false_and] at hX
    rw [← hX]
    exact RetV.fin HA3.out rfl rfl rfl (blk_below (blk_below HBLK.out HB1.out) HB3.out) rfl (below_then (below_then HB0.out HB1.out) HB3.out) (by omega) (fun x _ hq => by rcases hq with hq | hq; exact hq.elim; exact ⟨.inr (by omega), by omega⟩)
  · have hX := HR.out
    rw [show (op.toList == [61, 61]) = false by with_reducible assumption] at hX
    rw [show (op.toList == [33, 61]) = false by with_reducible assumption] at hX
    rw [show (op.toList == [60]) = false by with_reducible assumption] at hX
    rw [show (op.toList == [60, 61]) = false by with_reducible assumption] at hX
    rw [show (op.toList == [62]) = true by with_reducible assumption] at hX
    simp only [cond_true, cond_false, Bool.true_and, Bool.false_and] at hX
    rw [← hX]
    exact RetV.fin HA3.out rfl rfl rfl (blk_below (blk_below HBLK.out HB1.out) HB3.out) rfl (below_then (below_then HB0.out HB1.out) HB3.out) (by omega) (fun x _ hq => by rcases hq with hq | hq; exact hq.elim; exact ⟨.inr (by omega), by omega⟩)
  · have hX := HR.out
    rw [show (op.toList == [61, 61]) = false by with_reducible assumption] at hX
    rw [show (op.toList == [33, 61]) = false by with_reducible assumption] at hX
    rw [show (op.toList == [60]) = false by with_reducible assumption] at hX
    rw [show (op.toList == [60, 61]) = false by with_reducible assumption] at hX
    rw [show (op.toList == [62]) = false by with_reducible assumption] at hX
    rw [show (op.toList == [62, 61]) = true by with_reducible assumption] at hX
    simp only [cond_true, cond_false, Bool.true_and, Bool.false_and] at hX
    rw [← hX]
    exact RetV.fin HA3.out rfl rfl rfl (blk_below (blk_below HBLK.out HB1.out) HB3.out) rfl (below_then (below_then HB0.out HB1.out) HB3.out) (by omega) (fun x _ hq => by rcases hq with hq | hq; exact hq.elim; exact ⟨.inr (by omega), by omega⟩)
  · have hX := HR.out
    rw [show (op.toList == [61, 61]) = false by with_reducible assumption] at hX
    rw [show (op.toList == [33, 61]) = false by with_reducible assumption] at hX
    rw [show (op.toList == [60]) = false by with_reducible assumption] at hX
    rw [show (op.toList == [60, 61]) = false by with_reducible assumption] at hX
    rw [show (op.toList == [62]) = false by with_reducible assumption] at hX
    rw [show (op.toList == [62, 61]) = false by with_reducible assumption] at hX
    rw [show (!(a.k == b.k)) = true from ‹(a.k != b.k) = true›] at hX
    simp only [cond_true, cond_false, Bool.true_and, Bool.false_and] at hX
    rw [← hX]
    exact RetV.fin (VA.none (fun _ => False) _ Option.none 0) rfl rfl rfl (blk_below HBLK.out HB1.out) rfl (below_then HB0.out HB1.out) (by omega) (fun _ _ h => h.elim)
  · have hX := HR.out
    rw [show (op.toList == [61, 61]) = false by with_reducible assumption] at hX
    rw [show (op.toList == [33, 61]) = false by with_reducible assumption] at hX
    rw [show (op.toList == [60]) = false by with_reducible assumption] at hX
    rw [show (op.toList == [60, 61]) = false by with_reducible assumption] at hX
    rw [show (op.toList == [62]) = false by with_reducible assumption] at hX
    rw [show (op.toList == [62, 61]) = false by with_reducible assumption] at hX
    rw [show (!(a.k == b.k)) = false from ‹(a.k != b.k) = false›] at hX
    rw [show (op.toList == [43]) = true by rw [‹op.toList = [43]›]; rfl] at hX
    rw [show (a.k == 2) = true by with_reducible assumption] at hX
    simp only [cond_true, cond_false, Bool.true_and, Bool.false_and] at hX
    rw [← hX]
    exact RetV.fin HA3.out rfl rfl rfl (blk_below (blk_below HBLK.out HB1.out) HB3.out) rfl (below_then (below_then HB0.out HB1.out) HB3.out) (by omega) (fun x _ hq => by rcases hq with hq | hq; exact hq.elim; exact ⟨.inr (by omega), by omega⟩)
  · have k3 : (a.k == 3) = true := by with_reducible assumption
    have kk : (a.k != b.k) = false := by with_reducible assumption
    exact absurd (by rw [‹op.toList = [43]›, k3]; have h1 : a.k = 3 := by simpa using k3
                     have h2 : a.k = b.k := by simpa using kk
                     rw [← h2, h1]; rfl) HLIST.out
  · have hX := HR.out
    rw [show (op.toList == [61, 61]) = false by with_reducible assumption] at hX
    rw [show (op.toList == [33, 61]) = false by with_reducible assumption] at hX
    rw [show (op.toList == [60]) = false by with_reducible assumption] at hX
    rw [show (op.toList == [60, 61]) = false by with_reducible assumption] at hX
    rw [show (op.toList == [62]) = false by with_reducible assumption] at hX
    rw [show (op.toList == [62, 61]) = false by with_reducible assumption] at hX
    rw [show (!(a.k == b.k)) = false from ‹(a.k != b.k) = false›] at hX
    rw [show (op.toList == [43]) = true by rw [‹op.toList = [43]›]; rfl] at hX
    rw [show (a.k == 2) = false by with_reducible assumption] at hX
    rw [show (a.k == 3) = false by with_reducible assumption] at hX
    rw [show (!(a.k == 1)) = true from ‹(a.k != 1) = true›] at hX
    simp only [cond_true, cond_false, Bool.true_and, Bool.false_and] at hX
    rw [← hX]
    exact RetV.fin (VA.none (fun _ => False) _ Option.none 0) rfl rfl rfl (blk_below HBLK.out HB1.out) rfl (below_then HB0.out HB1.out) (by omega) (fun _ _ h => h.elim)
  · have hX := HR.out
    rw [show (op.toList == [61, 61]) = false by with_reducible assumption] at hX
    rw [show (op.toList == [33, 61]) = false by with_reducible assumption] at hX
    rw [show (op.toList == [60]) = false by with_reducible assumption] at hX
    rw [show (op.toList == [60, 61]) = false by with_reducible assumption] at hX
    rw [show (op.toList == [62]) = false by with_reducible assumption] at hX
    rw [show (op.toList == [62, 61]) = false by with_reducible assumption] at hX
    rw [show (!(a.k == b.k)) = false from ‹(a.k != b.k) = false›] at hX
    rw [show (op.toList == [43]) = true by rw [‹op.toList = [43]›]; rfl] at hX
    rw [show (a.k == 2) = false by with_reducible assumption] at hX
    rw [show (a.k == 3) = false by with_reducible assumption] at hX
    rw [show (!(a.k == 1)) = false from ‹(a.k != 1) = false›] at hX
    rw [show T.2 = true by with_reducible assumption] at hX
    simp only [cond_true, cond_false, Bool.true_and, Bool.false_and] at hX
    rw [← hX]
    exact RetV.fin HA3.out rfl rfl rfl (blk_below (blk_below (blk_below HBLK.out HB1.out) HB2.out) HB3.out) rfl (below_then (below_then (below_then HB0.out HB1.out) HB2.out) HB3.out) (by omega) (fun x _ hq => by rcases hq with hq | hq; exact hq.elim; exact ⟨.inr (by omega), by omega⟩)
  · have hX := HR.out
    rw [show (op.toList == [61, 61]) = false by with_reducible assumption] at hX
    rw [show (op.toList == [33, 61]) = false by with_reducible assumption] at hX
    rw [show (op.toList == [60]) = false by with_reducible assumption] at hX
    rw [show (op.toList == [60, 61]) = false by with_reducible assumption] at hX
    rw [show (op.toList == [62]) = false by with_reducible assumption] at hX
    rw [show (op.toList == [62, 61]) = false by with_reducible assumption] at hX
    rw [show (!(a.k == b.k)) = false from ‹(a.k != b.k) = false›] at hX
    rw [show (op.toList == [43]) = true by rw [‹op.toList = [43]›]; rfl] at hX
    rw [show (a.k == 2) = false by with_reducible assumption] at hX
    rw [show (a.k == 3) = false by with_reducible assumption] at hX
    rw [show (!(a.k == 1)) = false from ‹(a.k != 1) = false›] at hX
    rw [show T.2 = false by with_reducible assumption] at hX
    simp only [cond_true, cond_false, Bool.true_and, Bool.false_and] at hX
    rw [← hX]
    exact RetV.fin (VA.none (fun _ => False) _ Option.none 0) rfl rfl rfl (blk_below (blk_below HBLK.out HB1.out) HB2.out) rfl (below_then (below_then HB0.out HB1.out) HB2.out) (by omega) (fun _ _ h => h.elim)
  · have hX := HR.out
    rw [show (op.toList == [61, 61]) = false by with_reducible assumption] at hX
    rw [show (op.toList == [33, 61]) = false by with_reducible assumption] at hX
    rw [show (op.toList == [60]) = false by with_reducible assumption] at hX
    rw [show (op.toList == [60, 61]) = false by with_reducible assumption] at hX
    rw [show (op.toList == [62]) = false by with_reducible assumption] at hX
    rw [show (op.toList == [62, 61]) = false by with_reducible assumption] at hX
    rw [show (!(a.k == b.k)) = false from ‹(a.k != b.k) = false›] at hX
    rw [show (op.toList == [43]) = false by simpa using ‹¬op.toList = [43]›] at hX
    rw [show (!(a.k == 1)) = true from ‹(a.k != 1) = true›] at hX
    simp only [cond_true, cond_false, Bool.true_and, Bool.false_and] at hX
    rw [← hX]
    exact RetV.fin (VA.none (fun _ => False) _ Option.none 0) rfl rfl rfl (blk_below HBLK.out HB1.out) rfl (below_then HB0.out HB1.out) (by omega) (fun _ _ h => h.elim)
  · have hX := HR.out
    rw [show (op.toList == [61, 61]) = false by with_reducible assumption] at hX
    rw [show (op.toList == [33, 61]) = false by with_reducible assumption] at hX
    rw [show (op.toList == [60]) = false by with_reducible assumption] at hX
    rw [show (op.toList == [60, 61]) = false by with_reducible assumption] at hX
    rw [show (op.toList == [62]) = false by with_reducible assumption] at hX
    rw [show (op.toList == [62, 61]) = false by with_reducible assumption] at hX
    rw [show (!(a.k == b.k)) = false from ‹(a.k != b.k) = false›] at hX
    rw [show (op.toList == [43]) = false by simpa using ‹¬op.toList = [43]›] at hX
    rw [show (!(a.k == 1)) = false from ‹(a.k != 1) = false›] at hX
    rw [show T.2 = true by with_reducible assumption] at hX
    simp only [cond_true, cond_false, Bool.true_and, Bool.false_and] at hX
    rw [← hX]
    exact RetV.fin HA3.out rfl rfl rfl (blk_below (blk_below (blk_below HBLK.out HB1.out) HB2.out) HB3.out) rfl (below_then (below_then (below_then HB0.out HB1.out) HB2.out) HB3.out) (by omega) (fun x _ hq => by rcases hq with hq | hq; exact hq.elim; exact ⟨.inr (by omega), by omega⟩)
  · have hX := HR.out
    rw [show (op.toList == [61, 61]) = false by with_reducible assumption] at hX
    rw [show (op.toList == [33, 61]) = false by with_reducible assumption] at hX
    rw [show (op.toList == [60]) = false by with_reducible assumption] at hX
    rw [show (op.toList == [60, 61]) = false by with_reducible assumption] at hX
    rw [show (op.toList == [62]) = false by with_reducible assumption] at hX
    rw [show (op.toList == [62, 61]) = false by with_reducible assumption] at hX
    rw [show (!(a.k == b.k)) = false from ‹(a.k != b.k) = false›] at hX
    rw [show (op.toList == [43]) = false by simpa using ‹¬op.toList = [43]›] at hX
    rw [show (!(a.k == 1)) = false from ‹(a.k != 1) = false›] at hX
    rw [show T.2 = false by with_reducible assumption] at hX
    simp only [cond_true, cond_false, Bool.true_and, Bool.false_and] at hX
    rw [← hX]
    exact RetV.fin (VA.none (fun _ => False) _ Option.none 0) rfl rfl rfl (blk_below (blk_below HBLK.out HB1.out) HB2.out) rfl (below_then (below_then HB0.out HB1.out) HB2.out) (by omega) (fun _ _ h => h.elim)
end Go.Proofs.YtahnelihohmjfaaGreatDoor.V
namespace Go.Proofs.YtahnelihohmjfaaGreatDoor.V
open Go.RowKit
set_option linter.unusedVariables false
set_option linter.unusedSimpArgs false
set_option maxHeartbeats 8000000 in
set_option maxRecDepth 100000 in
theorem op_calls (w0 w : World) (b0 : Nat) (op : ByteArray) (b1 : Nat) (f1 : Value) (F1 : EnvV → Val) (b2 : Nat) (f2 : Value) (F2 : EnvV → Val) (hf0 : w0.heap[b0]? = some (.cells #[.string op] 9 (0, 0))) (hf1 : w0.heap[b1]? = some (.cells #[f1] 148 (0, 0))) (hF1 : Ev w0 f1 F1) (hf2 : w0.heap[b2]? = some (.cells #[f2] 148 (0, 0))) (hF2 : Ev w0 f2 F2) (a : Nat) (E : EnvV) (Q : Nat → Prop) (hb : Below w0.heap.size w0 w) (hE : EnvR Q w a E) (hQ : ∀ b, Q b → b < w.heap.size) (hok : E.ok) :
    Calls Tryz.prog 281 #[.pointer (some ⟨a, 0, none⟩), .pointer (some ⟨b0, 0, none⟩), .pointer (some ⟨b1, 0, none⟩), .pointer (some ⟨b2, 0, none⟩)] w (RetV Q w (fitV (worthV op (F1 E) (F2 E)))) := by
  obtain ⟨k1, cap1, rfl, hk1, hcall1⟩ := (hF1.below hb).calls
  obtain ⟨k2, cap2, rfl, hk2, hcall2⟩ := (hF2.below hb).calls
  have O1 := Ad.mk (hF1.ok E hok)
  have O2 := Ad.mk (hF2.ok E hok)
  obtain ⟨x1, hx1⟩ : ∃ x, F1 E = x := ⟨_, rfl⟩
  obtain ⟨x2, hx2⟩ : ∃ x, F2 E = x := ⟨_, rfl⟩
  have hcall1' := fun w' h1 h2 h3 => hcall1 w' a E Q h1 h2 h3 hok
  have hcall2' := fun w' h1 h2 h3 => hcall2 w' a E Q h1 h2 h3 hok
  simp only [hx1] at hcall1'
  simp only [hx2] at hcall2'
  rw [hx1] at O1 ⊢
  rw [hx2] at O2 ⊢
  have C1 := Ad.mk hcall1'
  have C2 := Ad.mk hcall2'
  have c0 := cell_below (below_alloc (Below.refl _ w) (.cells #[.int .i64 0, .int .i64 0, .string ⟨#[]⟩, .slice none 0 0] 42)) (blk_cell (blk_below hf0 hb) 0)
  have c1 := cell_below (below_alloc (Below.refl _ w) (.cells #[.int .i64 0, .int .i64 0, .string ⟨#[]⟩, .slice none 0 0] 42)) (blk_cell (blk_below hf1 hb) 0)
  have c2 := cell_below (below_alloc (Below.refl _ w) (.cells #[.int .i64 0, .int .i64 0, .string ⟨#[]⟩, .slice none 0 0] 42)) (blk_cell (blk_below hf2 hb) 0)
  have l0 := blk_lt (blk_below hf0 hb)
  have l1 := blk_lt (blk_below hf1 hb)
  have l2 := blk_lt (blk_below hf2 hb)
  have n0 : ¬ b0 = w.heap.size := by omega
  have n1 : ¬ b1 = w.heap.size := by omega
  have n2 : ¬ b2 = w.heap.size := by omega
  have m0 : ¬ w.heap.size = b0 := by omega
  have m1 : ¬ w.heap.size = b1 := by omega
  have m2 : ¬ w.heap.size = b2 := by omega
  have HE := Ad.mk hE
  have HQ := Ad.mk hQ
  have HBX := Ad.mk (blk_new w (.cells #[.int .i64 0, .int .i64 0, .string ⟨#[]⟩, .slice none 0 0] 42))
  clear hf0 hf1 hF1 hcall1 hf2 hF2 hcall2 hb hE hQ hx1 hx2 hcall1' hcall2'
  go_enter Tryz.func281, Tryz.ntmps281
  go_wp2_with fail
  have t0 : ((w.alloc (.cells #[.int .i64 0, .int .i64 0, .string ⟨#[]⟩, .slice none 0 0] 42)).drew).cell? ⟨b0, 0, none⟩ = some (.string op) := c0
  have t1 : ((w.alloc (.cells #[.int .i64 0, .int .i64 0, .string ⟨#[]⟩, .slice none 0 0] 42)).drew).cell? ⟨b1, 0, none⟩ = some (.func (.func k1) #[] cap1) := c1
  have t2 : ((w.alloc (.cells #[.int .i64 0, .int .i64 0, .string ⟨#[]⟩, .slice none 0 0] 42)).drew).cell? ⟨b2, 0, none⟩ = some (.func (.func k2) #[] cap2) := c2
  have x0 : Ad (((w.alloc (.cells #[.int .i64 0, .int .i64 0, .string ⟨#[]⟩, .slice none 0 0] 42)).drew).heap[w.heap.size]? = some (.cells #[.int .i64 0, .int .i64 0, .string ⟨#[]⟩, .slice none 0 0] 42 (0, 0))) := ⟨HBX.out⟩
  have y0 : w.heap.size + 1 ≤ ((w.alloc (.cells #[.int .i64 0, .int .i64 0, .string ⟨#[]⟩, .slice none 0 0] 42)).drew).heap.size := by simp
  clear c0 c1 c2
  go_region_held3 (fun w' => w'.cell? ⟨b0, 0, none⟩ = some (.string op) ∧ w'.cell? ⟨b1, 0, none⟩ = some (.func (.func k1) #[] cap1) ∧ w'.cell? ⟨b2, 0, none⟩ = some (.func (.func k2) #[] cap2)) (first | (with_reducible exact ⟨t0, t1, t2⟩) | go_keep)
    (first
    | ((with_reducible refine (C1.out _ (below_alloc (Below.refl _ _) _).drew (HE.out.below (below_alloc (Below.refl _ _) _).drew) (fun b h => by have := HQ.out b h; simp; omega)).mono ?_); rintro e1 w1 ⟨A1, d1, rfl, ha1, hb1⟩; have HB1 := Ad.mk hb1; replace t0 := cell_below hb1 t0; replace t1 := cell_below hb1 t1; replace t2 := cell_below hb1 t2; replace x0 := Ad.mk (blk_below x0.out hb1); replace y0 := Nat.le_trans y0 hb1.size; have HA1 := Ad.mk ha1; clear ha1 hb1)
    | ((with_reducible refine (C2.out _ (below_then (below_alloc (Below.refl _ _) _).drew HB1.out) (HE.out.below (below_then (below_alloc (Below.refl _ _) _).drew HB1.out)) (fun b h => by have := HQ.out b h; omega)).mono ?_); rintro e2 w2 ⟨A2, d2, rfl, ha2, hb2⟩; have y1 : w.heap.size + 1 ≤ w1.heap.size := y0; have HB2 := Ad.mk hb2; replace t0 := cell_below hb2 t0; replace t1 := cell_below hb2 t1; replace t2 := cell_below hb2 t2; replace x0 := Ad.mk (blk_below x0.out hb2); replace y0 := Nat.le_trans y0 hb2.size; have HA2 := Ad.mk ha2; clear ha2 hb2)
    | (go_at_call 282; refine (worth_calls (fun b => (Q b ∨ w.heap.size + 1 ≤ b) ∧ b < w2.heap.size) op A1 A2 d1 d2 x1 x2 _ ((HA1.out.below HB2.out).weak fun b hb hq => ⟨hq.imp_right (by simp), hb⟩) (HA2.out.weak fun b hb hq => ⟨hq.imp_right (by omega), hb⟩) (fun b h => h.2) O1.out O2.out).mono ?_; rintro e3 w3 ⟨A3, d3, rfl, ha3, hb3⟩; have y2 : w.heap.size + 1 ≤ w2.heap.size := y0; have HB3 := Ad.mk hb3; replace t0 := cell_below hb3 t0; replace t1 := cell_below hb3 t1; replace t2 := cell_below hb3 t2; replace x0 := Ad.mk (blk_below x0.out hb3); replace y0 := Nat.le_trans y0 hb3.size; have HA3 := Ad.mk ha3; clear ha3 hb3)
    | (go_at_call 252; refine (fit_calls (fun b => (Q b ∨ w.heap.size + 1 ≤ b) ∧ b < w3.heap.size) A3 d3 (worthV op x1 x2) _ (HA3.out.weak fun b hb hq => by rcases hq with hq | hq; exact ⟨hq.1, hb⟩; exact ⟨.inr (by omega), hb⟩) (fun b h => h.2)).mono ?_; rintro e4 w4 ⟨A4, d4, rfl, ha4, hb4⟩; have y3 : w.heap.size + 1 ≤ w3.heap.size := y0; have HB4 := Ad.mk hb4; replace t0 := cell_below hb4 t0; replace t1 := cell_below hb4 t1; replace t2 := cell_below hb4 t2; replace x0 := Ad.mk (blk_below x0.out hb4); replace y0 := Nat.le_trans y0 hb4.size; have HA4 := Ad.mk ha4; clear ha4 hb4; have s0 := blk_cell x0.out 0; have s1 := blk_cell x0.out 1; have s2 := blk_cell x0.out 2; have s3 := blk_cell x0.out 3; have sf := (fun j => blk_frozen x0.out j); have q4 := blk_lt x0.out))
  go_wp2_with fail
  have HZ := below_then (below_then (below_then (Below.refl _ _).drew HB1.out) HB2.out) (below_then HB3.out HB4.out)
  exact RetV.fin HA4.out rfl rfl rfl x0.out rfl (below_then (below_alloc (Below.refl _ _) _) HZ) (Nat.le_refl _) (fun x hx hq => by rcases hq with ⟨hq | hq, _⟩ | hq; exact ⟨.inl hq, by have := HQ.out x hq; omega⟩; exact ⟨.inr (by omega), by omega⟩; exact ⟨.inr (by omega), by omega⟩)
end Go.Proofs.YtahnelihohmjfaaGreatDoor.V
namespace Go.Proofs.YtahnelihohmjfaaGreatDoor.V
open Go.RowKit
set_option linter.unusedVariables false
set_option linter.unusedSimpArgs false
set_option maxHeartbeats 8000000 in
set_option maxRecDepth 100000 in
theorem call1_calls (w0 w : World) (b1 : Nat) (s : ByteArray) (n : Int) (k : Nat) (D : List Val → Val) (b2 : Nat) (f : Value) (Fs : List (EnvV → Val)) (hf1 : w0.heap[b1]? = some (.cells #[.string s, .int .i64 n, .func (.func k) #[] #[]] 222 (0, 0))) (hk : ∀ args w, (callFunc k args).run Tryz.prog w = .ok (.enter k args) w) (hD : DoG k Fs.length D) (hG : GV w0) (hf2 : w0.heap[b2]? = some (.cells #[f] 361 (0, 0))) (hF : EvL w0 f Fs) (a : Nat) (E : EnvV) (Q : Nat → Prop) (hb : Below w0.heap.size w0 w) (hE : EnvR Q w a E) (hQ : ∀ b, Q b → b < w.heap.size) (hok : E.ok) :
    Calls Tryz.prog 290 #[.pointer (some ⟨a, 0, none⟩), .pointer (some ⟨b1, 0, none⟩), .pointer (some ⟨b2, 0, none⟩)] w (RetV Q w (fitV (D (Fs.map (· E))))) := by
  obtain ⟨k2, cap2, rfl, hk2, hcall2⟩ := (hF.below hb).calls
  have O1 := Ad.mk (hF.ok E hok)
  obtain ⟨vs, hvs⟩ : ∃ x, Fs.map (· E) = x := ⟨_, rfl⟩
  have hlen : vs.length = Fs.length := by rw [← hvs]; simp
  have hval : ∀ v ∈ vs, checkP v = 0 := by rw [← hvs]; intro v hv; obtain ⟨F, h1, rfl⟩ := List.mem_map.1 hv; exact O1.out F h1
  have hcall2' := fun w' h1 h2 h3 => hcall2 w' a E Q h1 h2 h3 hok
  simp only [hvs] at hcall2'
  rw [hvs]
  have C2 := Ad.mk hcall2'
  have HLEN := Ad.mk hlen
  have HVAL := Ad.mk hval
  have HD := Ad.mk hD
  have HG := Ad.mk (hG.below hb)
  have c1 := cell_below (below_alloc (Below.refl _ w) (.cells #[.int .i64 0, .int .i64 0, .string ⟨#[]⟩, .slice none 0 0] 42)) (blk_cell (blk_below hf1 hb) 2)
  have c2 := cell_below (below_alloc (Below.refl _ w) (.cells #[.int .i64 0, .int .i64 0, .string ⟨#[]⟩, .slice none 0 0] 42)) (blk_cell (blk_below hf2 hb) 0)
  have l1 := blk_lt (blk_below hf1 hb)
  have l2 := blk_lt (blk_below hf2 hb)
  have n1 : ¬ b1 = w.heap.size := by omega
  have n2 : ¬ b2 = w.heap.size := by omega
  have m1 : ¬ w.heap.size = b1 := by omega
  have m2 : ¬ w.heap.size = b2 := by omega
  have HE := Ad.mk hE
  have HQ := Ad.mk hQ
  have HBX := Ad.mk (blk_new w (.cells #[.int .i64 0, .int .i64 0, .string ⟨#[]⟩, .slice none 0 0] 42))
  clear hf1 hf2 hF hcall2 hb hE hQ hvs hcall2' hlen hval hD hG O1
  go_enter Tryz.func290, Tryz.ntmps290
  go_wp2_with fail
  have t1 : ((w.alloc (.cells #[.int .i64 0, .int .i64 0, .string ⟨#[]⟩, .slice none 0 0] 42)).drew).cell? ⟨b1, 2, none⟩ = some (.func (.func k) #[] #[]) := c1
  have t2 : ((w.alloc (.cells #[.int .i64 0, .int .i64 0, .string ⟨#[]⟩, .slice none 0 0] 42)).drew).cell? ⟨b2, 0, none⟩ = some (.func (.func k2) #[] cap2) := c2
  have x0 : Ad (((w.alloc (.cells #[.int .i64 0, .int .i64 0, .string ⟨#[]⟩, .slice none 0 0] 42)).drew).heap[w.heap.size]? = some (.cells #[.int .i64 0, .int .i64 0, .string ⟨#[]⟩, .slice none 0 0] 42 (0, 0))) := ⟨HBX.out⟩
  have y0 : w.heap.size + 1 ≤ ((w.alloc (.cells #[.int .i64 0, .int .i64 0, .string ⟨#[]⟩, .slice none 0 0] 42)).drew).heap.size := by simp
  clear c1 c2
  go_region_held3 (fun w' => w'.cell? ⟨b1, 2, none⟩ = some (.func (.func k) #[] #[]) ∧ w'.cell? ⟨b2, 0, none⟩ = some (.func (.func k2) #[] cap2)) (first | (with_reducible exact ⟨t1, t2⟩) | go_keep)
    (first
    | ((with_reducible refine (C2.out _ (below_alloc (Below.refl _ _) _).drew (HE.out.below (below_alloc (Below.refl _ _) _).drew) (fun b h => by have := HQ.out b h; simp; omega)).mono ?_); rintro e1 w1 ⟨A1, d1, rfl, ha1, hb1⟩; have HB1 := Ad.mk hb1; replace t1 := cell_below hb1 t1; replace t2 := cell_below hb1 t2; replace x0 := Ad.mk (blk_below x0.out hb1); replace y0 := Nat.le_trans y0 hb1.size; have HA1 := Ad.mk ha1; clear ha1 hb1)
    | ((with_reducible refine (HD.out.calls _ A1 d1 vs (fun b => (Q b ∨ w.heap.size + 1 ≤ b) ∧ b < w1.heap.size) (HG.out.below (below_then (below_alloc (Below.refl _ _) _).drew HB1.out)) HLEN.out (HA1.out.weak fun b hb hq => ⟨hq.imp_right (by simp), hb⟩) (fun b h => h.2) HVAL.out).mono ?_); rintro e2 w2 ⟨A2, d2, rfl, ha2, hb2⟩; have y1 : w.heap.size + 1 ≤ w1.heap.size := y0; have HB2 := Ad.mk hb2; replace t1 := cell_below hb2 t1; replace t2 := cell_below hb2 t2; replace x0 := Ad.mk (blk_below x0.out hb2); replace y0 := Nat.le_trans y0 hb2.size; have HA2 := Ad.mk ha2; clear ha2 hb2)
    | (go_at_call 252; refine (fit_calls (fun b => (Q b ∨ w.heap.size + 1 ≤ b) ∧ b < w2.heap.size) A2 d2 (D vs) _ (HA2.out.weak fun b hb hq => by rcases hq with hq | hq; exact ⟨hq.1, hb⟩; exact ⟨.inr (by omega), hb⟩) (fun b h => h.2)).mono ?_; rintro e3 w3 ⟨A3, d3, rfl, ha3, hb3⟩; have y2 : w.heap.size + 1 ≤ w2.heap.size := y0; have HB3 := Ad.mk hb3; replace t1 := cell_below hb3 t1; replace t2 := cell_below hb3 t2; replace x0 := Ad.mk (blk_below x0.out hb3); replace y0 := Nat.le_trans y0 hb3.size; have HA3 := Ad.mk ha3; clear ha3 hb3; have s0 := blk_cell x0.out 0; have s1 := blk_cell x0.out 1; have s2 := blk_cell x0.out 2; have s3 := blk_cell x0.out 3; have sf := (fun j => blk_frozen x0.out j); have q4 := blk_lt x0.out))
  go_wp2_with fail
  have HZ := below_then (below_then (below_then (Below.refl _ _).drew HB1.out) HB2.out) HB3.out
  exact RetV.fin HA3.out rfl rfl rfl x0.out rfl (below_then (below_alloc (Below.refl _ _) _) HZ) (Nat.le_refl _) (fun x hx hq => by rcases hq with ⟨hq | hq, _⟩ | hq; exact ⟨.inl hq, by have := HQ.out x hq; omega⟩; exact ⟨.inr (by omega), by omega⟩; exact ⟨.inr (by omega), by omega⟩)
end Go.Proofs.YtahnelihohmjfaaGreatDoor.V
