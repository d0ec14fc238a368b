/- A part of the walk (V0, V1, V2, V5, V6, V7, V8, V9, V10, V11, V3, V4). -/
import Derived.Test.YtahnelihohmjfaaGreatDoorProg
import Derived.WalkKit
import Derived.WalkLawsBesides
import Derived.WalkSpells
import Derived.BigGuardPart
import Derived.BigQuiet
import Derived.Deep.QuietTactic
import Derived.Deep.RegionHeld3
import Derived.Deep.LoopGhost
import Derived.Deep.DeepFit
namespace Go.Proofs.YtahnelihohmjfaaGreatDoor.V
open Go.RowKit
set_option linter.unusedVariables false
set_option linter.unusedSimpArgs false

/-! ### words on the world -/
/-- a fact kept from the walk -/
structure Ad (p : Prop) : Prop where mk ::
  out : p
theorem add_plain (g j : Nat) : (⟨g, 0, none⟩ : Addr).add j = ⟨g, j, none⟩ := by unfold Addr.add; split <;> simp_all
theorem add_field (ad : Addr) (m j : Nat) (hj : 0 < j) : ad.add (m + j) = ⟨(ad.add m).block, (ad.add m).off + j, none⟩ := by
  unfold Addr.add
  by_cases hm : m = 0
  · subst hm
    simp [Nat.ne_of_gt hj]
  · simp [hm, Nat.add_assoc]
theorem add_block (ad : Addr) (m : Nat) : (ad.add m).block = ad.block := by unfold Addr.add; split <;> rfl
section
variable {w W : World} {g : Nat} {t : TypeId} {cs cs' : Array Value} {o : Obj}
theorem blk_lt (h : w.heap[g]? = some o) : g < w.heap.size := (Array.getElem?_eq_some_iff.1 h).1
theorem blk_cell (h : w.heap[g]? = some (.cells cs t (0, 0))) (i : Nat) : w.cell? ⟨g, i, none⟩ = cs[i]? := by simp [World.cell?, h]
theorem blk_frozen (h : w.heap[g]? = some (.cells cs t (0, 0))) (i : Nat) : w.frozen? ⟨g, i, none⟩ = false := by simp [World.frozen?, h]
theorem blk_alloc (h : w.heap[g]? = some o) (o' : Obj) : (w.alloc o').heap[g]? = some o := (Below.heap_alloc w o' g (blk_lt h)).trans h
theorem blk_new (w : World) (o : Obj) : (w.alloc o).heap[w.heap.size]? = some o := by
  show (w.heap.push o)[w.heap.size]? = _
  simp
theorem blk_new2 {w : World} {o : Obj} {g : Nat} (h : w.heap.size = g) : (w.alloc o).heap[g]? = some o := h ▸ blk_new w o
theorem blk_put (h : w.heap[g]? = some (.cells cs t (0, 0))) (i : Nat) (u : Value) (e : cs.setIfInBounds i u = cs') : (w.setCell ⟨g, i, none⟩ u).heap[g]? = some (.cells cs' t (0, 0)) := by
  subst e
  simp only [World.setCell, Array.getElem?_modify, if_pos, h]
  simp
theorem blk_far (h : w.heap[g]? = some o) {a : Addr} (hne : g ≠ a.block) (u : Value) : (w.setCell a u).heap[g]? = some o := (Below.heap_setCell w a u g hne).trans h
theorem blk_below (h : w.heap[g]? = some o) (hb : Below w.heap.size w W) : W.heap[g]? = some o := (hb.block g (blk_lt h)).trans h
end
theorem below_alloc {w W : World} (h : Below w.heap.size w W) (o : Obj) : Below w.heap.size w (W.alloc o) := h.alloc h.size o
theorem below_then {w w1 w2 : World} (h : Below w.heap.size w w1) (k : Below w1.heap.size w1 w2) : Below w.heap.size w w2 :=
  h.trans ⟨k.os, k.tape, k.output, k.size, fun i hi => k.block i (Nat.lt_of_lt_of_le hi h.size)⟩
theorem cell_below {w w1 : World} (h : Below w.heap.size w w1) {a : Addr} {v : Value} (hc : w.cell? a = some v) : w1.cell? a = some v := (h.cell (World.block_lt_of_cell? w a hc)).trans hc
/-- what the walk reads behind a call: old cells, old marks, the heap's size -/
theorem bcell {W w1 : World} (hb : Below W.heap.size W w1) : (∀ b o, b < W.heap.size → w1.cell? ⟨b, o, none⟩ = W.cell? ⟨b, o, none⟩) ∧ (∀ b o, b < W.heap.size → w1.frozen? ⟨b, o, none⟩ = W.frozen? ⟨b, o, none⟩) ∧ W.heap.size ≤ w1.heap.size ∧ Ad (Below W.heap.size W w1) :=
  ⟨fun b o h => hb.cell (p := ⟨b, o, none⟩) h, fun b o h => hb.frozen (p := ⟨b, o, none⟩) h, hb.size, ⟨hb⟩⟩
/-- only blocks of S are turned -/
structure Chg (w w' : World) (S : Nat → Prop) : Prop where
  os : w'.os = w.os
  tape : w'.tape = w.tape
  output : w'.output = w.output
  size : w.heap.size ≤ w'.heap.size
  block : ∀ i, i < w.heap.size → ¬ S i → w'.heap[i]? = w.heap[i]?
theorem Chg.refl (w : World) (S : Nat → Prop) : Chg w w S := ⟨rfl, rfl, rfl, Nat.le_refl _, fun _ _ _ => rfl⟩
theorem Chg.then_ {w w1 w2 : World} {S S2 : Nat → Prop} (h : Chg w w1 S) (k : Chg w1 w2 S2) (hs : ∀ q, q < w.heap.size → S2 q → S q) : Chg w w2 S :=
  ⟨k.os.trans h.os, k.tape.trans h.tape, k.output.trans h.output, Nat.le_trans h.size k.size, fun i hi hn => (k.block i (Nat.lt_of_lt_of_le hi h.size) (fun hq => hn (hs i hi hq))).trans (h.block i hi hn)⟩
theorem Chg.trans {w w1 w2 : World} {S : Nat → Prop} (h : Chg w w1 S) (k : Chg w1 w2 S) : Chg w w2 S := h.then_ k fun _ _ h => h
theorem Chg.of_below {w w1 : World} {S : Nat → Prop} (h : Below w.heap.size w w1) : Chg w w1 S := ⟨h.os, h.tape, h.output, h.size, fun i hi _ => h.block i hi⟩
theorem Chg.set {w w1 : World} {S : Nat → Prop} (h : Chg w w1 S) {g : Nat} (hg : S g) (j : Nat) (u : Value) : Chg w (w1.setCell ⟨g, j, none⟩ u) S :=
  ⟨h.os, h.tape, h.output, by simpa [World.setCell] using h.size, fun i hi hn => (Below.heap_setCell w1 ⟨g, j, none⟩ u i (fun he => hn (he ▸ hg))).trans (h.block i hi hn)⟩
theorem Chg.alloc {w w1 : World} {S : Nat → Prop} (h : Chg w w1 S) (o : Obj) : Chg w (w1.alloc o) S := h.trans (.of_below (below_alloc (Below.refl _ _) o))
theorem Chg.below {w w' : World} {S : Nat → Prop} (h : Chg w w' S) (hs : ∀ q, S q → w.heap.size ≤ q) : Below w.heap.size w w' :=
  ⟨h.os, h.tape, h.output, h.size, fun i hi => h.block i hi (fun hq => by have := hs i hq; omega)⟩
theorem below_chg {w W W' : World} {S : Nat → Prop} (h : Below w.heap.size w W) (hc : Chg W W' S) (hs : ∀ q, S q → w.heap.size ≤ q) : Below w.heap.size w W' :=
  ⟨hc.os.trans h.os, hc.tape.trans h.tape, hc.output.trans h.output, Nat.le_trans h.size hc.size, fun i hi => (hc.block i (Nat.lt_of_lt_of_le hi h.size) (fun hq => by have := hs i hq; omega)).trans (h.block i hi)⟩

/-! ### api.Value: a tree, and where it lies -/
def I64 (n : Int) : Prop := -9223372036854775808 ≤ n ∧ n ≤ 9223372036854775807
inductive Val where
  | mk (k n : Int) (s : ByteArray) (items : List Val)
def Val.k : Val → Int | .mk k _ _ _ => k
def Val.n : Val → Int | .mk _ n _ _ => n
def Val.s : Val → ByteArray | .mk _ _ s _ => s
def Val.items : Val → List Val | .mk _ _ _ l => l
def Val.none : Val := .mk 0 0 ⟨#[]⟩ []
/-- the tree reads so in these cells; its lists lie in blocks of Q -/
inductive VR (Q : Nat → Prop) (w : World) : Val → List Value → Prop
  | mk (k n : Int) (s : ByteArray) (items : List Val) (A : Option Addr) (c : Nat) (css : Nat → List Value) (hn : I64 n) (hs : s.size ≤ 140737488351232) (hl : items.length ≤ c) (hm : items.length ≤ 140737488355328)
      (hA : 0 < items.length → ∃ ad, A = some ad ∧ Q ad.block ∧ ∀ i j u, i < items.length → (css i)[j]? = some u → w.cell? (ad.add (i * 4 + j)) = some u)
      (h : ∀ i, i < items.length → VR Q w (items.getD i Val.none) (css i)) : VR Q w (.mk k n s items) [.int .i64 k, .int .i64 n, .string s, .slice A items.length c]
theorem VR.head {Q : Nat → Prop} {w : World} {v : Val} {cs : List Value} (h : VR Q w v cs) : ∃ k, cs[0]? = some (.int .i64 k) := by cases h; exact ⟨_, rfl⟩
theorem VR.chg {Q Q' : Nat → Prop} {w w' : World} {S : Nat → Prop} (hc : Chg w w' S) (hS : ∀ b, b < w.heap.size → Q b → ¬ S b) (hQ : ∀ b, b < w.heap.size → Q b → Q' b) {v : Val} {cs : List Value} (h : VR Q w v cs) : VR Q' w' v cs := by
  induction h with
  | mk k n s items A c css hn hs hl hm hA h0 ih =>
    refine .mk k n s items A c css hn hs hl hm (fun hp => ?_) ih
    obtain ⟨ad, e, hq, hc'⟩ := hA hp
    have hlt : ad.block < w.heap.size := by
      obtain ⟨k1, h1⟩ := (h0 0 hp).head
      have h2 := World.block_lt_of_cell? _ _ (hc' 0 0 _ hp h1)
      rwa [add_block] at h2
    refine ⟨ad, e, hQ _ hlt hq, fun i j u hi hj => ?_⟩
    have h1 := hc' i j u hi hj
    have h2 := hc.block (ad.add (i * 4 + j)).block (by rw [add_block]; exact hlt) (by rw [add_block]; exact hS _ hlt hq)
    exact (World.cell?_of_block (w := w) h2).trans h1
/-- a list of values reads so at an address -/
structure VL (Q : Nat → Prop) (w : World) (A : Option Addr) (c : Nat) (l : List Val) : Prop where mk ::
  out : l.length ≤ c ∧ l.length ≤ 140737488355328 ∧ ∃ css : Nat → List Value, (0 < l.length → ∃ ad, A = some ad ∧ Q ad.block ∧ ∀ i j u, i < l.length → (css i)[j]? = some u → w.cell? (ad.add (i * 4 + j)) = some u) ∧ ∀ i, i < l.length → VR Q w (l.getD i Val.none) (css i)
theorem VR.open {Q : Nat → Prop} {w : World} {v : Val} {cs : List Value} (h : VR Q w v cs) : ∃ A c, cs = [.int .i64 v.k, .int .i64 v.n, .string v.s, .slice A v.items.length c] ∧ VL Q w A c v.items ∧ I64 v.n ∧ v.s.size ≤ 140737488351232 := by
  cases h with
  | mk k n s items A c css hn hs hl hm hA h => exact ⟨A, c, rfl, ⟨hl, hm, css, hA, h⟩, hn, hs⟩
/-- a value, its list at A -/
structure VA (Q : Nat → Prop) (w : World) (A : Option Addr) (c : Nat) (v : Val) : Prop where
  l : VL Q w A c v.items
  n : I64 v.n
  s : v.s.size ≤ 140737488351232
section
variable {Q Q' : Nat → Prop} {w w' : World} {A : Option Addr} {c : Nat} {v : Val} {l : List Val}
theorem VA.vr (h : VA Q w A c v) : VR Q w v [.int .i64 v.k, .int .i64 v.n, .string v.s, .slice A v.items.length c] := by
  obtain ⟨h1, h2, css, h3, h4⟩ := h.l.out
  obtain ⟨k, n, s, l⟩ := v
  exact .mk k n s l A c css h.n h.s h1 h2 h3 h4
theorem VR.va (k n : Int) (s : ByteArray) (h : VR Q w (.mk k n s l) [.int .i64 k, .int .i64 n, .string s, .slice A l.length c]) : VL Q w A c l := by
  obtain ⟨A', c', e, h1, _⟩ := h.open
  have e' : Value.slice A l.length c = .slice A' l.length c' := by simpa [Val.items, Val.k, Val.n, Val.s] using e
  injection e' with e1 e2 e3
  subst e1 e3
  exact h1
theorem VL.chg {S : Nat → Prop} (hc : Chg w w' S) (hS : ∀ b, b < w.heap.size → Q b → ¬ S b) (hQ : ∀ b, b < w.heap.size → Q b → Q' b) (h : VL Q w A c l) : VL Q' w' A c l := by
  have h1 : VA Q w A c (.mk 0 0 ⟨#[]⟩ l) := ⟨h, by simp [I64, Val.n], by simp [Val.s, ByteArray.size]⟩
  exact VR.va 0 0 ⟨#[]⟩ (h1.vr.chg hc hS hQ)
theorem VL.below (hb : Below w.heap.size w w') (h : VL Q w A c l) : VL Q w' A c l := h.chg (Chg.of_below (S := fun _ => False) hb) (fun _ _ _ h => h) (fun _ _ h => h)
theorem VL.weak (h : VL Q w A c l) (hQ : ∀ b, b < w.heap.size → Q b → Q' b) : VL Q' w A c l := h.chg (Chg.refl w (fun _ => False)) (fun _ _ _ h => h) hQ
theorem VA.chg {S : Nat → Prop} (hc : Chg w w' S) (hS : ∀ b, b < w.heap.size → Q b → ¬ S b) (hQ : ∀ b, b < w.heap.size → Q b → Q' b) (h : VA Q w A c v) : VA Q' w' A c v := ⟨h.l.chg hc hS hQ, h.n, h.s⟩
theorem VA.below (hb : Below w.heap.size w w') (h : VA Q w A c v) : VA Q w' A c v := ⟨h.l.below hb, h.n, h.s⟩
theorem VA.weak (h : VA Q w A c v) (hQ : ∀ b, b < w.heap.size → Q b → Q' b) : VA Q' w A c v := ⟨h.l.weak hQ, h.n, h.s⟩
end
/-- one element of a list: its four cells -/
theorem VL.at {Q : Nat → Prop} {w : World} {A : Option Addr} {c : Nat} {l : List Val} (h : VL Q w A c l) (i : Nat) (hi : i < l.length) : ∃ ad B d, A = some ad ∧ w.cell? (ad.add (i * 4)) = some (.int .i64 (l.getD i Val.none).k) ∧
    w.cell? ⟨(ad.add (i * 4)).block, (ad.add (i * 4)).off + 1, none⟩ = some (.int .i64 (l.getD i Val.none).n) ∧ w.cell? ⟨(ad.add (i * 4)).block, (ad.add (i * 4)).off + 2, none⟩ = some (.string (l.getD i Val.none).s) ∧
    w.cell? ⟨(ad.add (i * 4)).block, (ad.add (i * 4)).off + 3, none⟩ = some (.slice B (l.getD i Val.none).items.length d) ∧ VA Q w B d (l.getD i Val.none) := by
  obtain ⟨h1, h2, css, h3, h4⟩ := h.out
  obtain ⟨ad, e, _, hc⟩ := h3 (by omega)
  obtain ⟨B, d, hcs, hv, hn, hs⟩ := (h4 i hi).open
  have g0 := hc i 0 _ hi (by rw [hcs]; rfl)
  have g1 := hc i 1 _ hi (by rw [hcs]; rfl)
  have g2 := hc i 2 _ hi (by rw [hcs]; rfl)
  have g3 := hc i 3 _ hi (by rw [hcs]; rfl)
  rw [add_field _ _ _ (by omega)] at g1 g2 g3
  exact ⟨ad, B, d, e, g0, g1, g2, g3, hv, hn, hs⟩
theorem sizeAt {l : List Val} {i : Nat} (hi : i < l.length) : SizeOf.sizeOf (l.getD i Val.none).items < SizeOf.sizeOf l := by
  have h1 : l.getD i Val.none ∈ l := by
    rw [List.getD_eq_getElem?_getD, List.getElem?_eq_getElem hi]
    exact List.getElem_mem hi
  have h2 := List.sizeOf_lt_of_mem h1
  have h3 : ∀ v : Val, SizeOf.sizeOf v.items < SizeOf.sizeOf v := fun v => by cases v; simp [Val.items]; omega
  have := h3 (l.getD i Val.none)
  omega
theorem dropAt {l : List Val} {i : Nat} (hi : i < l.length) : l.drop i = l.getD i Val.none :: l.drop (i + 1) := by
  rw [List.drop_eq_getElem_cons hi, List.getD_eq_getElem?_getD, List.getElem?_eq_getElem hi]
  rfl
theorem VL.nil (Q : Nat → Prop) (w : World) (A : Option Addr) (c : Nat) : VL Q w A c [] := ⟨Nat.zero_le _, Nat.zero_le _, fun _ => [], fun h => absurd h (by simp), fun i h => absurd h (by simp)⟩
theorem VA.none (Q : Nat → Prop) (w : World) (A : Option Addr) (c : Nat) : VA Q w A c Val.none := ⟨VL.nil Q w A c, by unfold I64 Val.none Val.n; decide, by decide⟩
/-- a list of ints reads so at an address -/
structure LI (w : World) (A : Option Addr) (c : Nat) (l : List Int) : Prop where
  c : l.length ≤ c
  m : l.length ≤ 140737488355328
  h : 0 < l.length → ∃ ad, A = some ad ∧ ∀ i, i < l.length → w.cell? (ad.add i) = some (.int .i64 (l.getD i 0)) ∧ I64 (l.getD i 0)
theorem LI.below {w w' : World} (hb : Below w.heap.size w w') {A : Option Addr} {c : Nat} {l : List Int} (h : LI w A c l) : LI w' A c l :=
  ⟨h.c, h.m, fun hp => let ⟨ad, e, hc⟩ := h.h hp; ⟨ad, e, fun i hi => ⟨cell_below hb (hc i hi).1, (hc i hi).2⟩⟩⟩
theorem LI.nil (w : World) (A : Option Addr) (c : Nat) : LI w A c [] := ⟨Nat.zero_le _, Nat.zero_le _, fun h => absurd h (by simp)⟩
/-! ### what calls come to -/
/-- r, and nothing that was there turned -/
def Ret (w : World) (r : Value) (e : Ending) (w' : World) : Prop := e = .returned r ∧ Below w.heap.size w w'
/-- a value, its lists in blocks of Q or new ones -/
def RetV (Q : Nat → Prop) (w : World) (v : Val) (e : Ending) (w' : World) : Prop := ∃ A c, e = .returned (.agg #[.int .i64 v.k, .int .i64 v.n, .string v.s, .slice A v.items.length c]) ∧ VA (fun b => Q b ∨ w.heap.size ≤ b) w' A c v ∧ Below w.heap.size w w'
end Go.Proofs.YtahnelihohmjfaaGreatDoor.V
namespace Go.Proofs.YtahnelihohmjfaaGreatDoor.V
open Go.RowKit
set_option linter.unusedVariables false
set_option linter.unusedSimpArgs false

/-! ### value.Check -/
/-- what the counter finds at one part, ahead of its items -/
def headE (p depth k n : Int) (s : ByteArray) (m : Nat) : Int :=
  if 12 < p then 22 else if k < 0 ∨ 3 < k then 20
  else if (n ≠ 0 ∧ k ≠ 1) ∨ (s.toList ≠ [] ∧ k ≠ 2) ∨ (0 < m ∧ k ≠ 3) then 20
  else if k = 3 ∧ 3 ≤ depth then 23 else if 24 < s.size then 21 else if 6 < m then 22 else 0
mutual
def partL (depth : Int) : Int → List Val → Int × Int
  | p, [] => (0, p)
  | p, v :: r => if (partV depth p v).1 = 0 then partL depth (partV depth p v).2 r else partV depth p v
def partV (depth : Int) : Int → Val → Int × Int
  | p, .mk k n s l => if headE (p + 1) depth k n s l.length = 0 then partL (depth + 1) (p + 1) l else (headE (p + 1) depth k n s l.length, p + 1)
end
def checkP (v : Val) : Int := (partV 0 0 v).1
def PCnt (w : World) (g : Nat) (x : Int) : Prop := w.heap[g]? = some (.cells #[.int .i64 x] 166 (0, 0))
def PartPost (w : World) (g : Nat) (r : Int × Int) (e : Ending) (w' : World) : Prop := e = .returned (.int .i64 r.1) ∧ PCnt w' g r.2 ∧ Chg w w' (fun q => q = g) ∧ 0 ≤ r.2 ∧ r.2 ≤ 13 ∧ (r.1 = 0 → r.2 ≤ 12)
theorem partL_cons (depth p : Int) (v : Val) (r : List Val) : partL depth p (v :: r) = if (partV depth p v).1 = 0 then partL depth (partV depth p v).2 r else partV depth p v := by rw [partL]
theorem partV_eq (depth p k n : Int) (s : ByteArray) (l : List Val) : partV depth p (.mk k n s l) = if headE (p + 1) depth k n s l.length = 0 then partL (depth + 1) (p + 1) l else (headE (p + 1) depth k n s l.length, p + 1) := by rw [partV]
def PLoop (w : World) (g : Nat) (l : List Val) (depth : Int) (R : Int × Int) (v79 : Value) (wr : World) : Prop :=
  ∃ (i : Nat) (y : Int), i ≤ l.length ∧ v79 = .int .i64 i ∧ PCnt wr g y ∧ Chg w wr (fun q => q = g) ∧ 0 ≤ y ∧ y ≤ 12 ∧ Ad (partL depth y (l.drop i) = R)
theorem part_fin {w W : World} {g : Nat} {p depth k n : Int} {s : ByteArray} {l : List Val} {r : Int} (hb : PCnt W g (p + 1)) (hc : Chg w W (fun q => q = g)) (hp0 : 0 ≤ p) (hp : p ≤ 12) (h : headE (p + 1) depth k n s l.length = r) (hr : r ≠ 0) :
    ∀ R, partV depth p (.mk k n s l) = R → PartPost w g R (.returned (.int .i64 r)) W := by
  rintro R rfl
  rw [partV_eq, h, if_neg hr]
  exact ⟨rfl, hb, hc, by show 0 ≤ p + 1; omega, by show p + 1 ≤ 13; omega, fun h => absurd h hr⟩
set_option maxHeartbeats 8000000 in
set_option maxRecDepth 100000 in
theorem part_calls : ∀ (N : Nat) (v : Val), SizeOf.sizeOf v.items ≤ N → ∀ (Q : Nat → Prop) (A : Option Addr) (c g : Nat) (p depth : Int) (w0 w : World), VL Q w0 A c v.items → Below w0.heap.size w0 w → w0.heap.size ≤ g → PCnt w g p → 0 ≤ p → p ≤ 12 → 0 ≤ depth → depth ≤ 100 →
    Calls Tryz.prog 71 #[.pointer (some ⟨g, 0, none⟩), .agg #[.int .i64 v.k, .int .i64 v.n, .string v.s, .slice A v.items.length c], .int .i64 depth] w (PartPost w g (partV depth p v)) := by
  intro N
  induction N with
  | zero =>
    intro v hN
    cases v with
    | mk k n s l => cases l <;> simp [Val.items] at hN
  | succ N ih =>
    intro v hN Q A c g p depth w0 w hl hB hg hb hp0 hp hd0 hd
    obtain ⟨k, n, s, l⟩ := v
    simp only [Val.k, Val.n, Val.s, Val.items] at hl hN ⊢
    obtain ⟨R, hR⟩ : ∃ R, partV depth p (.mk k n s l) = R := ⟨_, rfl⟩
    rw [hR]
    have HR := Ad.mk hR
    have HL := Ad.mk hl
    have hlm := hl.out.2.1
    have IH := Ad.mk ih
    have HN := Ad.mk hN
    have hb1 := fun o => blk_alloc hb o
    have c0 := fun o => blk_cell (hb1 o) 0
    have f0 := fun o => blk_frozen (hb1 o) 0
    have hgl := blk_lt hb
    have hne : g ≠ w.heap.size := by omega
    have hne2 : w.heap.size ≠ g := by omega
    have hb2 : ∀ o, PCnt ((w.setCell ⟨g, 0, none⟩ (.int .i64 (p + 1))).alloc o) g (p + 1) := fun o => blk_alloc (blk_put hb 0 _ rfl) o
    have c2 := fun o => blk_cell (hb2 o) 0
    have HB2 := Ad.mk (hb2)
    have HC2 : Ad (∀ o, Chg w ((w.setCell ⟨g, 0, none⟩ (.int .i64 (p + 1))).alloc o) (fun q => q = g)) := ⟨fun o => ((Chg.refl w _).set (S := fun q => q = g) rfl 0 _).alloc o⟩
    have HW := Ad.mk hB
    have HG := Ad.mk hg
    clear hb hl hB hg ih hN hb1 hb2 hR
    go_enter Tryz.func71, Tryz.ntmps71
    go_wp2_with fail
    all_goals first
      | (go_ret; exact part_fin (HB2.out _) (HC2.out _) hp0 hp (by unfold headE; simp_all <;> omega) (by decide) R HR.out)
      | skip
    all_goals
      have hE : headE (p + 1) depth k n s l.length = 0 := by unfold headE; simp_all <;> omega
      have hL : Ad (partL (depth + 1) (p + 1) l = R) := ⟨by have h := HR.out; rw [partV_eq, hE, if_pos rfl] at h; exact h⟩
      have hl6 : l.length ≤ 6 := by omega
      have hp11 : p + 1 ≤ 12 := by omega
      have hdd : depth < 3 ∨ l.length = 0 := by by_cases hq : 0 < l.length <;> simp_all <;> omega
      clear hE c0 f0 c2
      go_loopw [79] (fun v79 wr => PLoop w g l (depth + 1) R v79 wr) (fun v79 _ => l.length - (intOf v79).toNat)
      case atStart => exact ⟨0, p + 1, Nat.zero_le _, rfl, HB2.out _, HC2.out _, by omega, by omega, ⟨hL.out⟩⟩
      case round =>
        obtain ⟨i, y, hi, rfl, hb2, hc2, hy1, hy2, HE⟩ := hrel
        have HBW := Ad.mk (below_chg HW.out hc2 (fun q hq => hq ▸ HG.out))
        have HC3 := Ad.mk hc2
        have HB3 := Ad.mk hb2
        clear hc2 hb2
        by_cases hlt : i < l.length
        · first
          | (exfalso; omega)
          | (exfalso; clear IH HL HB2 HW HG HC2 HBW HC3 HB3; simp_all; done)
          |
            (obtain ⟨ad, B, d, rfl, g0, g1, g2, g3, hv⟩ := VL.at HL.out i hlt
             have hsz := sizeAt hlt
             have g0 := cell_below HBW.out g0
             have g1 := cell_below HBW.out g1
             have g2 := cell_below HBW.out g2
             have g3 := cell_below HBW.out g3
             have HV := Ad.mk hv.l
             have hd3 : depth < 3 := by omega
             have HS : Ad (SizeOf.sizeOf (l.getD i Val.none).items ≤ N) := ⟨by have := HN.out; omega⟩
             have HNX := HE.out
             rw [dropAt hlt, partL_cons] at HNX
             obtain ⟨q, hq⟩ : ∃ q, l.getD i Val.none = q := ⟨_, rfl⟩
             rw [hq] at HNX HS HV g0 g1 g2 g3
             have HNX := Ad.mk HNX
             clear hv hsz HE hq hdd
             go_wp2_with (go_at_call 71; refine (IH.out q HS.out Q B d g y (depth + 1) w0 _ HV.out (below_alloc HBW.out _) HG.out (blk_alloc HB3.out _) (by omega) (by omega) (by omega) (by omega)).mono ?_; rintro e5 w5 ⟨rfl, hb5, hc5, hy5, hy6, hy7⟩)
             · go_ret
               have hx : R = partV (depth + 1) y q := by have h := HNX.out; rw [if_neg (by simp_all)] at h; exact h.symm
               rw [hx]
               exact ⟨rfl, hb5, (HC3.out.alloc _).trans hc5, hy5, hy6, hy7⟩
             · go_roundw
               case rel => exact ⟨i + 1, _, by omega, by go_num, hb5, (HC3.out.alloc _).trans hc5, hy5, hy7 (by simp_all), ⟨by have h := HNX.out; rw [if_pos (by simp_all)] at h; exact h⟩⟩
               case measure => simp [intOf]; omega)
        · go_wp2_with fail
          go_ret
          have hx : R = (0, y) := by rw [← HE.out, List.drop_eq_nil_of_le (by omega), partL]
          rw [hx]
          exact ⟨rfl, HB3.out, HC3.out, hy1, by show y ≤ 13; omega, fun _ => hy2⟩
end Go.Proofs.YtahnelihohmjfaaGreatDoor.V
namespace Go.Proofs.YtahnelihohmjfaaGreatDoor.V
open Go.RowKit
set_option linter.unusedVariables false
set_option linter.unusedSimpArgs false
set_option maxHeartbeats 2000000 in
theorem check_calls (Q : Nat → Prop) (v : Val) (A : Option Addr) (c : Nat) (w : World) (hl : VL Q w A c v.items) :
    Calls Tryz.prog 46 #[.agg #[.int .i64 v.k, .int .i64 v.n, .string v.s, .slice A v.items.length c]] w (Ret w (.int .i64 (checkP v))) := by
  have HL := Ad.mk hl
  have HR : Ad ((partV 0 0 v).1 = checkP v) := ⟨rfl⟩
  clear hl
  go_enter Tryz.func46, Tryz.ntmps46
  go_wp2_with (go_at_call 71; refine (part_calls _ v (Nat.le_refl _) Q A c _ 0 0 w _ HL.out (below_alloc (below_alloc (Below.refl _ _) _) _) (by omega) (blk_new2 (by simp)) (by omega) (by omega) (by omega) (by omega)).mono ?_; rintro e5 w5 ⟨rfl, hb5, hc5, hy5, hy6, hy7⟩)
  go_ret
  rw [HR.out]
  exact ⟨rfl, below_chg (below_alloc (below_alloc (Below.refl _ _) _) _) hc5 (fun q hq => by omega)⟩
def ckR (key : ByteArray) (v : Val) (ls : List Int) : Int := if 12 < key.size then 24 else if checkP v ≠ 0 then checkP v else if 3 < ls.length then 25 else if (ls.all fun n => decide (0 ≤ n ∧ n ≤ 9)) = true then 0 else 25
def CKLoop (w : World) (ls : List Int) (v23 : Value) (wr : World) : Prop := ∃ i : Nat, i ≤ ls.length ∧ v23 = .int .i64 i ∧ Below w.heap.size w wr ∧ Ad ((ls.take i).all (fun n => decide (0 ≤ n ∧ n ≤ 9)) = true)
theorem all_drop {ls : List Int} {i : Nat} (hi : i < ls.length) (p : Int → Bool) : (ls.take (i + 1)).all p = ((ls.take i).all p && p (ls.getD i 0)) := by
  rw [List.take_succ_eq_append_getElem hi, List.all_append, List.getD_eq_getElem?_getD, List.getElem?_eq_getElem hi]; simp
theorem all_no {ls : List Int} {i : Nat} (hi : i < ls.length) (p : Int → Bool) (h : p (ls.getD i 0) = false) : ¬ ls.all p = true := by
  intro hh
  rw [List.all_eq_true] at hh
  have h1 := hh _ (List.getElem_mem hi)
  rw [List.getD_eq_getElem?_getD, List.getElem?_eq_getElem hi] at h
  simp_all
set_option maxHeartbeats 4000000 in
set_option maxRecDepth 100000 in
theorem checkRecord_calls (Q : Nat → Prop) (key : ByteArray) (v : Val) (ls : List Int) (A B : Option Addr) (c d : Nat) (w : World) (hl : VL Q w A c v.items) (hi : LI w B d ls) :
    Calls Tryz.prog 14 #[.agg #[.string key, .int .i64 v.k, .int .i64 v.n, .string v.s, .slice A v.items.length c, .slice B ls.length d]] w (Ret w (.int .i64 (ckR key v ls))) := by
  have HL := Ad.mk hl
  have HI := Ad.mk hi
  have hm := hi.m
  obtain ⟨R, hR⟩ : ∃ R, ckR key v ls = R := ⟨_, rfl⟩
  rw [hR]
  have HR := Ad.mk hR
  clear hl hi hR
  go_enter Tryz.func14, Tryz.ntmps14
  go_wp2_with (go_at_call 46; refine (check_calls Q v A c _ (HL.out.below (below_alloc (Below.refl _ _) _))).mono ?_; rintro e1 w1 ⟨rfl, hb1⟩; obtain ⟨k1, z1, y1, HB1⟩ := bcell hb1; clear hb1)
  · go_ret
    have hx : R = 24 := by rw [← HR.out]; unfold ckR; rw [if_pos (by omega)]
    rw [hx]
    exact ⟨rfl, below_alloc (Below.refl _ _) _⟩
  · go_ret
    have hx : R = checkP v := by rw [← HR.out]; unfold ckR; rw [if_neg (by omega), if_pos (by simp_all)]
    rw [hx]
    exact ⟨rfl, below_then (below_alloc (Below.refl _ _) _) HB1.out⟩
  · go_ret
    have hx : R = 25 := by rw [← HR.out]; unfold ckR; rw [if_neg (by omega), if_neg (by simp_all), if_pos (by omega)]
    rw [hx]
    exact ⟨rfl, below_then (below_alloc (Below.refl _ _) _) HB1.out⟩
  · have HX : Ad (R = if (ls.all fun n => decide (0 ≤ n ∧ n ≤ 9)) = true then 0 else 25) := ⟨by rw [← HR.out]; unfold ckR; rw [if_neg (by omega), if_neg (by simp_all), if_neg (by omega)]⟩
    go_loop [23] (fun v23 => ∃ i : Nat, i ≤ ls.length ∧ v23 = .int .i64 i ∧ Ad ((ls.take i).all (fun n => decide (0 ≤ n ∧ n ≤ 9)) = true)) (fun v23 => ls.length - (intOf v23).toNat)
    case atStart => exact ⟨0, Nat.zero_le _, rfl, ⟨by simp⟩⟩
    case round =>
      obtain ⟨i, hi, rfl, HE⟩ := hrel
      by_cases hlt : i < ls.length
      · obtain ⟨ad, rfl, hc⟩ := HI.out.h (by omega)
        have g0 := (HB1.out.cell (World.block_lt_of_cell? _ _ (cell_below (below_alloc (Below.refl _ _) _) (hc i hlt).1))).trans (cell_below (below_alloc (Below.refl _ _) _) (hc i hlt).1)
        obtain ⟨q, hq⟩ : ∃ q, ls.getD i 0 = q := ⟨_, rfl⟩
        have hall := all_drop hlt (fun n => decide (0 ≤ n ∧ n ≤ 9))
        have hno := all_no hlt (fun n => decide (0 ≤ n ∧ n ≤ 9))
        rw [hq] at g0 hall hno
        have H1 := Ad.mk hall
        have H2 := Ad.mk hno
        clear hall hno hq hc
        go_wp2_with fail
        · go_ret
          have hx : R = 25 := by rw [HX.out, if_neg (H2.out (by simp; omega))]
          rw [hx]
          exact ⟨rfl, below_then (below_alloc (Below.refl _ _) _) HB1.out⟩
        · go_ret
          have hx : R = 25 := by rw [HX.out, if_neg (H2.out (by simp; omega))]
          rw [hx]
          exact ⟨rfl, below_then (below_alloc (Below.refl _ _) _) HB1.out⟩
        · go_round
          case rel => exact ⟨i + 1, by omega, by go_num, ⟨by rw [H1.out, HE.out]; simp; omega⟩⟩
          case measure => simp [intOf]; omega
      · go_wp2_with fail
        go_ret
        have hx : R = 0 := by rw [HX.out, if_pos (by have := HE.out; rwa [List.take_of_length_le (by omega)] at this)]
        rw [hx]
        exact ⟨rfl, below_then (below_alloc (Below.refl _ _) _) HB1.out⟩
end Go.Proofs.YtahnelihohmjfaaGreatDoor.V
namespace Go.Proofs.YtahnelihohmjfaaGreatDoor.V
open Go.RowKit
set_option linter.unusedVariables false
set_option linter.unusedSimpArgs false
/-! ### values that are made -/
def Val.int (n : Int) : Val := .mk 1 n ⟨#[]⟩ []
def Val.text (s : ByteArray) : Val := .mk 2 0 s []
def Val.list (l : List Val) : Val := .mk 3 0 ⟨#[]⟩ l
def Val.bool (b : Bool) : Val := .int (if b then 1 else 0)
def truthV (v : Val) : Bool := if v.k = 1 then v.n != 0 else if v.k = 2 then !v.s.toList.isEmpty else if v.k = 3 then decide (0 < v.items.length) else false
def fitV (v : Val) : Val := if checkP v = 0 then v else Val.none
theorem VA.int (Q : Nat → Prop) (w : World) (n : Int) (h : I64 n) : VA Q w Option.none 0 (Val.int n) := ⟨VL.nil _ _ _ _, h, by simp [Val.int, Val.s, ByteArray.size]⟩
theorem VA.text (Q : Nat → Prop) (w : World) (s : ByteArray) (h : s.size ≤ 140737488351232) : VA Q w Option.none 0 (Val.text s) := ⟨VL.nil _ _ _ _, by simp [Val.text, Val.n, I64], h⟩
theorem VA.list {Q : Nat → Prop} {w : World} {A : Option Addr} {c : Nat} {l : List Val} (h : VL Q w A c l) : VA Q w A c (Val.list l) := ⟨h, by simp [Val.list, Val.n, I64], by simp [Val.list, Val.s, ByteArray.size]⟩
theorem i64_bit (b : Bool) : I64 (if b then 1 else 0) := by cases b <;> simp [I64]
/-- a result that was stored into its variable behind a call -/
theorem RetV.fin {Q Q1 : Nat → Prop} {w w1 : World} {b t : Nat} {v : Val} {A : Option Addr} {c : Nat} {cs : Array Value} {fn : Func} {a : Act} (hva : VA Q1 w1 A c v) (hfn : fn.results = #[.cell t 42]) (ha : a.tmps.getD t undef = .pointer (some ⟨b, 0, Option.none⟩)) (hd : a.defers = [])
    (hblk : w1.heap[b]? = some (.cells cs 42 (0, 0))) (h4 : cs.size = 4) (hb : Below w.heap.size w w1) (hwb : w.heap.size ≤ b) (hQ : ∀ x, x < w1.heap.size → Q1 x → (Q x ∨ w.heap.size ≤ x) ∧ x ≠ b) :
    bodyPost Tryz.prog fn (RetV Q w v) .ret a ((((w1.setCell ⟨b, 0, Option.none⟩ (.int .i64 v.k)).setCell ⟨b, 1, Option.none⟩ (.int .i64 v.n)).setCell ⟨b, 2, Option.none⟩ (.string v.s)).setCell ⟨b, 3, Option.none⟩ (.slice A v.items.length c)) := by
  have e1 := blk_put hblk 0 (.int .i64 v.k) rfl
  have e2 := blk_put e1 1 (.int .i64 v.n) rfl
  have e3 := blk_put e2 2 (.string v.s) rfl
  have e4 := blk_put e3 3 (.slice A v.items.length c) rfl
  obtain ⟨cs⟩ := cs
  obtain ⟨c0, c1, c2, c3, rfl⟩ : ∃ c0 c1 c2 c3, cs = [c0, c1, c2, c3] := by
    match cs, h4 with
    | [c0, c1, c2, c3], _ => exact ⟨c0, c1, c2, c3, rfl⟩
  have hc := ((((Chg.refl w1 (fun q => q = b)).set rfl 0 (.int .i64 v.k)).set rfl 1 (.int .i64 v.n)).set rfl 2 (.string v.s)).set rfl 3 (.slice A v.items.length c)
  generalize ((((w1.setCell ⟨b, 0, Option.none⟩ (.int .i64 v.k)).setCell ⟨b, 1, Option.none⟩ (.int .i64 v.n)).setCell ⟨b, 2, Option.none⟩ (.string v.s)).setCell ⟨b, 3, Option.none⟩ (.slice A v.items.length c)) = W at *
  have g0 := blk_cell e4 0
  have g1 := blk_cell e4 1
  have g2 := blk_cell e4 2
  have g3 := blk_cell e4 3
  simp at g0 g1 g2 g3
  refine ⟨hd, .agg #[.int .i64 v.k, .int .i64 v.n, .string v.s, .slice A v.items.length c], ?_, ?_⟩
  · rw [Array.getD_eq_getD_getElem?] at ha
    simp [results, hfn, ha, go_sem, g0, g1, g2, g3]
  · exact ⟨A, c, rfl, hva.chg hc (fun x hx hq => (hQ x hx hq).2) (fun x hx hq => (hQ x hx hq).1), below_chg hb hc (fun q hq => by omega)⟩
set_option maxHeartbeats 1000000 in
theorem ofInt_calls (Q : Nat → Prop) (n : Int) (w : World) (h : I64 n) : Calls Tryz.prog 177 #[.int .i64 n] w (RetV Q w (Val.int n)) := by
  have H := Ad.mk h
  clear h
  go_enter Tryz.func177, Tryz.ntmps177
  go_wp2_with fail
  refine ⟨rfl, .agg #[.int .i64 1, .int .i64 n, .string ⟨#[]⟩, .slice none 0 0], by simp [results, Tryz.results177, go_sem], ?_⟩
  exact ⟨_, _, rfl, VA.int _ _ n H.out, below_alloc (Below.refl _ _) _⟩
set_option maxHeartbeats 1000000 in
theorem ofText_calls (Q : Nat → Prop) (s : ByteArray) (w : World) (h : s.size ≤ 140737488351232) : Calls Tryz.prog 88 #[.string s] w (RetV Q w (Val.text s)) := by
  have H := Ad.mk h
  clear h
  go_enter Tryz.func88, Tryz.ntmps88
  go_wp2_with fail
  refine ⟨rfl, .agg #[.int .i64 2, .int .i64 0, .string s, .slice none 0 0], by simp [results, Tryz.results88, go_sem], ?_⟩
  exact ⟨_, _, rfl, VA.text _ _ s H.out, below_alloc (Below.refl _ _) _⟩
set_option maxHeartbeats 1000000 in
theorem ofList_calls (Q : Nat → Prop) (A : Option Addr) (c : Nat) (l : List Val) (w : World) (h : VL Q w A c l) : Calls Tryz.prog 183 #[.slice A l.length c] w (RetV Q w (Val.list l)) := by
  have H := Ad.mk h
  clear h
  go_enter Tryz.func183, Tryz.ntmps183
  go_wp2_with fail
  refine ⟨rfl, .agg #[.int .i64 3, .int .i64 0, .string ⟨#[]⟩, .slice A l.length c], by simp [results, Tryz.results183, go_sem], ?_⟩
  exact ⟨A, c, rfl, VA.list ((H.out.below (below_alloc (Below.refl _ _) _)).weak fun _ _ h => .inl h), below_alloc (Below.refl _ _) _⟩
set_option maxHeartbeats 1000000 in
theorem ofBool_calls (Q : Nat → Prop) (b : Bool) (w : World) : Calls Tryz.prog 188 #[.bool b] w (RetV Q w (Val.bool b)) := by
  cases b
  all_goals
    go_enter Tryz.func188, Tryz.ntmps188
    go_wp2_with (go_at_call 177; refine (ofInt_calls (fun _ => False) _ _ (by simp [I64])).mono ?_; rintro e1 w1 ⟨A, c, rfl, ha, hb⟩; obtain ⟨k1, z1, y1, HB⟩ := bcell hb; have HA := Ad.mk ha; clear ha hb)
    exact RetV.fin HA.out rfl rfl rfl (blk_below (blk_new2 (by simp)) HB.out) rfl (below_then (below_alloc (Below.refl _ _) _) HB.out) (Nat.le_refl _) (fun x hx hq => by simp at hq; omega)
end Go.Proofs.YtahnelihohmjfaaGreatDoor.V
namespace Go.Proofs.YtahnelihohmjfaaGreatDoor.V
open Go.RowKit
set_option linter.unusedVariables false
set_option linter.unusedSimpArgs false
set_option maxHeartbeats 2000000 in
theorem truth_calls (A : Option Addr) (c : Nat) (v : Val) (w : World) : Calls Tryz.prog 261 #[.agg #[.int .i64 v.k, .int .i64 v.n, .string v.s, .slice A v.items.length c]] w (Ret w (.bool (truthV v))) := by
  obtain ⟨R, hR⟩ : ∃ R, truthV v = R := ⟨_, rfl⟩
  rw [hR]
  have HR := Ad.mk hR
  obtain ⟨k, n, s, l⟩ := v
  simp only [Val.k, Val.n, Val.s, Val.items]
  clear hR
  go_enter Tryz.func261, Tryz.ntmps261
  go_wp2_with fail
  all_goals
    go_ret
    refine ⟨?_, below_alloc (Below.refl _ _) _⟩
    rw [← HR.out]
    simp_all [truthV, Val.k, Val.n, Val.s, Val.items] <;> exact decide_eq_decide.2 (by omega)
set_option maxHeartbeats 2000000 in
theorem fit_calls (Q : Nat → Prop) (A : Option Addr) (c : Nat) (v : Val) (w : World) (h : VA Q w A c v) (hq : ∀ b, Q b → b < w.heap.size) : Calls Tryz.prog 252 #[.agg #[.int .i64 v.k, .int .i64 v.n, .string v.s, .slice A v.items.length c]] w (RetV Q w (fitV v)) := by
  have H := Ad.mk h
  have HQ := Ad.mk hq
  clear h hq
  go_enter Tryz.func252, Tryz.ntmps252
  go_wp2_with (go_at_call 46; refine (check_calls Q v A c _ (H.out.l.below (below_alloc (below_alloc (Below.refl _ _) _) _))).mono ?_; rintro e1 w1 ⟨rfl, hb1⟩; obtain ⟨k1, z1, y1, HB⟩ := bcell hb1; clear hb1)
  · have hv : fitV v = Val.none := by unfold fitV; rw [if_neg (by simp_all)]
    rw [hv]
    exact RetV.fin (VA.none (fun _ => False) _ Option.none 0) rfl rfl rfl (blk_below (blk_new2 (by simp)) HB.out) rfl (below_then (below_alloc (below_alloc (Below.refl _ _) _) _) HB.out) (by omega) (fun x hx hq => hq.elim)
  · have hv : fitV v = v := by unfold fitV; rw [if_pos (by simp_all)]
    rw [hv]
    exact RetV.fin (H.out.below (below_then (below_alloc (below_alloc (Below.refl _ _) _) _) HB.out)) rfl rfl rfl (blk_below (blk_new2 (by simp)) HB.out) rfl (below_then (below_alloc (below_alloc (Below.refl _ _) _) _) HB.out) (by omega) (fun x hx hq => ⟨.inl hq, by have := HQ.out x hq; omega⟩)
set_option maxHeartbeats 2000000 in
theorem valid_calls (Q : Nat → Prop) (A : Option Addr) (c : Nat) (v : Val) (w : World) (h : VA Q w A c v) (hq : ∀ b, Q b → b < w.heap.size) : Calls Tryz.prog 102 #[.agg #[.int .i64 v.k, .int .i64 v.n, .string v.s, .slice A v.items.length c]] w (RetV Q w (fitV v)) := by
  have H := Ad.mk h
  have HQ := Ad.mk hq
  clear h hq
  go_enter Tryz.func102, Tryz.ntmps102
  go_wp2_with (go_at_call 46; refine (check_calls Q v A c _ (H.out.l.below (below_alloc (below_alloc (Below.refl _ _) _) _))).mono ?_; rintro e1 w1 ⟨rfl, hb1⟩; obtain ⟨k1, z1, y1, HB⟩ := bcell hb1; clear hb1)
  · have hv : fitV v = Val.none := by unfold fitV; rw [if_neg (by simp_all)]
    rw [hv]
    exact RetV.fin (VA.none (fun _ => False) _ Option.none 0) rfl rfl rfl (blk_below (blk_new2 (by simp)) HB.out) rfl (below_then (below_alloc (below_alloc (Below.refl _ _) _) _) HB.out) (by omega) (fun x hx hq => hq.elim)
  · have hv : fitV v = v := by unfold fitV; rw [if_pos (by simp_all)]
    rw [hv]
    exact RetV.fin (H.out.below (below_then (below_alloc (below_alloc (Below.refl _ _) _) _) HB.out)) rfl rfl rfl (blk_below (blk_new2 (by simp)) HB.out) rfl (below_then (below_alloc (below_alloc (Below.refl _ _) _) _) HB.out) (by omega) (fun x hx hq => ⟨.inl hq, by have := HQ.out x hq; omega⟩)
set_option maxHeartbeats 2000000 in
theorem true_calls (Q : Nat → Prop) (A : Option Addr) (c : Nat) (v : Val) (w : World) (h : VL Q w A c v.items) : Calls Tryz.prog 260 #[.agg #[.int .i64 v.k, .int .i64 v.n, .string v.s, .slice A v.items.length c]] w (Ret w (.bool (decide (checkP v = 0) && truthV v))) := by
  have H := Ad.mk h
  clear h
  by_cases hc : checkP v = 0
  · have hd : (checkP v == 0) = true := by simp [hc]
    have HC := Ad.mk hc
    clear hc
    go_enter Tryz.func260, Tryz.ntmps260
    go_wp2_with (first
      | (go_at_call 46; refine (check_calls Q v A c _ (H.out.below (below_alloc (Below.refl _ _) _))).mono ?_; rintro e1 w1 ⟨rfl, hb1⟩; obtain ⟨k1, z1, y1, HB⟩ := bcell hb1; clear hb1)
      | (go_at_call 261; refine (truth_calls A c v _).mono ?_; rintro e2 w2 ⟨rfl, hb2⟩; have HB2 := Ad.mk hb2; clear hb2))
    go_ret
    refine ⟨?_, below_then (below_then (below_alloc (Below.refl _ _) _) HB.out) HB2.out⟩
    rw [HC.out]; simp
  · have hd : (checkP v == 0) = false := by simp [hc]
    have HC := Ad.mk hc
    clear hc
    go_enter Tryz.func260, Tryz.ntmps260
    go_wp2_with (go_at_call 46; refine (check_calls Q v A c _ (H.out.below (below_alloc (Below.refl _ _) _))).mono ?_; rintro e1 w1 ⟨rfl, hb1⟩; obtain ⟨k1, z1, y1, HB⟩ := bcell hb1; clear hb1)
    go_ret
    refine ⟨?_, below_then (below_alloc (Below.refl _ _) _) HB.out⟩
    simp [HC.out]
/-! ### order -/
def signV (b : Bool) : Int := if b then -1 else 1
theorem sign_calls (b : Bool) (w : World) : Calls Tryz.prog 206 #[.bool b] w (Ret w (.int .i64 (signV b))) := by
  cases b
  all_goals
    go_enter Tryz.func206, Tryz.ntmps206
    go_wp2_with fail
    go_ret
    exact ⟨rfl, Below.refl _ _⟩
end Go.Proofs.YtahnelihohmjfaaGreatDoor.V
namespace Go.Proofs.YtahnelihohmjfaaGreatDoor.V
open Go.RowKit
set_option linter.unusedVariables false
set_option linter.unusedSimpArgs false
mutual
def ordL : List Val → List Val → Int
  | [], [] => 0
  | [], _ :: _ => -1
  | _ :: _, [] => 1
  | a :: r, b :: s => if ordV a b ≠ 0 then ordV a b else ordL r s
def ordV : Val → Val → Int
  | .mk k n s l, .mk k' n' s' l' => if k ≠ k' then signV (decide (k < k')) else if k = 1 ∧ n ≠ n' then signV (decide (n < n')) else if k = 2 ∧ s.toList ≠ s'.toList then signV (Op.bytesLess s.toList s'.toList) else ordL l l'
end
theorem ordV_eq (k n : Int) (s : ByteArray) (l : List Val) (k' n' : Int) (s' : ByteArray) (l' : List Val) : ordV (.mk k n s l) (.mk k' n' s' l') = if k ≠ k' then signV (decide (k < k')) else if k = 1 ∧ n ≠ n' then signV (decide (n < n')) else if k = 2 ∧ s.toList ≠ s'.toList then signV (Op.bytesLess s.toList s'.toList) else ordL l l' := by rw [ordV]
theorem ordL_end (l l' : List Val) (i : Nat) (h : min l.length l'.length ≤ i) : ordL (l.drop i) (l'.drop i) = if l.length ≠ l'.length ∧ i ≤ max l.length l'.length ∧ i = min l.length l'.length then signV (decide (l.length < l'.length)) else ordL (l.drop i) (l'.drop i) := by
  split
  · rename_i h1
    by_cases hl : l.length < l'.length
    · rw [List.drop_eq_nil_of_le (by omega : l.length ≤ i), dropAt (l := l') (by omega), ordL]; simp [signV, hl]
    · rw [List.drop_eq_nil_of_le (by omega : l'.length ≤ i), dropAt (l := l) (by omega), ordL]; simp [signV, hl]
  · rfl
def OLoop (w : World) (x1 x2 : Value) (l l' : List Val) (R : Int) (v : Value) (wr : World) : Prop := ∃ i : Nat, i ≤ min l.length l'.length ∧ v = .int .i64 i ∧ Below w.heap.size w wr ∧ wr.cell? ⟨w.heap.size, 3, none⟩ = some x1 ∧ wr.cell? ⟨w.heap.size + 1, 3, none⟩ = some x2 ∧ Ad (ordL (l.drop i) (l'.drop i) = R)
set_option maxHeartbeats 8000000 in
set_option maxRecDepth 100000 in
theorem order_calls : ∀ (N : Nat) (v v' : Val), SizeOf.sizeOf v.items ≤ N → ∀ (Q Q' : Nat → Prop) (A A' : Option Addr) (c c' : Nat) (w : World), VL Q w A c v.items → VL Q' w A' c' v'.items →
    Calls Tryz.prog 197 #[.agg #[.int .i64 v.k, .int .i64 v.n, .string v.s, .slice A v.items.length c], .agg #[.int .i64 v'.k, .int .i64 v'.n, .string v'.s, .slice A' v'.items.length c']] w (Ret w (.int .i64 (ordV v v'))) := by
  intro N
  induction N with
  | zero =>
    intro v v' hN
    cases v with
    | mk k n s l => cases l <;> simp [Val.items] at hN
  | succ N ih =>
    intro v v' hN Q Q' A A' c c' w hl hl'
    obtain ⟨R, hR⟩ : ∃ R, ordV v v' = R := ⟨_, rfl⟩
    rw [hR]
    have HR := Ad.mk hR
    obtain ⟨k, n, s, l⟩ := v
    obtain ⟨k', n', s', l'⟩ := v'
    simp only [Val.k, Val.n, Val.s, Val.items] at hl hl' hN ⊢
    have HL := Ad.mk hl
    have HL' := Ad.mk hl'
    have hm := hl.out.2.1
    have hm' := hl'.out.2.1
    have IH := Ad.mk ih
    have HN := Ad.mk hN
    clear hl hl' ih hN hR
    go_enter Tryz.func197, Tryz.ntmps197
    go_wp2_with (go_at_call 206; refine (sign_calls _ _).mono ?_; rintro e2 w2 ⟨rfl, hb2⟩)
    all_goals first
      | (go_ret; refine ⟨?_, below_then (below_alloc (below_alloc (Below.refl _ _) _) _) hb2⟩; rw [← HR.out, ordV_eq]; simp_all; done)
      | skip
    all_goals
      have hE : Ad (ordL l l' = R) := ⟨by rw [← HR.out, ordV_eq]; simp_all <;> (intros; omega)⟩
      go_loopw [60] (fun v60 wr => OLoop w (.slice A l.length c) (.slice A' l'.length c') l l' R v60 wr) (fun v60 _ => l.length - (intOf v60).toNat)
      case atStart => exact ⟨0, Nat.zero_le _, rfl, below_alloc (below_alloc (Below.refl _ _) _) _, blk_cell (blk_alloc (blk_new _ _) _) 3, blk_cell (blk_new2 (by simp)) 3, ⟨hE.out⟩⟩
      case round =>
        obtain ⟨i, hi, rfl, hb, hx1, hx2, HE⟩ := hrel
        have HB := Ad.mk hb
        have HX1 := Ad.mk hx1
        have HX2 := Ad.mk hx2
        clear hb
        by_cases hlt : i < min l.length l'.length
        · obtain ⟨ad, B, d, rfl, g0, g1, g2, g3, hv⟩ := (HL.out.below HB.out).at i (by omega)
          obtain ⟨ad', B', d', rfl, g0', g1', g2', g3', hv'⟩ := (HL'.out.below HB.out).at i (by omega)
          have hsz := sizeAt (l := l) (i := i) (by omega)
          have HS : Ad (SizeOf.sizeOf (l.getD i Val.none).items ≤ N) := ⟨by have := HN.out; omega⟩
          have HNX := HE.out
          rw [dropAt (l := l) (by omega), dropAt (l := l') (by omega), ordL] at HNX
          obtain ⟨q, hq⟩ : ∃ q, l.getD i Val.none = q := ⟨_, rfl⟩
          obtain ⟨q', hq'⟩ : ∃ q', l'.getD i Val.none = q' := ⟨_, rfl⟩
          rw [hq] at HNX HS hv g0 g1 g2 g3
          rw [hq'] at HNX hv' g0' g1' g2' g3'
          have HNX := Ad.mk HNX
          have HV := Ad.mk hv.l
          have HV' := Ad.mk hv'.l
          have j0 : (0 : Int) ≤ (i : Int) := by omega
          have j1 : (i : Int) < (l.length : Int) := by omega
          have j2 : (i : Int) < (l'.length : Int) := by omega
          clear hv hv' hsz HE hq hq'
          go_wp2_with fail
          go_region_held3 (fun w' => w'.cell? ⟨w.heap.size, 3, none⟩ = some (.slice (some ad) l.length c) ∧ w'.cell? ⟨w.heap.size + 1, 3, none⟩ = some (.slice (some ad') l'.length c') ∧ w'.cell? (ad.add (i * 4)) = some (.int .i64 q.k) ∧ w'.cell? ⟨(ad.add (i * 4)).block, (ad.add (i * 4)).off + 1, none⟩ = some (.int .i64 q.n) ∧ w'.cell? ⟨(ad.add (i * 4)).block, (ad.add (i * 4)).off + 2, none⟩ = some (.string q.s) ∧ w'.cell? ⟨(ad.add (i * 4)).block, (ad.add (i * 4)).off + 3, none⟩ = some (.slice B q.items.length d) ∧ w'.cell? (ad'.add (i * 4)) = some (.int .i64 q'.k) ∧ w'.cell? ⟨(ad'.add (i * 4)).block, (ad'.add (i * 4)).off + 1, none⟩ = some (.int .i64 q'.n) ∧ w'.cell? ⟨(ad'.add (i * 4)).block, (ad'.add (i * 4)).off + 2, none⟩ = some (.string q'.s) ∧ w'.cell? ⟨(ad'.add (i * 4)).block, (ad'.add (i * 4)).off + 3, none⟩ = some (.slice B' q'.items.length d')) (first | go_keep | ((repeat' refine And.intro ?_ ?_) <;> exact cell_below hb5 (by assumption))) ((go_at_call 197; refine (IH.out q q' HS.out Q Q' B B' d d' _ (HV.out.below (Below.refl _ _).drew) (HV'.out.below (Below.refl _ _).drew)).mono ?_; rintro e5 w5 ⟨rfl, hb5⟩))
          have HB5 := Ad.mk (below_then HB.out (below_then (Below.refl _ _).drew hb5))
          have hy1 := cell_below hb5 HX1.out
          have hy2 := cell_below hb5 HX2.out
          have HY1 := Ad.mk hy1
          have HY2 := Ad.mk hy2
          clear hb5 hx1 hx2 g0 g1 g2 g3 g0' g1' g2' g3'
          go_wp2_with fail
          · go_ret
            have hx : R = ordV q q' := by rw [← HNX.out, if_pos (bne_iff_ne.1 ‹(ordV q q' != 0) = true›)]
            rw [hx]
            exact ⟨rfl, HB5.out⟩
          · go_roundw
            case rel => exact ⟨i + 1, by omega, by go_num, HB5.out, HY1.out, HY2.out, ⟨by rw [← HNX.out, if_neg (fun hn => hn (bne_eq_false_iff_eq.1 ‹(ordV q q' != 0) = false›))]⟩⟩
            case measure => simp [intOf]; omega
        · have hEnd := ordL_end l l' i (by omega)
          rw [HE.out] at hEnd
          have HD := Ad.mk hEnd
          clear hEnd
          go_wp2_with (go_at_call 206; refine (sign_calls _ _).mono ?_; rintro e2 w2 ⟨rfl, hb2⟩)
          all_goals go_ret
          all_goals first
            | (have hne := bne_iff_ne.1 ‹((l.length : Int) != (l'.length : Int)) = true›
               refine ⟨?_, below_then HB.out hb2⟩
               have hx := HD.out
               rw [if_pos ⟨by omega, by omega, by omega⟩] at hx
               rw [hx]
               exact congrArg (fun z => Ending.returned (.int .i64 (signV z))) (decide_eq_decide.2 (by omega)))
            | (have heq := bne_eq_false_iff_eq.1 ‹((l.length : Int) != (l'.length : Int)) = false›
               refine ⟨?_, HB.out⟩
               have hx : R = 0 := by rw [← HE.out, List.drop_eq_nil_of_le (by omega), List.drop_eq_nil_of_le (by omega), ordL]
               rw [hx]; rfl)
end Go.Proofs.YtahnelihohmjfaaGreatDoor.V
namespace Go.Proofs.YtahnelihohmjfaaGreatDoor.V
open Go.RowKit
set_option linter.unusedVariables false
set_option linter.unusedSimpArgs false
theorem kcell {W w1 : World} (n : Nat) (hb : Below W.heap.size W w1) (hn : n ≤ W.heap.size) : (∀ b o, b < n → w1.cell? ⟨b, o, none⟩ = W.cell? ⟨b, o, none⟩) ∧ (∀ b o, b < n → w1.frozen? ⟨b, o, none⟩ = W.frozen? ⟨b, o, none⟩) ∧ n ≤ w1.heap.size ∧ Ad (Below W.heap.size W w1) :=
  ⟨fun b o h => hb.cell (p := ⟨b, o, none⟩) (by show b < _; omega), fun b o h => hb.frozen (p := ⟨b, o, none⟩) (by show b < _; omega), Nat.le_trans hn hb.size, ⟨hb⟩⟩
def cmpV (a b : Val) : Int := ordV (fitV a) (fitV b)
set_option maxHeartbeats 4000000 in
set_option maxRecDepth 100000 in
theorem compare_calls (Q Q' : Nat → Prop) (A A' : Option Addr) (c c' : Nat) (v v' : Val) (w : World) (h : VA Q w A c v) (h' : VA Q' w A' c' v') :
    Calls Tryz.prog 182 #[.agg #[.int .i64 v.k, .int .i64 v.n, .string v.s, .slice A v.items.length c], .agg #[.int .i64 v'.k, .int .i64 v'.n, .string v'.s, .slice A' v'.items.length c']] w (Ret w (.int .i64 (cmpV v v'))) := by
  have H := Ad.mk (h.weak (Q' := fun b => b < w.heap.size) fun b hb _ => hb)
  have H' := Ad.mk (h'.weak (Q' := fun b => b < w.heap.size) fun b hb _ => hb)
  have HC : Ad (ordV (fitV v) (fitV v') = cmpV v v') := ⟨rfl⟩
  clear h h'
  go_enter Tryz.func182, Tryz.ntmps182
  go_wp2_with fail
  go_region_held3 (fun w' => w'.cell? ⟨w.heap.size, 0, none⟩ = some (.int .i64 v.k) ∧ w'.cell? ⟨w.heap.size, 1, none⟩ = some (.int .i64 v.n) ∧ w'.cell? ⟨w.heap.size, 2, none⟩ = some (.string v.s) ∧ w'.cell? ⟨w.heap.size, 3, none⟩ = some (.slice A v.items.length c) ∧ w'.cell? ⟨w.heap.size + 1, 0, none⟩ = some (.int .i64 v'.k) ∧ w'.cell? ⟨w.heap.size + 1, 1, none⟩ = some (.int .i64 v'.n) ∧ w'.cell? ⟨w.heap.size + 1, 2, none⟩ = some (.string v'.s) ∧ w'.cell? ⟨w.heap.size + 1, 3, none⟩ = some (.slice A' v'.items.length c')) (go_keep)
    (first
      | (go_at_call 102; ((with_reducible refine (valid_calls (fun b => b < w.heap.size) A c v _ (by exact H.out.below (below_alloc (below_alloc (Below.refl _ _) _) _).drew) (by intro b hb; simp; omega)).mono ?_); rintro e1 w1 ⟨A1, c1, rfl, ha1, hb1⟩; obtain ⟨k1, z1, y1, HB1⟩ := kcell (w.heap.size + 2) hb1 (by simp); have HA1 := Ad.mk ha1; clear ha1 hb1))
      | (go_at_call 102; ((with_reducible refine (valid_calls (fun b => b < w.heap.size) A' c' v' _ (by exact H'.out.below (below_then (below_alloc (below_alloc (Below.refl _ _) _) _).drew HB1.out)) (by intro b hb; have := HB1.out.size; simp at this; omega)).mono ?_); rintro e2 w2 ⟨A2, c2, rfl, ha2, hb2⟩; obtain ⟨k2, z2, y2, HB2⟩ := kcell (w.heap.size + 2) hb2 y1; have HA2 := Ad.mk ha2; clear ha2 hb2))
      | (go_at_call 197; ((with_reducible refine (order_calls _ (fitV v) (fitV v') (Nat.le_refl _) _ _ A1 A2 c1 c2 _ (by exact HA1.out.l.below HB2.out) (by exact HA2.out.l)).mono ?_); rintro e3 w3 ⟨rfl, hb3⟩; obtain ⟨k3, z3, y3, HB3⟩ := kcell (w.heap.size + 2) hb3 y2; clear hb3)))
  have HB4 := Ad.mk (below_then (below_then (below_then (below_alloc (below_alloc (Below.refl _ _) _) _).drew HB1.out) HB2.out) HB3.out)
  go_wp2_with fail
  go_ret
  rw [HC.out]
  exact ⟨rfl, HB4.out⟩
end Go.Proofs.YtahnelihohmjfaaGreatDoor.V
namespace Go.Proofs.YtahnelihohmjfaaGreatDoor.V
open Go.RowKit
set_option linter.unusedVariables false
set_option linter.unusedSimpArgs false
/-! ### closures of the expressions -/
structure EnvV where
  key : Val
  val : Val
  acc : Val
  hops : Val
def EnvV.ok (E : EnvV) : Prop := checkP E.key = 0 ∧ checkP E.val = 0 ∧ checkP E.acc = 0 ∧ checkP E.hops = 0
def EnvR (Q : Nat → Prop) (w : World) (a : Nat) (E : EnvV) : Prop := ∃ A1 c1 A2 c2 A3 c3 A4 c4, w.heap[a]? = some (.cells #[.int .i64 E.key.k, .int .i64 E.key.n, .string E.key.s, .slice A1 E.key.items.length c1, .int .i64 E.val.k, .int .i64 E.val.n, .string E.val.s, .slice A2 E.val.items.length c2, .int .i64 E.acc.k, .int .i64 E.acc.n, .string E.acc.s, .slice A3 E.acc.items.length c3, .int .i64 E.hops.k, .int .i64 E.hops.n, .string E.hops.s, .slice A4 E.hops.items.length c4] 359 (0, 0)) ∧
  VA Q w A1 c1 E.key ∧ VA Q w A2 c2 E.val ∧ VA Q w A3 c3 E.acc ∧ VA Q w A4 c4 E.hops
theorem EnvR.below {Q : Nat → Prop} {w w' : World} {a : Nat} {E : EnvV} (h : EnvR Q w a E) (hb : Below w.heap.size w w') : EnvR Q w' a E := by
  obtain ⟨A1, c1, A2, c2, A3, c3, A4, c4, h, h1, h2, h3, h4⟩ := h
  exact ⟨A1, c1, A2, c2, A3, c3, A4, c4, blk_below h hb, h1.below hb, h2.below hb, h3.below hb, h4.below hb⟩
/-- the function value f, in every later world, comes to F of what the words mean -/
structure Ev (w : World) (f : Value) (F : EnvV → Val) : Prop where
  calls : ∃ k cap, f = .func (.func k) #[] cap ∧ (∀ args w, (callFunc k args).run Tryz.prog w = .ok (.enter k args) w) ∧ ∀ (w' : World) (a : Nat) (E : EnvV) (Q : Nat → Prop), Below w.heap.size w w' → EnvR Q w' a E → (∀ b, Q b → b < w'.heap.size) → E.ok → Calls Tryz.prog k (#[.pointer (some ⟨a, 0, none⟩)] ++ cap) w' (RetV Q w' (F E))
  ok : ∀ E : EnvV, E.ok → checkP (F E) = 0
theorem Ev.below {w w' : World} {f : Value} {F : EnvV → Val} (h : Ev w f F) (hb : Below w.heap.size w w') : Ev w' f F := by
  obtain ⟨k, cap, rfl, h1, h2⟩ := h.calls
  exact ⟨⟨k, cap, rfl, h1, fun w2 a E Q hb2 => h2 w2 a E Q (below_then hb hb2)⟩, h.ok⟩
theorem RetV.weak {Q Q' : Nat → Prop} {w w0 : World} {v : Val} {e : Ending} {w' : World} (h : RetV Q w v e w') (hQ : ∀ b, Q b → Q' b) : RetV Q' w v e w' := by
  obtain ⟨A, c, rfl, ha, hb⟩ := h
  exact ⟨A, c, rfl, ha.weak fun b _ h => h.imp_left (hQ b), hb⟩
set_option maxHeartbeats 4000000 in
theorem not_calls (b : Nat) (f : Value) (F : EnvV → Val) (w0 w : World) (hf : w0.heap[b]? = some (.cells #[f] 148 (0, 0))) (hF : Ev w0 f F) (a : Nat) (E : EnvV) (Q : Nat → Prop) (hb : Below w0.heap.size w0 w) (hE : EnvR Q w a E) (hQ : ∀ b, Q b → b < w.heap.size) (hok : E.ok) :
    Calls Tryz.prog 276 #[.pointer (some ⟨a, 0, none⟩), .pointer (some ⟨b, 0, none⟩)] w (RetV Q w (Val.bool (!truthV (F E)))) := by
  obtain ⟨k, cap, rfl, hk, hcall⟩ := (hF.below hb).calls
  have HC := Ad.mk hcall
  have c0 := blk_cell (blk_below hf hb) 0
  have hbl := blk_lt (blk_below hf hb)
  have c1 := cell_below (below_alloc (Below.refl _ w) (.cells #[.int .i64 0, .int .i64 0, .string ⟨#[]⟩, .slice none 0 0] 42)) c0
  have HE := Ad.mk hE
  have HQ := Ad.mk hQ
  clear hf hF hb hcall hE hQ c0
  go_enter Tryz.func276, Tryz.ntmps276
  go_wp2_with (first
    | ((with_reducible refine (HC.out _ a E Q (below_alloc (Below.refl _ _) _) (HE.out.below (below_alloc (Below.refl _ _) _)) (fun b h => by have := HQ.out b h; simp; omega) hok).mono ?_); rintro e1 w1 ⟨A1, c1, rfl, ha1, hb1⟩; obtain ⟨k1, z1, y1, HB1⟩ := kcell (w.heap.size + 1) hb1 (by simp); clear ha1 hb1)
    | (go_at_call 261; refine (truth_calls _ _ (F E) _).mono ?_; rintro e2 w2 ⟨rfl, hb2⟩; obtain ⟨k2, z2, y2, HB2⟩ := kcell (w.heap.size + 1) hb2 y1; clear hb2)
    | (go_at_call 188; refine (ofBool_calls (fun _ => False) _ _).mono ?_; rintro e3 w3 ⟨A3, c3, rfl, ha3, hb3⟩; obtain ⟨k3, z3, y3, HB3⟩ := kcell (w.heap.size + 1) hb3 y2; have HA3 := Ad.mk ha3; clear ha3 hb3))
  have HB4 := below_then (below_then HB1.out HB2.out) HB3.out
  exact RetV.fin HA3.out rfl rfl rfl (blk_below (blk_new2 rfl) HB4) rfl (below_then (below_alloc (Below.refl _ _) _) HB4) (Nat.le_refl _) (fun x hx hq => by have := y2; simp at hq; omega)
end Go.Proofs.YtahnelihohmjfaaGreatDoor.V
namespace Go.Proofs.YtahnelihohmjfaaGreatDoor.V
open Go.RowKit
set_option linter.unusedVariables false
set_option linter.unusedSimpArgs false
/-- a result that was stored into its variable as it was made -/
theorem RetV.fin0 {Q Q1 : Nat → Prop} {w W : World} {t b : Nat} {v : Val} {A : Option Addr} {c : Nat} {fn : Func} {a : Act} (hva : VA Q1 W A c v) (hfn : fn.results = #[.cell t 42]) (ha : a.tmps.getD t undef = .pointer (some ⟨b, 0, Option.none⟩)) (hd : a.defers = []) (hw : W.heap.size = b)
    (hb : Below w.heap.size w W) (hQ : ∀ x, x < W.heap.size → Q1 x → Q x ∨ w.heap.size ≤ x) :
    bodyPost Tryz.prog fn (RetV Q w v) .ret a (W.alloc (.cells #[.int .i64 v.k, .int .i64 v.n, .string v.s, .slice A v.items.length c] 42)) := by
  have e4 := blk_new2 (o := .cells #[.int .i64 v.k, .int .i64 v.n, .string v.s, .slice A v.items.length c] 42) hw
  have hW := below_alloc (Below.refl W.heap.size W) (.cells #[.int .i64 v.k, .int .i64 v.n, .string v.s, .slice A v.items.length c] 42)
  generalize W.alloc (.cells #[.int .i64 v.k, .int .i64 v.n, .string v.s, .slice A v.items.length c] 42) = W' at *
  have g0 := blk_cell e4 0
  have g1 := blk_cell e4 1
  have g2 := blk_cell e4 2
  have g3 := blk_cell e4 3
  simp at g0 g1 g2 g3
  refine ⟨hd, .agg #[.int .i64 v.k, .int .i64 v.n, .string v.s, .slice A v.items.length c], ?_, ?_⟩
  · rw [Array.getD_eq_getD_getElem?] at ha
    simp [results, hfn, ha, go_sem, g0, g1, g2, g3]
  · exact ⟨A, c, rfl, (hva.weak hQ).below hW, below_then hb hW⟩
set_option maxHeartbeats 4000000 in
theorem number_calls (b p : Nat) (n : Int) (w0 w : World) (hf : w0.heap[b]? = some (.cells #[.pointer (some ⟨p, 0, none⟩)] 192 (0, 0))) (hp : w0.heap[p]? = some (.cells #[.int .i64 n] 195 (0, 0))) (hn : I64 n) (a : Nat) (Q : Nat → Prop) (hb : Below w0.heap.size w0 w) :
    Calls Tryz.prog 270 #[.pointer (some ⟨a, 0, none⟩), .pointer (some ⟨b, 0, none⟩)] w (RetV Q w (Val.int n)) := by
  have c0 := cell_below (below_alloc (Below.refl _ w) (.cells #[.int .i64 0, .int .i64 0, .string ⟨#[]⟩, .slice none 0 0] 42)) (blk_cell (blk_below hf hb) 0)
  have c1 := cell_below (below_alloc (Below.refl _ w) (.cells #[.int .i64 0, .int .i64 0, .string ⟨#[]⟩, .slice none 0 0] 42)) (blk_cell (blk_below hp hb) 0)
  have HN := Ad.mk hn
  clear hf hp hb hn
  go_enter Tryz.func270, Tryz.ntmps270
  go_wp2_with (go_at_call 177; refine (ofInt_calls (fun _ => False) _ _ HN.out).mono ?_; rintro e3 w3 ⟨A3, c3, rfl, ha3, hb3⟩; obtain ⟨k3, z3, y3, HB3⟩ := kcell (w.heap.size + 1) hb3 (by simp); have HA3 := Ad.mk ha3; clear ha3 hb3)
  exact RetV.fin HA3.out rfl rfl rfl (blk_below (blk_new2 rfl) HB3.out) rfl (below_then (below_alloc (Below.refl _ _) _) HB3.out) (Nat.le_refl _) (fun x hx hq => by simp at hq; omega)
set_option maxHeartbeats 4000000 in
theorem quote_calls (b p : Nat) (s : ByteArray) (w0 w : World) (hf : w0.heap[b]? = some (.cells #[.pointer (some ⟨p, 0, none⟩)] 196 (0, 0))) (hp : w0.heap[p]? = some (.cells #[.string s] 201 (0, 0))) (hn : s.size ≤ 24) (a : Nat) (Q : Nat → Prop) (hb : Below w0.heap.size w0 w) :
    Calls Tryz.prog 272 #[.pointer (some ⟨a, 0, none⟩), .pointer (some ⟨b, 0, none⟩)] w (RetV Q w (Val.text s)) := by
  have c0 := cell_below (below_alloc (Below.refl _ w) (.cells #[.int .i64 0, .int .i64 0, .string ⟨#[]⟩, .slice none 0 0] 42)) (blk_cell (blk_below hf hb) 0)
  have c1 := cell_below (below_alloc (Below.refl _ w) (.cells #[.int .i64 0, .int .i64 0, .string ⟨#[]⟩, .slice none 0 0] 42)) (blk_cell (blk_below hp hb) 0)
  clear hf hp hb
  go_enter Tryz.func272, Tryz.ntmps272
  go_wp2_with (go_at_call 88; refine (ofText_calls (fun _ => False) _ _ (by omega)).mono ?_; rintro e3 w3 ⟨A3, c3, rfl, ha3, hb3⟩; obtain ⟨k3, z3, y3, HB3⟩ := kcell (w.heap.size + 1) hb3 (by simp); have HA3 := Ad.mk ha3; clear ha3 hb3)
  exact RetV.fin HA3.out rfl rfl rfl (blk_below (blk_new2 rfl) HB3.out) rfl (below_then (below_alloc (Below.refl _ _) _) HB3.out) (Nat.le_refl _) (fun x hx hq => by simp at hq; omega)
def wordV (s : ByteArray) (E : EnvV) : Val := if (s.toList == [107, 101, 121]) = true then E.key else if (s.toList == [118, 97, 108]) = true then E.val else if (s.toList == [97, 99, 99]) = true then E.acc else if (s.toList == [104, 111, 112, 115]) = true then E.hops else Val.none
set_option maxHeartbeats 4000000 in
theorem word_calls (b p : Nat) (s : ByteArray) (w0 w : World) (hf : w0.heap[b]? = some (.cells #[.pointer (some ⟨p, 0, none⟩)] 202 (0, 0))) (hp : w0.heap[p]? = some (.cells #[.string s] 204 (0, 0))) (a : Nat) (E : EnvV) (Q : Nat → Prop) (hb : Below w0.heap.size w0 w) (hE : EnvR Q w a E) (hQ : ∀ b, Q b → b < w.heap.size) :
    Calls Tryz.prog 274 #[.pointer (some ⟨a, 0, none⟩), .pointer (some ⟨b, 0, none⟩)] w (RetV Q w (wordV s E)) := by
  have c0 := cell_below (below_alloc (Below.refl _ w) (.cells #[.int .i64 0, .int .i64 0, .string ⟨#[]⟩, .slice none 0 0] 42)) (blk_cell (blk_below hf hb) 0)
  have c1 := cell_below (below_alloc (Below.refl _ w) (.cells #[.int .i64 0, .int .i64 0, .string ⟨#[]⟩, .slice none 0 0] 42)) (blk_cell (blk_below hp hb) 0)
  obtain ⟨A1, c1', A2, c2', A3, c3', A4, c4', he, h1, h2, h3, h4⟩ := hE
  have he := blk_alloc he (.cells #[.int .i64 0, .int .i64 0, .string ⟨#[]⟩, .slice none 0 0] 42)
  have e0 := blk_cell he 0
  have e1 := blk_cell he 1
  have e2 := blk_cell he 2
  have e3 := blk_cell he 3
  have e4 := blk_cell he 4
  have e5 := blk_cell he 5
  have e6 := blk_cell he 6
  have e7 := blk_cell he 7
  have e8 := blk_cell he 8
  have e9 := blk_cell he 9
  have e10 := blk_cell he 10
  have e11 := blk_cell he 11
  have e12 := blk_cell he 12
  have e13 := blk_cell he 13
  have e14 := blk_cell he 14
  have e15 := blk_cell he 15
  have H1 := Ad.mk h1
  have H2 := Ad.mk h2
  have H3 := Ad.mk h3
  have H4 := Ad.mk h4
  have HQ := Ad.mk hQ
  obtain ⟨R, hR⟩ : ∃ R, wordV s E = R := ⟨_, rfl⟩
  rw [hR]
  have HR := Ad.mk hR
  clear hf hp hb he h1 h2 h3 h4 hQ hR
  go_enter Tryz.func274, Tryz.ntmps274
  go_wp2_with fail
  · have hx : R = E.key := by rw [← HR.out]; simp [wordV, *]
    rw [hx]
    exact RetV.fin0 H1.out rfl rfl rfl rfl (Below.refl _ _) (fun _ _ h => .inl h)
  · have hx : R = E.val := by rw [← HR.out]; simp [wordV, *]
    rw [hx]
    exact RetV.fin0 H2.out rfl rfl rfl rfl (Below.refl _ _) (fun _ _ h => .inl h)
  · have hx : R = E.acc := by rw [← HR.out]; simp [wordV, *]
    rw [hx]
    exact RetV.fin0 H3.out rfl rfl rfl rfl (Below.refl _ _) (fun _ _ h => .inl h)
  · have hx : R = E.hops := by rw [← HR.out]; simp [wordV, *]
    rw [hx]
    exact RetV.fin0 H4.out rfl rfl rfl rfl (Below.refl _ _) (fun _ _ h => .inl h)
  · have hx : R = Val.none := by rw [← HR.out]; simp [wordV, *]
    rw [hx]
    exact RetV.fin0 (VA.none (fun _ => False) w Option.none 0) rfl rfl rfl rfl (Below.refl _ _) (fun _ _ h => h.elim)
end Go.Proofs.YtahnelihohmjfaaGreatDoor.V
namespace Go.Proofs.YtahnelihohmjfaaGreatDoor.V
open Go.RowKit
set_option linter.unusedVariables false
set_option linter.unusedSimpArgs false
set_option maxHeartbeats 8000000 in
set_option maxRecDepth 100000 in
theorem or_calls (w0 w : World) (b1 : Nat) (f1 : Value) (F1 : EnvV → Val) (b2 : Nat) (f2 : Value) (F2 : EnvV → Val) (hf1 : w0.heap[b1]? = some (.cells #[f1] 148 (0, 0))) (hF1 : Ev w0 f1 F1) (hf2 : w0.heap[b2]? = some (.cells #[f2] 148 (0, 0))) (hF2 : Ev w0 f2 F2) (a : Nat) (E : EnvV) (Q : Nat → Prop) (hb : Below w0.heap.size w0 w) (hE : EnvR Q w a E) (hQ : ∀ b, Q b → b < w.heap.size) (hok : E.ok) :
    Calls Tryz.prog 279 #[.pointer (some ⟨a, 0, none⟩), .pointer (some ⟨b1, 0, none⟩), .pointer (some ⟨b2, 0, none⟩)] w (RetV Q w (Val.bool (truthV (F1 E) || truthV (F2 E)))) := by
  obtain ⟨k1, cap1, rfl, hk1, hcall1⟩ := (hF1.below hb).calls
  have C1 := Ad.mk hcall1
  have c1 := cell_below (below_alloc (Below.refl _ w) (.cells #[.int .i64 0, .int .i64 0, .string ⟨#[]⟩, .slice none 0 0] 42)) (blk_cell (blk_below hf1 hb) 0)
  have l1 : b1 < w.heap.size + 1 := by have := blk_lt (blk_below hf1 hb); omega
  obtain ⟨k2, cap2, rfl, hk2, hcall2⟩ := (hF2.below hb).calls
  have C2 := Ad.mk hcall2
  have c2 := cell_below (below_alloc (Below.refl _ w) (.cells #[.int .i64 0, .int .i64 0, .string ⟨#[]⟩, .slice none 0 0] 42)) (blk_cell (blk_below hf2 hb) 0)
  have l2 : b2 < w.heap.size + 1 := by have := blk_lt (blk_below hf2 hb); omega
  have HE := Ad.mk hE
  have HQ := Ad.mk hQ
  clear hf1 hF1 hcall1 hf2 hF2 hcall2 hb hE hQ
  obtain ⟨T, hT⟩ : ∃ T, truthV (F1 E) = T := ⟨_, rfl⟩
  have HT := Ad.mk hT
  cases T
  · go_enter Tryz.func279, Tryz.ntmps279
    go_wp2_with (first
      | ((with_reducible refine (C1.out _ a E Q (below_alloc (Below.refl _ _) _) (HE.out.below (below_alloc (Below.refl _ _) _)) (fun b h => by have := HQ.out b h; simp; omega) hok).mono ?_); rintro e1 w1 ⟨A1, d1, rfl, ha1, hb1⟩; obtain ⟨k1', z1, y1, HB1⟩ := kcell (w.heap.size + 1) hb1 (by simp); clear ha1 hb1)
      | (go_at_call 261; ((with_reducible refine (truth_calls _ _ (F1 E) _).mono ?_); rintro e2 w2 ⟨rfl, hb2⟩; obtain ⟨k2', z2, y2, HB2⟩ := kcell (w.heap.size + 1) hb2 y1; clear hb2))
      | ((with_reducible refine (C2.out _ a E Q (below_then (below_alloc (Below.refl _ _) _) (below_then HB1.out HB2.out)) (HE.out.below (below_then (below_alloc (Below.refl _ _) _) (below_then HB1.out HB2.out))) (fun b h => by have := HQ.out b h; have := y2; omega) hok).mono ?_); rintro e3 w3 ⟨A3, d3, rfl, ha3, hb3⟩; obtain ⟨k3', z3, y3, HB3⟩ := kcell (w.heap.size + 1) hb3 y2; clear ha3 hb3)
      | (go_at_call 261; ((with_reducible refine (truth_calls _ _ (F2 E) _).mono ?_); rintro e4 w4 ⟨rfl, hb4⟩; obtain ⟨k4', z4, y4, HB4⟩ := kcell (w.heap.size + 1) hb4 y3; clear hb4))
      | (go_at_call 188; refine (ofBool_calls (fun _ => False) _ _).mono ?_; rintro e5 w5 ⟨A5, d5, rfl, ha5, hb5⟩; obtain ⟨k5', z5, y5, HB5⟩ := kcell (w.heap.size + 1) hb5 y4; have HA5 := Ad.mk ha5; clear ha5 hb5))
    have HZ := below_then (below_then (below_then (below_then HB1.out HB2.out) HB3.out) HB4.out) HB5.out
    rw [HT.out]
    exact RetV.fin HA5.out rfl rfl rfl (blk_below (blk_new2 rfl) HZ) rfl (below_then (below_alloc (Below.refl _ _) _) HZ) (Nat.le_refl _) (fun x hx hq => by have := y4; simp at hq; omega)
  · go_enter Tryz.func279, Tryz.ntmps279
    go_wp2_with (first
      | ((with_reducible refine (C1.out _ a E Q (below_alloc (Below.refl _ _) _) (HE.out.below (below_alloc (Below.refl _ _) _)) (fun b h => by have := HQ.out b h; simp; omega) hok).mono ?_); rintro e1 w1 ⟨A1, d1, rfl, ha1, hb1⟩; obtain ⟨k1', z1, y1, HB1⟩ := kcell (w.heap.size + 1) hb1 (by simp); clear ha1 hb1)
      | (go_at_call 261; ((with_reducible refine (truth_calls _ _ (F1 E) _).mono ?_); rintro e2 w2 ⟨rfl, hb2⟩; obtain ⟨k2', z2, y2, HB2⟩ := kcell (w.heap.size + 1) hb2 y1; clear hb2))
      | (go_at_call 188; refine (ofBool_calls (fun _ => False) _ _).mono ?_; rintro e3 w3 ⟨A3, d3, rfl, ha3, hb3⟩; obtain ⟨k3', z3, y3, HB3⟩ := kcell (w.heap.size + 1) hb3 y2; have HA3 := Ad.mk ha3; clear ha3 hb3))
    have HZ := below_then (below_then HB1.out HB2.out) HB3.out
    rw [HT.out]
    exact RetV.fin HA3.out rfl rfl rfl (blk_below (blk_new2 rfl) HZ) rfl (below_then (below_alloc (Below.refl _ _) _) HZ) (Nat.le_refl _) (fun x hx hq => by have := y2; simp at hq; omega)
set_option maxHeartbeats 8000000 in
set_option maxRecDepth 100000 in
theorem and_calls (w0 w : World) (b1 : Nat) (f1 : Value) (F1 : EnvV → Val) (b2 : Nat) (f2 : Value) (F2 : EnvV → Val) (hf1 : w0.heap[b1]? = some (.cells #[f1] 148 (0, 0))) (hF1 : Ev w0 f1 F1) (hf2 : w0.heap[b2]? = some (.cells #[f2] 148 (0, 0))) (hF2 : Ev w0 f2 F2) (a : Nat) (E : EnvV) (Q : Nat → Prop) (hb : Below w0.heap.size w0 w) (hE : EnvR Q w a E) (hQ : ∀ b, Q b → b < w.heap.size) (hok : E.ok) :
    Calls Tryz.prog 280 #[.pointer (some ⟨a, 0, none⟩), .pointer (some ⟨b1, 0, none⟩), .pointer (some ⟨b2, 0, none⟩)] w (RetV Q w (Val.bool (truthV (F1 E) && truthV (F2 E)))) := by
  obtain ⟨k1, cap1, rfl, hk1, hcall1⟩ := (hF1.below hb).calls
  have C1 := Ad.mk hcall1
  have c1 := cell_below (below_alloc (Below.refl _ w) (.cells #[.int .i64 0, .int .i64 0, .string ⟨#[]⟩, .slice none 0 0] 42)) (blk_cell (blk_below hf1 hb) 0)
  have l1 : b1 < w.heap.size + 1 := by have := blk_lt (blk_below hf1 hb); omega
  obtain ⟨k2, cap2, rfl, hk2, hcall2⟩ := (hF2.below hb).calls
  have C2 := Ad.mk hcall2
  have c2 := cell_below (below_alloc (Below.refl _ w) (.cells #[.int .i64 0, .int .i64 0, .string ⟨#[]⟩, .slice none 0 0] 42)) (blk_cell (blk_below hf2 hb) 0)
  have l2 : b2 < w.heap.size + 1 := by have := blk_lt (blk_below hf2 hb); omega
  have HE := Ad.mk hE
  have HQ := Ad.mk hQ
  clear hf1 hF1 hcall1 hf2 hF2 hcall2 hb hE hQ
  obtain ⟨T, hT⟩ : ∃ T, truthV (F1 E) = T := ⟨_, rfl⟩
  have HT := Ad.mk hT
  cases T
  · go_enter Tryz.func280, Tryz.ntmps280
    go_wp2_with (first
      | ((with_reducible refine (C1.out _ a E Q (below_alloc (Below.refl _ _) _) (HE.out.below (below_alloc (Below.refl _ _) _)) (fun b h => by have := HQ.out b h; simp; omega) hok).mono ?_); rintro e1 w1 ⟨A1, d1, rfl, ha1, hb1⟩; obtain ⟨k1', z1, y1, HB1⟩ := kcell (w.heap.size + 1) hb1 (by simp); clear ha1 hb1)
      | (go_at_call 261; ((with_reducible refine (truth_calls _ _ (F1 E) _).mono ?_); rintro e2 w2 ⟨rfl, hb2⟩; obtain ⟨k2', z2, y2, HB2⟩ := kcell (w.heap.size + 1) hb2 y1; clear hb2))
      | (go_at_call 188; refine (ofBool_calls (fun _ => False) _ _).mono ?_; rintro e3 w3 ⟨A3, d3, rfl, ha3, hb3⟩; obtain ⟨k3', z3, y3, HB3⟩ := kcell (w.heap.size + 1) hb3 y2; have HA3 := Ad.mk ha3; clear ha3 hb3))
    have HZ := below_then (below_then HB1.out HB2.out) HB3.out
    rw [HT.out]
    exact RetV.fin HA3.out rfl rfl rfl (blk_below (blk_new2 rfl) HZ) rfl (below_then (below_alloc (Below.refl _ _) _) HZ) (Nat.le_refl _) (fun x hx hq => by have := y2; simp at hq; omega)
  · go_enter Tryz.func280, Tryz.ntmps280
    go_wp2_with (first
      | ((with_reducible refine (C1.out _ a E Q (below_alloc (Below.refl _ _) _) (HE.out.below (below_alloc (Below.refl _ _) _)) (fun b h => by have := HQ.out b h; simp; omega) hok).mono ?_); rintro e1 w1 ⟨A1, d1, rfl, ha1, hb1⟩; obtain ⟨k1', z1, y1, HB1⟩ := kcell (w.heap.size + 1) hb1 (by simp); clear ha1 hb1)
      | (go_at_call 261; ((with_reducible refine (truth_calls _ _ (F1 E) _).mono ?_); rintro e2 w2 ⟨rfl, hb2⟩; obtain ⟨k2', z2, y2, HB2⟩ := kcell (w.heap.size + 1) hb2 y1; clear hb2))
      | ((with_reducible refine (C2.out _ a E Q (below_then (below_alloc (Below.refl _ _) _) (below_then HB1.out HB2.out)) (HE.out.below (below_then (below_alloc (Below.refl _ _) _) (below_then HB1.out HB2.out))) (fun b h => by have := HQ.out b h; have := y2; omega) hok).mono ?_); rintro e3 w3 ⟨A3, d3, rfl, ha3, hb3⟩; obtain ⟨k3', z3, y3, HB3⟩ := kcell (w.heap.size + 1) hb3 y2; clear ha3 hb3)
      | (go_at_call 261; ((with_reducible refine (truth_calls _ _ (F2 E) _).mono ?_); rintro e4 w4 ⟨rfl, hb4⟩; obtain ⟨k4', z4, y4, HB4⟩ := kcell (w.heap.size + 1) hb4 y3; clear hb4))
      | (go_at_call 188; refine (ofBool_calls (fun _ => False) _ _).mono ?_; rintro e5 w5 ⟨A5, d5, rfl, ha5, hb5⟩; obtain ⟨k5', z5, y5, HB5⟩ := kcell (w.heap.size + 1) hb5 y4; have HA5 := Ad.mk ha5; clear ha5 hb5))
    have HZ := below_then (below_then (below_then (below_then HB1.out HB2.out) HB3.out) HB4.out) HB5.out
    rw [HT.out]
    exact RetV.fin HA5.out rfl rfl rfl (blk_below (blk_new2 rfl) HZ) rfl (below_then (below_alloc (Below.refl _ _) _) HZ) (Nat.le_refl _) (fun x hx hq => by have := y4; simp at hq; omega)
def condV (c a b : Val) : Val := if truthV c = true then a else b
set_option maxHeartbeats 8000000 in
set_option maxRecDepth 100000 in
theorem cond_calls (w0 w : World) (b1 : Nat) (f1 : Value) (F1 : EnvV → Val) (b2 : Nat) (f2 : Value) (F2 : EnvV → Val) (b3 : Nat) (f3 : Value) (F3 : EnvV → Val) (hf1 : w0.heap[b1]? = some (.cells #[f1] 148 (0, 0))) (hF1 : Ev w0 f1 F1) (hf2 : w0.heap[b2]? = some (.cells #[f2] 148 (0, 0))) (hF2 : Ev w0 f2 F2) (hf3 : w0.heap[b3]? = some (.cells #[f3] 148 (0, 0))) (hF3 : Ev w0 f3 F3) (a : Nat) (E : EnvV) (Q : Nat → Prop) (hb : Below w0.heap.size w0 w) (hE : EnvR Q w a E) (hQ : ∀ b, Q b → b < w.heap.size) (hok : E.ok) :
    Calls Tryz.prog 284 #[.pointer (some ⟨a, 0, none⟩), .pointer (some ⟨b1, 0, none⟩), .pointer (some ⟨b2, 0, none⟩), .pointer (some ⟨b3, 0, none⟩)] w (RetV Q w (condV (F1 E) (F2 E) (F3 E))) := by
  obtain ⟨k1, cap1, rfl, hk1, hcall1⟩ := (hF1.below hb).calls
  have C1 := Ad.mk hcall1
  have c1 := cell_below (below_alloc (Below.refl _ w) (.cells #[.int .i64 0, .int .i64 0, .string ⟨#[]⟩, .slice none 0 0] 42)) (blk_cell (blk_below hf1 hb) 0)
  have l1 : b1 < w.heap.size + 1 := by have := blk_lt (blk_below hf1 hb); omega
  obtain ⟨k2, cap2, rfl, hk2, hcall2⟩ := (hF2.below hb).calls
  have C2 := Ad.mk hcall2
  have c2 := cell_below (below_alloc (Below.refl _ w) (.cells #[.int .i64 0, .int .i64 0, .string ⟨#[]⟩, .slice none 0 0] 42)) (blk_cell (blk_below hf2 hb) 0)
  have l2 : b2 < w.heap.size + 1 := by have := blk_lt (blk_below hf2 hb); omega
  obtain ⟨k3, cap3, rfl, hk3, hcall3⟩ := (hF3.below hb).calls
  have C3 := Ad.mk hcall3
  have c3 := cell_below (below_alloc (Below.refl _ w) (.cells #[.int .i64 0, .int .i64 0, .string ⟨#[]⟩, .slice none 0 0] 42)) (blk_cell (blk_below hf3 hb) 0)
  have l3 : b3 < w.heap.size + 1 := by have := blk_lt (blk_below hf3 hb); omega
  have HE := Ad.mk hE
  have HQ := Ad.mk hQ
  clear hf1 hF1 hcall1 hf2 hF2 hcall2 hf3 hF3 hcall3 hb hE hQ
  obtain ⟨T, hT⟩ : ∃ T, truthV (F1 E) = T := ⟨_, rfl⟩
  have HT := Ad.mk hT
  cases T
  · go_enter Tryz.func284, Tryz.ntmps284
    go_wp2_with (first
      | ((with_reducible refine (C1.out _ a E Q (below_alloc (Below.refl _ _) _) (HE.out.below (below_alloc (Below.refl _ _) _)) (fun b h => by have := HQ.out b h; simp; omega) hok).mono ?_); rintro e1 w1 ⟨A1, d1, rfl, ha1, hb1⟩; obtain ⟨k1', z1, y1, HB1⟩ := kcell (w.heap.size + 1) hb1 (by simp); clear ha1 hb1)
      | (go_at_call 261; ((with_reducible refine (truth_calls _ _ (F1 E) _).mono ?_); rintro e2 w2 ⟨rfl, hb2⟩; obtain ⟨k2', z2, y2, HB2⟩ := kcell (w.heap.size + 1) hb2 y1; clear hb2))
      | ((with_reducible refine (C3.out _ a E Q (below_then (below_alloc (Below.refl _ _) _) (below_then HB1.out HB2.out)) (HE.out.below (below_then (below_alloc (Below.refl _ _) _) (below_then HB1.out HB2.out))) (fun b h => by have := HQ.out b h; have := y2; omega) hok).mono ?_); rintro e3 w3 ⟨A3, d3, rfl, ha3, hb3⟩; obtain ⟨k3', z3, y3, HB3⟩ := kcell (w.heap.size + 1) hb3 y2; have HA3 := Ad.mk ha3; clear ha3 hb3))
    have HZ := below_then (below_then HB1.out HB2.out) HB3.out
    have hx : condV (F1 E) (F2 E) (F3 E) = F3 E := by simp [condV, HT.out]
    rw [hx]
    exact RetV.fin HA3.out rfl rfl rfl (blk_below (blk_new2 rfl) HZ) rfl (below_then (below_alloc (Below.refl _ _) _) HZ) (Nat.le_refl _) (fun x hx hq => by have := y2; rcases hq with hq | hq; exact ⟨.inl hq, by have := HQ.out x hq; omega⟩; exact ⟨.inr (by omega), by omega⟩)
  · go_enter Tryz.func284, Tryz.ntmps284
    go_wp2_with (first
      | ((with_reducible refine (C1.out _ a E Q (below_alloc (Below.refl _ _) _) (HE.out.below (below_alloc (Below.refl _ _) _)) (fun b h => by have := HQ.out b h; simp; omega) hok).mono ?_); rintro e1 w1 ⟨A1, d1, rfl, ha1, hb1⟩; obtain ⟨k1', z1, y1, HB1⟩ := kcell (w.heap.size + 1) hb1 (by simp); clear ha1 hb1)
      | (go_at_call 261; ((with_reducible refine (truth_calls _ _ (F1 E) _).mono ?_); rintro e2 w2 ⟨rfl, hb2⟩; obtain ⟨k2', z2, y2, HB2⟩ := kcell (w.heap.size + 1) hb2 y1; clear hb2))
      | ((with_reducible refine (C2.out _ a E Q (below_then (below_alloc (Below.refl _ _) _) (below_then HB1.out HB2.out)) (HE.out.below (below_then (below_alloc (Below.refl _ _) _) (below_then HB1.out HB2.out))) (fun b h => by have := HQ.out b h; have := y2; omega) hok).mono ?_); rintro e3 w3 ⟨A3, d3, rfl, ha3, hb3⟩; obtain ⟨k3', z3, y3, HB3⟩ := kcell (w.heap.size + 1) hb3 y2; have HA3 := Ad.mk ha3; clear ha3 hb3))
    have HZ := below_then (below_then HB1.out HB2.out) HB3.out
    have hx : condV (F1 E) (F2 E) (F3 E) = F2 E := by simp [condV, HT.out]
    rw [hx]
    exact RetV.fin HA3.out rfl rfl rfl (blk_below (blk_new2 rfl) HZ) rfl (below_then (below_alloc (Below.refl _ _) _) HZ) (Nat.le_refl _) (fun x hx hq => by have := y2; rcases hq with hq | hq; exact ⟨.inl hq, by have := HQ.out x hq; omega⟩; exact ⟨.inr (by omega), by omega⟩)
def negV (v : Val) : Val := if v.k ≠ 1 ∨ v.n = -9223372036854775808 then Val.none else Val.int (-v.n)
end Go.Proofs.YtahnelihohmjfaaGreatDoor.V
namespace Go.Proofs.YtahnelihohmjfaaGreatDoor.V
open Go.RowKit
set_option linter.unusedVariables false
set_option linter.unusedSimpArgs false
theorem ccell {w w' : World} {S : Nat → Prop} (hc : Chg w w' S) : (∀ b o, b < w.heap.size → ¬ S b → w'.cell? ⟨b, o, none⟩ = w.cell? ⟨b, o, none⟩) ∧ (∀ b o, b < w.heap.size → ¬ S b → w'.frozen? ⟨b, o, none⟩ = w.frozen? ⟨b, o, none⟩) ∧ w.heap.size ≤ w'.heap.size ∧ Ad (Chg w w' S) :=
  ⟨fun b o h hn => World.cell?_of_block (w := w) (a := ⟨b, o, none⟩) (hc.block b h hn), fun b o h hn => World.frozen?_of_block (w := w) (a := ⟨b, o, none⟩) (hc.block b h hn), hc.size, ⟨hc⟩⟩
/-! ### eddysize: that it ends -/
def Cnt (w : World) (g : Nat) : Prop := ∃ x : Int, w.heap[g]? = some (.cells #[.int .i64 x] 132 (0, 0)) ∧ x ≤ 10000 ∧ -9223372036854775807 ≤ x
def CntP (w : World) (g : Nat) (e : Ending) (w' : World) : Prop := e = .returned (.tuple #[]) ∧ Cnt w' g ∧ Chg w w' (fun q => q = g)
def CntB (w : World) (g : Nat) (e : Ending) (w' : World) : Prop := ∃ b, e = .returned (.bool b) ∧ Cnt w' g ∧ Chg w w' (fun q => q = g)
theorem Cnt.alloc {w : World} {g : Nat} (h : Cnt w g) (o : Obj) : Cnt (w.alloc o) g := let ⟨x, h1, h2⟩ := h; ⟨x, blk_alloc h1 o, h2⟩
set_option maxHeartbeats 2000000 in
theorem add_calls (g : Nat) (n : Int) (w : World) (hb : Cnt w g) (hn0 : 0 ≤ n) (hn : n ≤ 9223372036854775806) :
    Calls Tryz.prog 61 #[.pointer (some ⟨g, 0, none⟩), .int .i64 n] w (CntB w g) := by
  obtain ⟨x, hb, hx, hx0⟩ := hb
  have HB := Ad.mk hb
  have c0 := blk_cell hb 0
  have f0 := blk_frozen hb 0
  clear hb
  go_enter Tryz.func61, Tryz.ntmps61
  go_wp2_with fail
  · go_ret
    exact ⟨_, rfl, ⟨x - n, blk_put HB.out 0 _ rfl, by omega, by omega⟩, (Chg.refl _ (fun q => q = g)).set rfl 0 _⟩
  · go_ret
    exact ⟨_, rfl, ⟨x, HB.out, by omega, by omega⟩, Chg.refl _ _⟩
set_option maxHeartbeats 2000000 in
theorem ok_calls (g : Nat) (w : World) (hb : Cnt w g) :
    Calls Tryz.prog 33 #[.pointer (some ⟨g, 0, none⟩)] w (CntB w g) := by
  obtain ⟨x, hb, hx, hx0⟩ := hb
  have HB := Ad.mk hb
  have c0 := blk_cell hb 0
  clear hb
  go_enter Tryz.func33, Tryz.ntmps33
  go_wp2_with fail
  go_ret
  exact ⟨_, rfl, ⟨x, HB.out, hx, hx0⟩, Chg.refl _ _⟩
def CLoop (w : World) (g : Nat) (n : Nat) (v4 : Value) (wr : World) : Prop := ∃ i : Nat, i ≤ n ∧ v4 = .int .i64 i ∧ Cnt wr g ∧ Chg w wr (fun q => q = g)
set_option maxHeartbeats 4000000 in
set_option maxRecDepth 100000 in
theorem values_calls : ∀ (N : Nat) (l : List Val), SizeOf.sizeOf l ≤ N → ∀ (Q : Nat → Prop) (A : Option Addr) (c g : Nat) (w0 w : World), VL Q w0 A c l → Below w0.heap.size w0 w → w0.heap.size ≤ g → Cnt w g →
    Calls Tryz.prog 62 #[.pointer (some ⟨g, 0, none⟩), .slice A l.length c] w (CntP w g) := by
  intro N
  induction N with
  | zero =>
    intro l hN
    cases l <;> simp at hN
  | succ N ih =>
    intro l hN Q A c g w0 w hl hB hg hb
    have HB := Ad.mk hb
    have HL := Ad.mk hl
    have HW := Ad.mk hB
    have HG := Ad.mk hg
    have hlm := hl.out.2.1
    have IH := Ad.mk ih
    have hN2 := Ad.mk hN
    clear hb hl hB hg ih hN
    go_enter Tryz.func62, Tryz.ntmps62
    go_wp2_with (go_at_call 61; refine (add_calls g l.length w HB.out (by omega) (by omega)).mono ?_; rintro e1 w1 ⟨b1, rfl, hb1, hc1⟩)
    have HB1 := Ad.mk hb1
    have HC1 := Ad.mk hc1
    clear hb1 hc1
    go_loopw [4] (fun v4 wr => CLoop w g l.length v4 wr) (fun v4 _ => l.length - (intOf v4).toNat)
    case atStart => exact ⟨0, Nat.zero_le _, rfl, HB1.out, HC1.out⟩
    case round =>
      obtain ⟨i, hi, rfl, hb2, hc2⟩ := hrel
      have HB2 := Ad.mk hb2
      have HC2 := Ad.mk hc2
      have HW2 := Ad.mk (below_chg HW.out hc2 (fun q hq => hq ▸ HG.out))
      clear hb2 hc2
      by_cases hlt : i < l.length
      · obtain ⟨ad, B, d, rfl, g0, g1, g2, g3, hv⟩ := VL.at HL.out i hlt
        have hsz := sizeAt hlt
        have G3 := Ad.mk g3
        have HV := Ad.mk hv.l
        have hi0 : (0 : Int) ≤ (i : Int) := by omega
        have hil : (i : Int) < (l.length : Int) := by omega
        have HS : Ad (SizeOf.sizeOf (l.getD i Val.none).items ≤ N) := ⟨by have := hN2.out; omega⟩
        obtain ⟨q, hq⟩ : ∃ q, (l.getD i Val.none).items = q := ⟨_, rfl⟩
        rw [hq] at HS HV G3
        clear hv g0 g1 g2 g3 hsz hq
        go_wp2_with (first
          | (go_at_call 33; refine (ok_calls g _ HB2.out).mono ?_; rintro e3 w3 ⟨b3, rfl, hb3, hc3⟩; have HW3 := Ad.mk (below_chg HW2.out hc3 (fun q hq => hq ▸ HG.out)); have HC3 := Ad.mk (HC2.out.trans hc3); have HB3 := Ad.mk hb3; clear hb3 hc3; have p3 := cell_below HW3.out G3.out)
          | (go_at_call 62; refine (IH.out q HS.out Q B d g w0 _ HV.out HW3.out HG.out HB3.out).mono ?_; rintro e5 w5 ⟨rfl, hb5, hc5⟩))
        · go_roundw
          case rel => exact ⟨i + 1, by omega, by go_num, hb5, HC3.out.trans hc5⟩
          case measure => simp [intOf]; omega
        · refine ⟨rfl, .tuple #[], by simp [results, Tryz.results62, go_sem], ?_⟩
          exact ⟨rfl, HB3.out, HC3.out⟩
      · have hil : ¬ (i : Int) < (l.length : Int) := by omega
        go_wp2_with fail
        refine ⟨rfl, .tuple #[], by simp [results, Tryz.results62, go_sem], ?_⟩
        exact ⟨rfl, HB2.out, HC2.out⟩
set_option maxHeartbeats 2000000 in
theorem record_calls (Q : Nat → Prop) (key : ByteArray) (v : Val) (ls : List Int) (A B : Option Addr) (c d g : Nat) (w0 w : World) (hl : VL Q w0 A c v.items) (hi : ls.length ≤ 140737488355328) (hB : Below w0.heap.size w0 w) (hg : w0.heap.size ≤ g) (hb : Cnt w g) :
    Calls Tryz.prog 34 #[.pointer (some ⟨g, 0, none⟩), .agg #[.string key, .int .i64 v.k, .int .i64 v.n, .string v.s, .slice A v.items.length c, .slice B ls.length d]] w (CntP w g) := by
  have HB := Ad.mk hb
  have HL := Ad.mk hl
  have HW := Ad.mk hB
  have HG := Ad.mk hg
  have hgl : ¬ w.heap.size = g := by obtain ⟨x, h, _⟩ := hb; have := blk_lt h; omega
  clear hb hl hB hg
  go_enter Tryz.func34, Tryz.ntmps34
  go_wp2_with (first
    | (go_at_call 61; refine (add_calls g (1 + ls.length) _ (HB.out.alloc _) (by omega) (by omega)).mono ?_; rintro e1 w1 ⟨b1, rfl, hb1, hc1⟩; obtain ⟨k1, z1, y1, HC1⟩ := ccell hc1; clear hc1)
    | (go_at_call 62; refine (values_calls _ _ (Nat.le_refl _) Q A c g w0 _ HL.out (below_chg (below_then HW.out (below_alloc (Below.refl _ _) _)) HC1.out (fun q hq => hq ▸ HG.out)) HG.out hb1).mono ?_; rintro e5 w5 ⟨rfl, hb5, hc5⟩))
  go_end0
  exact ⟨rfl, hb5, ((Chg.refl _ _).alloc _).trans (HC1.out.trans hc5)⟩
end Go.Proofs.YtahnelihohmjfaaGreatDoor.V
namespace Go.Proofs.YtahnelihohmjfaaGreatDoor.V
open Go.RowKit
set_option linter.unusedVariables false
set_option linter.unusedSimpArgs false
set_option maxHeartbeats 4000000 in
theorem records1_calls (Q : Nat → Prop) (key : ByteArray) (v : Val) (ls : List Int) (A B : Option Addr) (c d g b : Nat) (w0 w : World) (hl : VL Q w0 A c v.items) (hi : ls.length ≤ 140737488355328) (hr : w0.heap[b]? = some (.cells #[.string key, .int .i64 v.k, .int .i64 v.n, .string v.s, .slice A v.items.length c, .slice B ls.length d] 45 (0, 0))) (hB : Below w0.heap.size w0 w) (hg : w0.heap.size ≤ g) (hb : Cnt w g) :
    Calls Tryz.prog 48 #[.pointer (some ⟨g, 0, none⟩), .slice (some ⟨b, 0, none⟩) 1 1] w (CntP w g) := by
  have HB := Ad.mk hb
  have HL := Ad.mk hl
  have HW := Ad.mk hB
  have HG := Ad.mk hg
  have HRr := Ad.mk hr
  clear hb hl hB hg hr
  go_enter Tryz.func48, Tryz.ntmps48
  go_wp2_with fail
  go_loopw [4] (fun v4 wr => CLoop w g 1 v4 wr) (fun v4 _ => 1 - (intOf v4).toNat)
  case atStart => exact ⟨0, Nat.zero_le _, rfl, HB.out, Chg.refl _ _⟩
  case round =>
    obtain ⟨i, hi1, rfl, hb2, hc2⟩ := hrel
    have HB2 := Ad.mk hb2
    have HC2 := Ad.mk hc2
    have hw2 := below_chg HW.out hc2 (fun q hq => hq ▸ HG.out)
    have hrr := blk_below HRr.out hw2
    have HW2 := Ad.mk hw2
    have h0 := blk_cell hrr 0
    have h1 := blk_cell hrr 1
    have h2 := blk_cell hrr 2
    have h3 := blk_cell hrr 3
    have h4 := blk_cell hrr 4
    have h5 := blk_cell hrr 5
    clear hb2 hc2 hw2 hrr
    by_cases hlt : i < 1
    · obtain rfl : i = 0 := by omega
      go_wp2_with (first
        | (go_at_call 33; refine (ok_calls g _ HB2.out).mono ?_; rintro e3 w3 ⟨b3, rfl, hb3, hc3⟩; obtain ⟨k3, z3, y3, HC3⟩ := ccell hc3; have HB3 := Ad.mk hb3; have hrr := blk_below HRr.out (below_chg HW2.out hc3 (fun q hq => hq ▸ HG.out)); clear hb3 hc3; have j0 := blk_cell hrr 0; have j1 := blk_cell hrr 1; have j2 := blk_cell hrr 2; have j3 := blk_cell hrr 3; have j4 := blk_cell hrr 4; have j5 := blk_cell hrr 5; clear hrr)
        | (go_at_call 34; refine (record_calls Q key v ls A B c d g w0 _ HL.out hi (below_chg HW2.out HC3.out (fun q hq => hq ▸ HG.out)) HG.out HB3.out).mono ?_; rintro e5 w5 ⟨rfl, hb5, hc5⟩))
      · go_roundw
        case rel => exact ⟨1, by omega, by go_num, hb5, HC2.out.trans (HC3.out.trans hc5)⟩
        case measure => simp [intOf]
      · refine ⟨rfl, .tuple #[], by simp [results, Tryz.results48, go_sem], ?_⟩
        exact ⟨rfl, HB3.out, HC2.out.trans HC3.out⟩
    · obtain rfl : i = 1 := by omega
      go_wp2_with fail
      refine ⟨rfl, .tuple #[], by simp [results, Tryz.results48, go_sem], ?_⟩
      exact ⟨rfl, HB2.out, HC2.out⟩
/-- a bool, and nothing that was there turned -/
def RetB (w : World) (e : Ending) (w' : World) : Prop := ∃ b, e = .returned (.bool b) ∧ Below w.heap.size w w'
set_option maxHeartbeats 2000000 in
theorem records_calls (Q : Nat → Prop) (key : ByteArray) (v : Val) (ls : List Int) (A B : Option Addr) (c d b : Nat) (w : World) (hl : VL Q w A c v.items) (hi : ls.length ≤ 140737488355328) (hr : w.heap[b]? = some (.cells #[.string key, .int .i64 v.k, .int .i64 v.n, .string v.s, .slice A v.items.length c, .slice B ls.length d] 45 (0, 0))) :
    Calls Tryz.prog 18 #[.slice (some ⟨b, 0, none⟩) 1 1] w (RetB w) := by
  have HL := Ad.mk hl
  have HRr := Ad.mk hr
  clear hl hr
  have hN : ∀ w : World, Calls Tryz.prog 32 #[] w (fun e w' => e = .returned (.pointer (some ⟨w.heap.size, 0, none⟩)) ∧ w.alloc (.cells #[.int .i64 10000] 132) = w') := fun w => by
    go_enter Tryz.func32, Tryz.ntmps32
    go_wp2_with fail
    go_ret
    exact ⟨rfl, rfl⟩
  have HN := Ad.mk hN
  clear hN
  go_enter Tryz.func18, Tryz.ntmps18
  go_wp2_with (first
    | (go_at_call 32; refine (HN.out _).mono ?_; rintro e0 w0 ⟨rfl, rfl⟩)
    | (go_at_call 48; refine (records1_calls Q key v ls A B c d w.heap.size b w _ HL.out hi HRr.out (below_alloc (Below.refl _ _) _) (by omega) ⟨10000, blk_new _ _, by omega, by omega⟩).mono ?_; rintro e1 w1 ⟨rfl, hb1, hc1⟩; have HB1 := Ad.mk hb1; have HC1 := Ad.mk hc1; clear hb1 hc1)
    | (go_at_call 33; refine (ok_calls w.heap.size _ HB1.out).mono ?_; rintro e3 w3 ⟨b3, rfl, hb3, hc3⟩))
  go_ret
  exact ⟨_, rfl, below_chg (below_alloc (Below.refl _ _) _) (HC1.out.trans hc3) (fun q hq => by omega)⟩
end Go.Proofs.YtahnelihohmjfaaGreatDoor.V
