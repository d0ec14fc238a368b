import Derived.Test.YtammigfckdgljaaPWitnessSplita3
import Derived.Test.YtammigfckdgljaaPWitnessSplitr0
import Derived.Test.YtammigfckdgljaaPWitnessSplitgSame
import Derived.Test.YtammigfckdgljaaPWitnessSplitgU2
namespace Go.Proofs.Ytammigfckdgljaa.PWitnessSplit
open Go.RowKit Go.Maps Go.Proofs.YtammigfckdgljaaW.PrintWords Go.Proofs.YtammigfckdgljaaW.PrintLast Go.Proofs.YtammigfckdgljaaW.PrintMore
set_option linter.unusedVariables false
set_option linter.unusedSimpArgs false

theorem sameI_l0 (es : List Int) (hl : es.length ≤ 9000000000000) (d : Nat) : ∀ (k i : Nat), i + d = es.length → d < k → eddylaw18_sameInts.l0 k es es (i : Int) = some true := by
  induction d with
  | zero =>
    intro k i hi hk
    obtain ⟨k, rfl⟩ : ∃ m, k = m + 1 := ⟨k - 1, by omega⟩
    rw [eddylaw18_sameInts.l0, if_neg (by omega)]
  | succ d ih =>
    intro k i hi hk
    obtain ⟨k, rfl⟩ : ∃ m, k = m + 1 := ⟨k - 1, by omega⟩
    rw [eddylaw18_sameInts.l0, if_pos (by omega), if_pos (by omega), if_pos (by omega), if_pos rfl, wrap_succ i (by omega)]
    exact ih k (i + 1) (by omega) (by omega)
theorem sameE_l0 (es : List S48) (hl : es.length ≤ 9000000000000) (d : Nat) : ∀ (k i : Nat), i + d = es.length → d < k → eddylaw18_sameEvents.l0 k es es (i : Int) = some true := by
  induction d with
  | zero =>
    intro k i hi hk
    obtain ⟨k, rfl⟩ : ∃ m, k = m + 1 := ⟨k - 1, by omega⟩
    rw [eddylaw18_sameEvents.l0, if_neg (by omega)]
  | succ d ih =>
    intro k i hi hk
    obtain ⟨k, rfl⟩ : ∃ m, k = m + 1 := ⟨k - 1, by omega⟩
    rw [eddylaw18_sameEvents.l0, if_pos (by omega), if_pos (by omega), if_pos (by omega), if_neg (by simp), wrap_succ i (by omega)]
    exact ih k (i + 1) (by omega) (by omega)
theorem sameIs (es : List Int) (hl : es.length ≤ 9000000000000) (k : Nat) (hk : es.length < k) : eddylaw18_sameInts.f k es es = some true := by
  unfold eddylaw18_sameInts.f
  rw [if_pos rfl]
  exact sameI_l0 es hl es.length k 0 (by omega) hk
theorem sameEs (es : List S48) (hl : es.length ≤ 9000000000000) (k : Nat) (hk : es.length < k) : eddylaw18_sameEvents.f k es es = some true := by
  unfold eddylaw18_sameEvents.f
  rw [if_pos rfl]
  exact sameE_l0 es hl es.length k 0 (by omega) hk
structure Small (x : Av) : Prop where
  a : x.a.length ≤ 8000000000000
  b : x.b.length ≤ 8000000000000
  c : x.c.length ≤ 8000000000000
  p : x.p.length ≤ 8000000000000
/-- two answers of one content are the same -/
theorem same_true (va vb vc vp ua ub uc up : Value) (x : Av) (lo lo' : Nat) (w : World) (h : Own4 w lo va vb vc vp x) (h' : Own4 w lo' ua ub uc up x) (hs : Small x) :
    Calls Try.prog 27 #[aV va vb vc vp x, aV ua ub uc up x] w fun e w' => e = .returned (.bool true) ∧ Below w.heap.size w w' := by
  obtain ⟨A1, c1, rfl, k1, r1⟩ := Kd.R_reads h.a
  obtain ⟨A2, c2, rfl, k2, r2⟩ := Kd.R_reads h.b
  obtain ⟨A3, c3, rfl, k3, r3⟩ := Kd.R_reads h.c
  obtain ⟨A4, c4, rfl, k4, r4⟩ := Kd.R_reads h.p
  obtain ⟨B1, d1, rfl, j1, s1⟩ := Kd.R_reads h'.a
  obtain ⟨B2, d2, rfl, j2, s2⟩ := Kd.R_reads h'.b
  obtain ⟨B3, d3, rfl, j3, s3⟩ := Kd.R_reads h'.c
  obtain ⟨B4, d4, rfl, j4, s4⟩ := Kd.R_reads h'.p
  obtain ⟨h1, h2, h3, h4⟩ := hs
  refine eddylaw18_answers_same.calls (x.a.length + x.b.length + x.c.length + x.p.length + 1) A1 c1 x.a A2 c2 x.b A3 c3 x.c A4 c4 x.p x.e x.f x.h B1 d1 x.a B2 d2 x.b B3 d3 x.c B4 d4 x.p x.e x.f x.h true w r1 k1 r2 k2 r3 k3 r4 k4 s1 j1 s2 j2 s3 j3 s4 j4 ?_
  unfold eddylaw18_answers_same.f
  rw [if_pos rfl, if_pos rfl, if_pos rfl, sameEs _ (by omega) _ (by omega), Option.bind_some, if_pos rfl, sameEs _ (by omega) _ (by omega), Option.bind_some, if_pos rfl, sameEs _ (by omega) _ (by omega), Option.bind_some, if_pos rfl, sameIs _ (by omega) _ (by omega), Option.bind_some]
theorem Own4.lower {w : World} {lo : Nat} {va vb vc vp : Value} {x : Av} (h : Own4 w lo va vb vc vp x) : Own4 w 0 va vb vc vp x := ⟨Kd.R_lower h.a (Nat.zero_le _), Kd.R_lower h.b (Nat.zero_le _), Kd.R_lower h.c (Nat.zero_le _), Kd.R_lower h.p (Nat.zero_le _), h.ab, h.ac, h.bc⟩
/-- an answer in a variable: its four rows lie in blocks of P -/
structure Box (W : World) (b : Nat) (P : Nat → Prop) (x : Av) : Prop where mk ::
  out : ∃ va vb vc vp : Value, Own4 W 0 va vb vc vp x ∧ (∀ q, In4 va vb vc vp q → P q) ∧ W.heap[b]? = some (.cells #[va, vb, vc, vp, .int .i64 x.e, .int .i64 x.f, .int .i64 x.h] 52 (0, 0))
theorem Box.chg {W W' : World} {b : Nat} {P S : Nat → Prop} {x : Av} (h : Box W b P x) (hc : Chg W W' S) (hp : ∀ q, P q → ¬ S q) (hb : ¬ S b) : Box W' b P x := by
  obtain ⟨va, vb, vc, vp, h1, h2, h3⟩ := h.out
  exact ⟨va, vb, vc, vp, h1.kept hc (fun q hq => hp q (h2 q hq)), h2, hc.blk h3 hb⟩
theorem Box.below {W W' : World} {b : Nat} {P : Nat → Prop} {x : Av} (h : Box W b P x) (hb : Below W.heap.size W W') : Box W' b P x := h.chg (S := fun _ => False) (Chg.of_below hb) (fun _ _ hq => hq) (fun hq => hq)
theorem Box.new {w W : World} {va vb vc vp : Value} {x : Av} (h : Four W w.heap.size va vb vc vp x) : Box (W.alloc (.cells #[va, vb, vc, vp, .int .i64 x.e, .int .i64 x.f, .int .i64 x.h] 52)) W.heap.size (fun q => w.heap.size ≤ q ∧ q < W.heap.size) x :=
  ⟨va, vb, vc, vp, (h.own.kept (S := fun _ => False) (Chg.of_below (below_alloc (Below.refl _ _) _)) (fun _ _ hq => hq)).lower, fun q hq => h.own.lo q hq, Go.heap_alloc_new _ _⟩
theorem Box.lt {W : World} {b : Nat} {P : Nat → Prop} {x : Av} (h : Box W b P x) : b < W.heap.size := by
  obtain ⟨va, vb, vc, vp, _, _, h3⟩ := h.out
  exact (Array.getElem?_eq_some_iff.1 h3).1
theorem below_chg {w W W' : World} {S : Nat → Prop} (h : Below w.heap.size w W) (hc : Chg W W' S) (hs : ∀ q, S q → w.heap.size ≤ q) : Below w.heap.size w W' :=
  ⟨hc.os.trans h.os, hc.tape.trans h.tape, hc.output.trans h.output, Nat.le_trans h.size hc.size, fun i hi => (hc.block i (Nat.lt_of_lt_of_le hi h.size) (fun hq => by have := hs i hq; omega)).trans (h.block i hi)⟩
theorem askP_len (l : List S46) (id tasks : Int) (hl : l.length ≤ 4398046510976) : (askP l id tasks).a.length ≤ 4398046510976 ∧ (askP l id tasks).b.length ≤ 4398046510976 ∧ (askP l id tasks).c.length ≤ 4398046510976 ∧ (askP l id tasks).p.length ≤ 4398046510976 := by
  have h1 := splitP_len l id tasks
  have h2 := lineP_len l tasks
  have h3 := pathP_len l id tasks
  exact ⟨by unfold askP; simp only; omega, by unfold askP; simp only; omega, by unfold askP; simp only; omega, by unfold askP; simp only; omega⟩
theorem refT_bne (l : List S46) (id tasks : Int) (hl : l.length ≤ 4398046510976) : ∃ k, eddylaw18_refusable.f k l id tasks = some ((askP l id tasks).e != 0) := by
  obtain ⟨k, hk⟩ := refT_is l id tasks hl
  refine ⟨k, hk.trans ?_⟩
  congr 1
  show decide ((splitP l id tasks).2.2 ≠ 0) = ((splitP l id tasks).2.2 != 0)
  rw [Bool.eq_iff_iff]
  simp
theorem askP_small (l : List S46) (id tasks : Int) (hl : l.length ≤ 4398046510976) : Small (askP l id tasks) := by
  have h1 := splitP_len l id tasks
  have h2 := lineP_len l tasks
  have h3 := pathP_len l id tasks
  exact ⟨by unfold askP; simp only; omega, by unfold askP; simp only; omega, by unfold askP; simp only; omega, by unfold askP; simp only; omega⟩
/-- a call's answer, laid into a variable of its own -/
def AskBox (w : World) (x : Av) (e : Ending) (w' : World) : Prop := ∃ (a1 : Option Addr) (n1 : Nat) (a2 : Option Addr) (n2 : Nat) (a3 : Option Addr) (n3 : Nat) (a4 : Option Addr) (n4 : Nat) (W : World),
  e = .returned (.agg #[.slice a1 x.a.length n1, .slice a2 x.b.length n2, .slice a3 x.c.length n3, .slice a4 x.p.length n4, .int .i64 x.e, .int .i64 x.f, .int .i64 x.h]) ∧
  W = w'.alloc (.cells #[.slice a1 x.a.length n1, .slice a2 x.b.length n2, .slice a3 x.c.length n3, .slice a4 x.p.length n4, .int .i64 x.e, .int .i64 x.f, .int .i64 x.h] 52) ∧
  Box W w'.heap.size (fun q => w.heap.size ≤ q ∧ q < w'.heap.size) x ∧ Below w.heap.size w W ∧ w.heap.size ≤ w'.heap.size ∧ w'.heap.size < W.heap.size ∧ Below w.heap.size w w'
theorem AskPost.use {w : World} {x : Av} {e : Ending} {w' : World} (h : AskPost w x e w') : AskBox w x e w' := by
  obtain ⟨va, vb, vc, vp, rfl, h4, hb⟩ := h
  obtain ⟨a1, n1, rfl⟩ := Kd.R_slice h4.a
  obtain ⟨a2, n2, rfl⟩ := Kd.R_slice h4.b
  obtain ⟨a3, n3, rfl⟩ := Kd.R_slice h4.c
  obtain ⟨a4, n4, rfl⟩ := Kd.R_slice h4.p
  exact ⟨a1, n1, a2, n2, a3, n3, a4, n4, _, rfl, rfl, Box.new h4, below_alloc hb _, hb.size, by simp, hb⟩
theorem asked_box (A0 : Option Addr) (c0 : Nat) (l : List S46) (id tasks : Int) (w : World) (hr : Kd.C k46 w A0 l.length l) (hc : l.length ≤ c0) (hl : l.length ≤ 4398046510976) :
    Calls Try.prog 25 #[.slice A0 l.length c0, .int .i64 id, .int .i64 tasks] w (AskBox w (askP l id tasks)) := (asked_calls A0 c0 l id tasks w hr hc hl).mono fun _ _ h => h.use
theorem kept_box {va vb vc vp : Value} {x : Av} {w : World} {lo : Nat} (h : Own4 w lo va vb vc vp x) (hs : Small x) :
    Calls Try.prog 26 #[.agg #[va, vb, vc, vp, .int .i64 x.e, .int .i64 x.f, .int .i64 x.h]] w (AskBox w x) := by
  obtain ⟨A1, c1, rfl, k1, r1⟩ := Kd.R_reads h.a
  obtain ⟨A2, c2, rfl, k2, r2⟩ := Kd.R_reads h.b
  obtain ⟨A3, c3, rfl, k3, r3⟩ := Kd.R_reads h.c
  obtain ⟨A4, c4, rfl, k4, r4⟩ := Kd.R_reads h.p
  exact (kept_calls A1 c1 A2 c2 A3 c3 A4 c4 x w ⟨r1, r2, r3, r4, k1, k2, k3, k4⟩ hs.a hs.b hs.c hs.p).mono fun _ _ h => h.use
theorem Box.opn {W : World} {b : Nat} {P : Nat → Prop} {x : Av} (h : Box W b P x) : ∃ (a1 : Option Addr) (n1 : Nat) (a2 : Option Addr) (n2 : Nat) (a3 : Option Addr) (n3 : Nat) (a4 : Option Addr) (n4 : Nat),
    Own4 W 0 (.slice a1 x.a.length n1) (.slice a2 x.b.length n2) (.slice a3 x.c.length n3) (.slice a4 x.p.length n4) x ∧ (∀ q, In4 (.slice a1 x.a.length n1) (.slice a2 x.b.length n2) (.slice a3 x.c.length n3) (.slice a4 x.p.length n4) q → P q) ∧
    W.cell? ⟨b, 0, none⟩ = some (.slice a1 x.a.length n1) ∧ W.cell? ⟨b, 1, none⟩ = some (.slice a2 x.b.length n2) ∧ W.cell? ⟨b, 2, none⟩ = some (.slice a3 x.c.length n3) ∧ W.cell? ⟨b, 3, none⟩ = some (.slice a4 x.p.length n4) ∧ W.cell? ⟨b, 4, none⟩ = some (.int .i64 x.e) ∧ W.cell? ⟨b, 5, none⟩ = some (.int .i64 x.f) ∧ W.cell? ⟨b, 6, none⟩ = some (.int .i64 x.h) ∧ W.heap[b]? = some (.cells #[.slice a1 x.a.length n1, .slice a2 x.b.length n2, .slice a3 x.c.length n3, .slice a4 x.p.length n4, .int .i64 x.e, .int .i64 x.f, .int .i64 x.h] 52 (0, 0)) := by
  obtain ⟨va, vb, vc, vp, h1, h2, h3⟩ := h.out
  obtain ⟨a1, n1, rfl⟩ := Kd.R_slice h1.a
  obtain ⟨a2, n2, rfl⟩ := Kd.R_slice h1.b
  obtain ⟨a3, n3, rfl⟩ := Kd.R_slice h1.c
  obtain ⟨a4, n4, rfl⟩ := Kd.R_slice h1.p
  obtain ⟨s0, s1, s2, s3, s4, s5, s6⟩ := seven h3
  exact ⟨a1, n1, a2, n2, a3, n3, a4, n4, h1, h2, s0, s1, s2, s3, s4, s5, s6, h3⟩
/-- two variables of one content -/
theorem same_box {va vb vc vp ua ub uc up : Value} {x : Av} {w : World} (h : Own4 w 0 va vb vc vp x) (h' : Own4 w 0 ua ub uc up x) (hs : Small x) :
    Calls Try.prog 27 #[.agg #[va, vb, vc, vp, .int .i64 x.e, .int .i64 x.f, .int .i64 x.h], .agg #[ua, ub, uc, up, .int .i64 x.e, .int .i64 x.f, .int .i64 x.h]] w fun e w' => e = .returned (.bool true) ∧ Below w.heap.size w w' := same_true va vb vc vp ua ub uc up x 0 0 w h h' hs
theorem Own4.belowB {w w1 : World} {lo : Nat} {va vb vc vp : Value} {x : Av} (h : Own4 w lo va vb vc vp x) (hb : Below w.heap.size w w1) : Own4 w1 lo va vb vc vp x := h.kept (S := fun _ => False) (Chg.of_below hb) (fun _ _ hq => hq)
/-- x, written: a variable of like lists -/
def WriteBox (w : World) (va vb vc vp : Value) (x : Av) (e : Ending) (w' : World) : Prop := e = .returned (.tuple #[]) ∧ ∃ y, Own4 w' 0 va vb vc vp y ∧ Alike y x ∧ Chg w w' (In4 va vb vc vp)
theorem writes_box {va vb vc vp : Value} {x : Av} {w : World} (n : Int) (h : Own4 w 0 va vb vc vp x) (hs : Small x) (hn0 : 0 ≤ n) (hn : n ≤ 10000) :
    Calls Try.prog 28 #[.agg #[va, vb, vc, vp, .int .i64 x.e, .int .i64 x.f, .int .i64 x.h], .int .i64 n] w (WriteBox w va vb vc vp x) := writes_calls va vb vc vp x n 0 w h hn0 hn hs.a hs.b hs.c hs.p
/-- what has grown, laid into a variable of its own -/
def GrowBox (w : World) (va vb vc vp : Value) (x : Av) (e : Ending) (w' : World) : Prop := ∃ (a1 : Option Addr) (n1 : Nat) (a2 : Option Addr) (n2 : Nat) (a3 : Option Addr) (n3 : Nat) (a4 : Option Addr) (n4 : Nat) (y : Av) (W : World),
  e = .returned (.agg #[.slice a1 y.a.length n1, .slice a2 y.b.length n2, .slice a3 y.c.length n3, .slice a4 y.p.length n4, .int .i64 y.e, .int .i64 y.f, .int .i64 y.h]) ∧
  W = w'.alloc (.cells #[.slice a1 y.a.length n1, .slice a2 y.b.length n2, .slice a3 y.c.length n3, .slice a4 y.p.length n4, .int .i64 y.e, .int .i64 y.f, .int .i64 y.h] 52) ∧
  Box W w'.heap.size (fun q => In4 va vb vc vp q ∨ w.heap.size ≤ q ∧ q < w'.heap.size) y ∧ Chg w W (In4 va vb vc vp) ∧ w.heap.size ≤ w'.heap.size ∧ w'.heap.size < W.heap.size ∧
  y.a.length = x.a.length + 40 ∧ y.b.length = x.b.length + 40 ∧ y.c.length = x.c.length + 40 ∧ y.p.length = x.p.length + 40
theorem grows_box {va vb vc vp : Value} {x : Av} {w : World} (n : Int) (h : Own4 w 0 va vb vc vp x) (hs : Small x) (hn0 : 0 ≤ n) (hn : n ≤ 10000) :
    Calls Try.prog 29 #[.agg #[va, vb, vc, vp, .int .i64 x.e, .int .i64 x.f, .int .i64 x.h], .int .i64 n] w (GrowBox w va vb vc vp x) := by
  refine Calls.mono (grows_calls va vb vc vp x n 0 w h (Nat.zero_le _) hn0 hn hs.a hs.b hs.c hs.p) ?_
  rintro e w' ⟨ua, ub, uc, up, y, rfl, ho, hc, hq, l1, l2, l3, l4⟩
  obtain ⟨a1, n1, rfl⟩ := Kd.R_slice ho.a
  obtain ⟨a2, n2, rfl⟩ := Kd.R_slice ho.b
  obtain ⟨a3, n3, rfl⟩ := Kd.R_slice ho.c
  obtain ⟨a4, n4, rfl⟩ := Kd.R_slice ho.p
  refine ⟨a1, n1, a2, n2, a3, n3, a4, n4, y, _, rfl, rfl, ⟨_, _, _, _, ho.belowB (below_alloc (Below.refl _ _) _), fun q hi => ?_, Go.heap_alloc_new _ _⟩, hc.then_ (Chg.of_below (S := fun _ => False) (below_alloc (Below.refl _ _) _)) (fun _ _ hq => hq.elim), hc.size, by simp, l1, l2, l3, l4⟩
  rcases hq q hi with h1 | h1
  · exact .inl h1
  · exact .inr ⟨h1, (ho.lo q hi).2⟩
def Zn (a b q : Nat) : Prop := a ≤ q ∧ q < b
def Zn2 (a b c d q : Nat) : Prop := (a ≤ q ∧ q < b) ∨ (c ≤ q ∧ q < d)
theorem Box.mono {W : World} {b : Nat} {P P' : Nat → Prop} {x : Av} (h : Box W b P x) (hp : ∀ q, P q → P' q) : Box W b P' x := by
  obtain ⟨va, vb, vc, vp, h1, h2, h3⟩ := h.out
  exact ⟨va, vb, vc, vp, h1, fun q hq => hp q (h2 q hq), h3⟩
theorem alloc_le (w : World) (o : Obj) : w.heap.size ≤ (w.alloc o).heap.size := (below_alloc (Below.refl _ _) o).size
theorem Box.turned {W W' : World} {b : Nat} {P : Nat → Prop} {x y : Av} {va vb vc vp : Value} (ho : Own4 W' 0 va vb vc vp y) (hq : ∀ q, In4 va vb vc vp q → P q) (hk : W.heap[b]? = some (.cells #[va, vb, vc, vp, .int .i64 x.e, .int .i64 x.f, .int .i64 x.h] 52 (0, 0))) (hal : Alike y x) (hc : Chg W W' (In4 va vb vc vp)) (hb : ¬ In4 va vb vc vp b) : Box W' b P y :=
  ⟨va, vb, vc, vp, ho, hq, by rw [hal.2.2.2.2.1, hal.2.2.2.2.2.1, hal.2.2.2.2.2.2]; exact hc.blk hk hb⟩
theorem R_own46 {w : World} {lo : Nat} {ok : Nat → Prop} {v : Value} {xs : List S46} (h : Kd.R k46 46 w lo ok v xs) : Kd.R k46 46 w lo (OwnOf v) v xs := Kd.R_mono (Kd.R_tight rfl h) (fun k hk => hk.symm)
/-- element i of an own row of entries is written -/
theorem put46 {W : World} {lo g n cap : Nat} {xs : List S46} (h : Kd.R k46 46 W lo (OwnOf (.slice (some ⟨g, 0, none⟩) n cap)) (.slice (some ⟨g, 0, none⟩) n cap) xs) (i : Nat) (hi : i < n) (a b c d : Int) :
    (∃ u0 u1 u2 u3, W.cell? ⟨g, i * 4, none⟩ = some u0 ∧ W.cell? ⟨g, i * 4 + 1, none⟩ = some u1 ∧ W.cell? ⟨g, i * 4 + 2, none⟩ = some u2 ∧ W.cell? ⟨g, i * 4 + 3, none⟩ = some u3) ∧ W.frozen? ⟨g, i * 4, none⟩ = false ∧ W.frozen? ⟨g, i * 4 + 1, none⟩ = false ∧ W.frozen? ⟨g, i * 4 + 2, none⟩ = false ∧ W.frozen? ⟨g, i * 4 + 3, none⟩ = false ∧
      Kd.R k46 46 ((((W.setCell ⟨g, i * 4, none⟩ (.int .i64 a)).setCell ⟨g, i * 4 + 1, none⟩ (.int .i64 b)).setCell ⟨g, i * 4 + 2, none⟩ (.int .i64 c)).setCell ⟨g, i * 4 + 3, none⟩ (.int .i64 d)) lo (OwnOf (.slice (some ⟨g, 0, none⟩) n cap)) (.slice (some ⟨g, 0, none⟩) n cap) (xs.set i ⟨a, b, c, d⟩) ∧
      W.grownBy ((((W.setCell ⟨g, i * 4, none⟩ (.int .i64 a)).setCell ⟨g, i * 4 + 1, none⟩ (.int .i64 b)).setCell ⟨g, i * 4 + 2, none⟩ (.int .i64 c)).setCell ⟨g, i * 4 + 3, none⟩ (.int .i64 d)) (some g) := by
  obtain ⟨cs, hcl, hM, hcc, hfz⟩ := Kd.R_elem h z46 (i : Int) (by omega) (by omega)
  obtain ⟨u0, u1, u2, u3, rfl⟩ : ∃ u0 u1 u2 u3, cs = [u0, u1, u2, u3] := by
    have hcl2 : cs.length = 4 := hcl
    match cs, hcl2 with
    | [u0, u1, u2, u3], _ => exact ⟨u0, u1, u2, u3, rfl⟩
  have := Kd.R_seg h (i : Int) (by omega) (by omega) (seg := [Value.int .i64 a, Value.int .i64 b, Value.int .i64 c, Value.int .i64 d]) (j := 0) (x' := (⟨a, b, c, d⟩ : S46)) (okp := fun _ => False) hcl hcc (by exact Nat.le_refl 4) (k46_mkM _ _ _ (⟨a, b, c, d⟩ : S46)) (fun _ hq => hq.elim)
  exact ⟨⟨u0, u1, u2, u3, hcc 0 u0 rfl, hcc 1 u1 rfl, hcc 2 u2 rfl, hcc 3 u3 rfl⟩, hfz 0, hfz 1, hfz 2, hfz 3, this.1, this.2⟩
def LOwn (W : World) (lo : Nat) (v : Value) (m : Nat) (v16 : Value) (wr : World) : Prop :=
  ∃ (i : Nat) (ys : List S46), i ≤ m ∧ v16 = .int .i64 i ∧ ys.length = m ∧ Kd.R k46 46 wr lo (OwnOf v) v ys ∧ Chg W wr (OwnOf v)
theorem set4 (xs : List S46) (i : Nat) (x : S46) : (xs.set i x).length = xs.length := List.length_set
end Go.Proofs.Ytammigfckdgljaa.PWitnessSplit
