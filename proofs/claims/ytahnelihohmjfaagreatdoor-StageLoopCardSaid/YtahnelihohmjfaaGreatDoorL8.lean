/- A part of the walk (V28, V29a, V29, V30, V31). -/
import Derived.Test.YtahnelihohmjfaaGreatDoorL7
import Derived.Laws.IdiomStrings
namespace Go.Proofs.YtahnelihohmjfaaGreatDoor.V
open Go.RowKit
set_option linter.unusedVariables false
set_option linter.unusedSimpArgs false
def revText (s : ByteArray) : ByteArray := ⟨s.data.toList.reverse.toArray⟩
theorem bytes_len (s : ByteArray) : s.data.toList.length = s.size := Array.length_toList
theorem rev_len (s : ByteArray) (h : s.size ≤ 24) : (ByteArray.mk s.data.toList.reverse.toArray).size ≤ 140737488351232 := by
  show s.data.toList.reverse.toArray.size ≤ _
  rw [List.size_toArray, List.length_reverse, bytes_len]; omega
theorem bytes_there (W : World) (s : ByteArray) (cp : Nat) (j : Nat) (hj : j < s.data.toList.length) : (W.alloc (.cells (bytesRow s cp) 5 ((bytesRow s cp).size, (bytesRow s cp).size + 1))).drew.cell? ⟨W.heap.size, j, none⟩ = some (.int .u8 ((s.data.toList.getD j 0).toNat : Int)) ∧
    (W.alloc (.cells (bytesRow s cp) 5 ((bytesRow s cp).size, (bytesRow s cp).size + 1))).drew.frozen? ⟨W.heap.size, j, none⟩ = false := by
  have hj' : j < s.data.size := by rw [← Array.length_toList]; exact hj
  have e := bytesRow_at s cp j hj'
  refine ⟨?_, ?_⟩
  · refine (World.cell?_alloc_mark W.drew _ _ _ j).trans (e.trans ?_)
    rw [List.getD_eq_getElem?_getD, List.getElem?_eq_getElem hj]; simp
  · refine (World.frozen?_alloc_mark W.drew _ _ _ _ j).trans ?_
    have : j < (bytesRow s cp).size := (Array.getElem?_eq_some_iff.1 e).1
    rw [decide_eq_false (by omega)]; rfl
theorem bytes_back {w : World} {g n c : Nat} {l : List UInt8} (hn : n = l.length) (hc : ∀ j, j < l.length → w.cell? ⟨g, j, none⟩ = some (.int .u8 ((l.getD j 0).toNat : Int))) : (convert 169 9 (.slice (some ⟨g, 0, none⟩) n c)).run Tryz.prog w = .ok (.string ⟨l.toArray⟩) w := by
  subst hn
  refine run_convert_bytes_back w 169 9 5 ⟨g, 0, none⟩ c l Tryz.underlying169 Tryz.underlying5 Tryz.underlying9 fun j hj => ?_
  rw [add_plain, hc j hj, List.getD_eq_getElem?_getD, List.getElem?_eq_getElem hj]; rfl
theorem revB_n (g n c : Nat) (l : List UInt8) (w : World) (hn : n = l.length) (hm : l.length ≤ 1000) (hc : ∀ j, j < l.length → w.cell? ⟨g, j, none⟩ = some (.int .u8 ((l.getD j 0).toNat : Int)) ∧ w.frozen? ⟨g, j, none⟩ = false) :
    Calls Tryz.prog 184 #[.slice (some ⟨g, 0, none⟩) n c] w (fun e w' => e = .returned (.tuple #[]) ∧ Chg w w' (· = g) ∧ ∀ c, (convert 169 9 (.slice (some ⟨g, 0, none⟩) n c)).run Tryz.prog w' = .ok (.string ⟨l.reverse.toArray⟩) w') := by
  subst hn
  refine (revB_calls g c l w hm (fun j hj => (hc j hj).1) (fun j hj => (hc j hj).2)).mono ?_
  rintro e w' ⟨rfl, h1, h2⟩
  exact ⟨rfl, h1, fun c => bytes_back (by simp) (fun j hj => h2 j (by simpa using hj))⟩
def revV (vs : List Val) : Val := bif (vs.getD 0 Val.none).k == 2 then Val.text (revText (vs.getD 0 Val.none).s) else bif (vs.getD 0 Val.none).k == 3 then Val.list (vs.getD 0 Val.none).items.reverse else Val.none
theorem kchg {W w1 : World} {S : Nat → Prop} (n : Nat) (hb : Chg W w1 S) (hS : ∀ b, S b → n ≤ b) (hn : n ≤ W.heap.size) : (∀ b o, b < n → w1.cell? ⟨b, o, none⟩ = W.cell? ⟨b, o, none⟩) ∧ (∀ b o, b < n → w1.frozen? ⟨b, o, none⟩ = W.frozen? ⟨b, o, none⟩) ∧ n ≤ w1.heap.size :=
  ⟨fun b o h => by unfold World.cell?; rw [hb.block b (by omega) (fun hs => by have := hS b hs; omega)], fun b o h => by unfold World.frozen?; rw [hb.block b (by omega) (fun hs => by have := hS b hs; omega)], by have := hb.size; omega⟩
set_option maxHeartbeats 8000000 in
set_option maxRecDepth 100000 in
theorem doRev_ok : DoOK 162 1 revV := ⟨fun w A c vs Q hn hl hQ hv => by
  obtain ⟨ad, B0, d0, rfl, g00, g01, g02, g03, ha0⟩ := arg0 hl (by omega) box0
  unfold box0 at g00 g01 g02 g03
  obtain ⟨R, hR⟩ : ∃ R, revV vs = R := ⟨_, rfl⟩
  rw [hR]
  unfold revV at hR
  have hm0 : vs.getD 0 Val.none ∈ vs := by rw [List.getD_eq_getElem?_getD, List.getElem?_eq_getElem (by omega)]; exact List.getElem_mem _
  have hv0 := valid_f (hv _ hm0)
  obtain ⟨x0, hx0⟩ : ∃ x, vs.getD 0 Val.none = x := ⟨_, rfl⟩
  rw [hx0] at hR g00 g01 g02 g03 ha0 hv0
  have HA0 := Ad.mk ha0
  have HR := Ad.mk hR
  have HQ := Ad.mk hQ
  have HV := Ad.mk hv0
  rw [hn]
  clear hR hl hQ hv hn hm0 hx0 ha0 hv0
  by_cases hk2 : (x0.k == 2) = true
  · obtain ⟨W, hW⟩ : ∃ W, w.alloc (.cells #[.int .i64 0, .int .i64 0, .string ⟨#[]⟩, .slice none 0 0] 42) = W := ⟨_, rfl⟩
    obtain ⟨cp, hcp⟩ : ∃ cp, grownCap W x0.s.size 0 5 = cp := ⟨_, rfl⟩
    have hcv := run_bytes_of_string (P := Tryz.prog) W 9 169 5 x0.s Tryz.underlying9 Tryz.underlying169 Tryz.underlying5
    have hth := bytes_there W x0.s cp
    rw [hcp] at hcv
    have hsz : W.heap.size = w.heap.size + 1 := by rw [← hW]; simp
    rw [hsz] at hcv hth
    rw [hW] at g00 g01 g02 g03
    have hbW : W.heap[w.heap.size]? = some (.cells #[.int .i64 0, .int .i64 0, .string ⟨#[]⟩, .slice none 0 0] 42 (0, 0)) := by rw [← hW]; exact blk_new w _
    have n0 := blk_cell hbW 0
    have n1 := blk_cell hbW 1
    have n2 := blk_cell hbW 2
    have n3 := blk_cell hbW 3
    have nf := fun j => blk_frozen hbW j
    have HBW := Ad.mk hbW
    clear hbW
    have HTH := Ad.mk hth
    have HW := Ad.mk hW
    have hs := HV.out.s24
    clear hth hcp
    go_enter Tryz.func162, Tryz.ntmps162
    go_wp2_with (first
      | (go_at_call 184
         have hl := bytes_len x0.s
         refine (revB_n (w.heap.size + 1) x0.s.size cp x0.s.data.toList _ hl.symm (by omega) HTH.out).mono ?_
         rintro e1 w1 ⟨rfl, hc1, hb1⟩
         have hbk := hb1 cp
         obtain ⟨k1, z1, y1⟩ := kchg (w.heap.size + 1) hc1 (by intro b hb; subst hb; exact Nat.le_refl _) (by show _ ≤ (W.heap.push _).size; rw [Array.size_push, hsz]; omega)
         have HC1 := Ad.mk hc1
         clear hc1 hb1)
      | (go_at_call 88; refine (ofText_calls (fun _ => False) _ _ (by have h := rev_len _ HV.out.s24; first | exact h | simpa using h)).mono ?_; rintro e3 w3 ⟨A3, c3, rfl, ha3, hb3⟩; obtain ⟨k3, z3, y3, HB3⟩ := kcell (w.heap.size + 1) hb3 y1; have HA3 := Ad.mk ha3; clear ha3 hb3))
    have e : R = Val.text (revText x0.s) := by rw [← HR.out, hk2]; rfl
    rw [e]
    have hc2 : Chg w w1 (fun b => w.heap.size ≤ b) := (((HW.out ▸ Chg.alloc (Chg.refl w _) _ : Chg w W _).alloc _).drew).then_ HC1.out (fun q hq he => by omega)
    exact RetV.fin HA3.out rfl rfl rfl (blk_below (HC1.out.block w.heap.size (by show _ < (W.heap.push _).size; rw [Array.size_push]; omega) (by omega) |>.trans (blk_alloc HBW.out _)) HB3.out) rfl (below_then (hc2.below fun _ h => h) HB3.out) (Nat.le_refl _) (fun x _ hq => by rcases hq with hq | hq; exact hq.elim; exact ⟨.inr (by omega), by omega⟩)
  · have hk2' : (x0.k == 2) = false := by simpa using hk2
    have hbw := blk_new w (.cells #[.int .i64 0, .int .i64 0, .string ⟨#[]⟩, .slice none 0 0] 42)
    have HBW := Ad.mk hbw
    have hl6 := HV.out.l6
    clear hbw
    by_cases hk3 : (x0.k == 3) = true
    · go_enter Tryz.func162, Tryz.ntmps162
      go_wp2_with (first
        | (go_at_call 180; refine (clone_calls Q B0 d0 x0.items _ (by exact HA0.out.l.below (below_alloc (Below.refl _ _) _)) (by intro b hb; have := HQ.out b hb; simp; omega) (by omega)).mono ?_; rintro e1 w1 ⟨v, rfl, hrow, hb1⟩; obtain ⟨A1, c1, rfl, hvl⟩ := hrow.form; have HROW := Ad.mk (hrow.base (base' := w.heap.size + 1) (by simp)); obtain ⟨k1, z1, y1, HB1⟩ := kcell (w.heap.size + 1) hb1 (by simp); clear hb1 hrow hvl)
        | (go_at_call 185; refine (revV_any _ _ _ x0.items _ (by omega) HROW.out).mono ?_; rintro e2 w2 ⟨rfl, hc2, hr2⟩; obtain ⟨k2, z2, y2⟩ := kchg (w.heap.size + 1) hc2 (by intro b hb; exact hb) y1; have HC2 := Ad.mk hc2; have HR2 := Ad.mk hr2; clear hc2 hr2)
        | (go_at_call 183; obtain ⟨A2, c2, he2, hv2⟩ := HR2.out.form; injection he2 with h1 h2 h3; subst h1; subst h3; refine (ofListN _ _ _ _ x0.items.reverse _ hv2 h2).mono ?_; clear hv2 h2; rintro e3 w3 ⟨A3, c3, rfl, ha3, hb3⟩; obtain ⟨k3, z3, y3, HB3⟩ := kcell (w.heap.size + 1) hb3 y2; have HA3 := Ad.mk ha3; clear ha3 hb3))
      have e : R = Val.list x0.items.reverse := by rw [← HR.out, hk2', hk3]; rfl
      rw [e]
      have hz2 : Below w.heap.size w w2 := below_chg (below_then (below_alloc (Below.refl _ _) _) HB1.out) HC2.out (fun q hq => by omega)
      exact RetV.fin HA3.out rfl rfl rfl (blk_below ((HC2.out.block w.heap.size (by omega) (by omega)).trans (blk_below HBW.out HB1.out)) HB3.out) rfl (below_then hz2 HB3.out) (Nat.le_refl _) (fun x _ hq => by rcases hq with (hq | hq) | hq; exact ⟨.inl hq, by have := HQ.out x hq; omega⟩; exact ⟨.inr (by omega), by omega⟩; exact ⟨.inr (by omega), by omega⟩)
    · have hk3' : (x0.k == 3) = false := by simpa using hk3
      go_enter Tryz.func162, Tryz.ntmps162
      go_wp2_with fail
      have e : R = Val.none := by rw [← HR.out, hk2', hk3']; rfl
      rw [e]
      exact RetV.fin0 (VA.none (fun _ => False) w Option.none 0) rfl rfl rfl rfl (Below.refl _ _) (fun _ _ h => h.elim)⟩
end Go.Proofs.YtahnelihohmjfaaGreatDoor.V
namespace Go.Proofs.YtahnelihohmjfaaGreatDoor.V
open Go.RowKit
set_option linter.unusedVariables false
set_option linter.unusedSimpArgs false
def swp (l : List Val) (j : Nat) : List Val := (l.set (j + 1) (l.getD j Val.none)).set j (l.getD (j + 1) Val.none)
theorem swp_len (l : List Val) (j : Nat) : (swp l j).length = l.length := by simp [swp]
def sink : List Val → Nat → List Val
  | l, 0 => l
  | l, j + 1 => bif decide (cmpV (l.getD (j + 1) Val.none) (l.getD j Val.none) < 0) then sink (swp l j) j else l
theorem sink_len : ∀ (j : Nat) (l : List Val), (sink l j).length = l.length
  | 0, l => rfl
  | j + 1, l => by
    rw [sink]
    cases decide (cmpV (l.getD (j + 1) Val.none) (l.getD j Val.none) < 0)
    · rfl
    · exact (sink_len j _).trans (swp_len l j)
def insK : Nat → List Val → Nat → List Val
  | 0, l, _ => l
  | k + 1, l, i => insK k (sink l i) (i + 1)
theorem insK_len : ∀ (k : Nat) (l : List Val) (i : Nat), (insK k l i).length = l.length
  | 0, _, _ => rfl
  | k + 1, l, i => (insK_len k _ _).trans (sink_len i l)
def sortV (l : List Val) : List Val := insK (l.length - 1) l 1
def InsLoop (Q : Nat → Prop) (base : Nat) (w : World) (g cap n : Nat) (R : List Val) (v8 v9 : Value) (wr : World) : Prop :=
  ∃ (i : Nat) (l : List Val), v8 = .int .i64 i ∧ 1 ≤ i ∧ i ≤ n ∧ l.length = n ∧ Ad (insK (n - i) l i = R) ∧ Chg w wr (fun b => base ≤ b) ∧ RowV Q base wr (.slice (some ⟨g, 0, none⟩) n cap) l
def SinkLoop (Q : Nat → Prop) (base : Nat) (w : World) (g cap n : Nat) (R : List Val) (i : Nat) (v9 : Value) (wr : World) : Prop :=
  ∃ (j : Nat) (l : List Val), v9 = .int .i64 j ∧ j ≤ i ∧ l.length = n ∧ Ad (sink l j = R) ∧ Chg w wr (fun b => base ≤ b) ∧ RowV Q base wr (.slice (some ⟨g, 0, none⟩) n cap) l
set_option maxHeartbeats 8000000 in
set_option maxRecDepth 100000 in
theorem insSort_some (Q : Nat → Prop) (base g cap n : Nat) (l : List Val) (w : World) (hn : l.length = n) (hn1 : 1 ≤ n) (hm : n ≤ 19) (hb : base ≤ w.heap.size) (hr : RowV Q base w (.slice (some ⟨g, 0, none⟩) n cap) l) :
    Calls Tryz.prog 204 #[.slice (some ⟨g, 0, none⟩) n cap, .int .i64 0, .int .i64 n, .func (.func 182) #[] #[]] w (fun e w' => e = .returned (.tuple #[]) ∧ Chg w w' (fun b => base ≤ b) ∧ RowV Q base w' (.slice (some ⟨g, 0, none⟩) n cap) (sortV l)) := by
  obtain ⟨R, hR⟩ : ∃ R, sortV l = R := ⟨_, rfl⟩
  rw [hR]
  unfold sortV at hR
  rw [hn] at hR
  have HR := Ad.mk hR
  have HROW := Ad.mk hr
  clear hR hr
  go_enter Tryz.func204, Tryz.ntmps204
  go_wp2_with fail
  go_loopw [8, 9] (fun v8 v9 wr => InsLoop Q base w g cap n R v8 v9 wr) (fun v8 _ _ => n - (intOf v8).toNat)
  case atStart => exact ⟨1, l, rfl, Nat.le_refl _, hn1, hn, HR, Chg.refl _ _, HROW.out⟩
  case round =>
    obtain ⟨i, l0, rfl, hi1, hin, hl0, HE, hch, hrow⟩ := hrel
    have HC := Ad.mk hch
    have HROW0 := Ad.mk hrow
    clear hch hrow HR HROW hn l
    by_cases hlt : i < n
    · go_wp2_with fail
      go_loopw [9] (fun v9 wr => SinkLoop Q base w g cap n (sink l0 i) i v9 wr) (fun v9 _ => (intOf v9).toNat)
      case atStart => exact ⟨i, l0, rfl, Nat.le_refl _, hl0, ⟨rfl⟩, HC.out, HROW0.out⟩
      case round =>
        obtain ⟨j, l1, rfl, hji, hl1, HS, hch, hrow⟩ := hrel
        have HC1 := Ad.mk hch
        have HROW1 := Ad.mk hrow
        clear hch hrow HC HROW0
        rcases j with _ | m
        · go_wp2_with fail
          go_region
          go_wp2_with fail
          go_roundw
          case rel => exact ⟨i + 1, l1, by go_num, by omega, by omega, hl1, ⟨by have h := HE.out; rw [show n - i = (n - (i + 1)) + 1 by omega, insK, ← HS.out] at h; exact h⟩, HC1.out.drew, HROW1.out.below (Below.refl _ _).drew⟩
          case measure => simp [intOf]; omega
        · have hrow := HROW1.out
          rw [← hl1] at hrow
          obtain ⟨hg1, hg2, hfz, hat⟩ := hrow.there
          obtain ⟨Ax, dx, a0, a1, a2, a3, hax⟩ := hat m (by omega)
          obtain ⟨Ay, dy, b0, b1, b2, b3, hay⟩ := hat (m + 1) (by omega)
          have HSN := HS.out
          rw [sink] at HSN
          obtain ⟨x, hx⟩ : ∃ x, l1.getD m Val.none = x := ⟨_, rfl⟩
          obtain ⟨y, hy⟩ : ∃ y, l1.getD (m + 1) Val.none = y := ⟨_, rfl⟩
          rw [hx] at a0 a1 a2 a3 hax HSN
          rw [hy] at b0 b1 b2 b3 hay HSN
          obtain ⟨r, hr⟩ : ∃ r, cmpV y x = r := ⟨_, rfl⟩
          rw [hr] at HSN
          have HR := Ad.mk hr
          have HX := Ad.mk hx
          have HY := Ad.mk hy
          have HAX := Ad.mk hax
          have HAY := Ad.mk hay
          have HN := Ad.mk HSN
          have q1 : (m : Int) < (n : Int) := by omega
          have q2 : (m : Int) + 1 < (n : Int) := by omega
          have q3 : (0 : Int) ≤ (m : Int) := by omega
          have q4 : (0 : Int) ≤ (m : Int) + 1 := by omega
          have q5 : (0 : Int) < (m : Int) + 1 := by omega
          have q6 : ((m + 1 : Nat) : Int) = (m : Int) + 1 := by omega
          have q8 : ((m : Int) + 1).toNat = m + 1 := by omega
          have q9 : (0 : Int) ≤ (m : Int) + 1 - 1 := by omega
          have q10 : (m : Int) + 1 - 1 < (n : Int) := by omega
          have q11 : ((m : Int) + 1 - 1).toNat = m := by omega
          have q12 : m < n := by omega
          have q13 : m + 1 < n := by omega
          have q14 : ¬ (n ≤ m) := by omega
          rw [q6]
          have qw := Go.IntWalk.i64_in (m : Int) ⟨by omega, by omega⟩
          clear hrow hat hax hay hx hy HSN hr HS q6
          go_wp2_with fail
          go_region_held3 (fun w' => w'.cell? ⟨g, (m + 1) * 4, none⟩ = some (.int .i64 y.k) ∧ w'.cell? ⟨g, (m + 1) * 4 + 1, none⟩ = some (.int .i64 y.n) ∧ w'.cell? ⟨g, (m + 1) * 4 + 2, none⟩ = some (.string y.s) ∧ w'.cell? ⟨g, (m + 1) * 4 + 3, none⟩ = some (.slice Ay y.items.length dy) ∧ w'.cell? ⟨g, m * 4, none⟩ = some (.int .i64 x.k) ∧ w'.cell? ⟨g, m * 4 + 1, none⟩ = some (.int .i64 x.n) ∧ w'.cell? ⟨g, m * 4 + 2, none⟩ = some (.string x.s) ∧ w'.cell? ⟨g, m * 4 + 3, none⟩ = some (.slice Ax x.items.length dx)) (first | go_keep | ((repeat' refine And.intro ?_ ?_) <;> exact cell_below hb1 (by assumption)))
            ((go_at_call 182; refine (compare_calls _ _ Ay Ax dy dx y x _ (by exact HAY.out.below (Below.refl _ _).drew) (by exact HAX.out.below (Below.refl _ _).drew)).mono ?_; rintro e1 w1 ⟨rfl, hb1⟩; rw [HR.out]))
          clear qw
          have HB1 := Ad.mk (below_then (Below.refl _ _).drew hb1)
          clear hb1
          have c0 := cell_below HB1.out a0
          have c1 := cell_below HB1.out a1
          have c2 := cell_below HB1.out a2
          have c3 := cell_below HB1.out a3
          have d0 := cell_below HB1.out b0
          have d1 := cell_below HB1.out b1
          have d2 := cell_below HB1.out b2
          have d3 := cell_below HB1.out b3
          have hz : ∀ j, w1.frozen? ⟨g, j, none⟩ = false := fun j => ((bcell HB1.out).2.1 g j hg2).trans (hfz j)
          clear a0 a1 a2 a3 b0 b1 b2 b3 hfz
          by_cases hr0 : r < 0
          · have qn1 : ¬ m = m + 1 := by omega
            have qw := Go.IntWalk.i64_in (m : Int) ⟨by omega, by omega⟩
            go_wp2_with fail
            go_region
            clear qw
            go_wp2_with fail
            refine ⟨⟨m, swp l1 m, rfl, by omega, (swp_len l1 m).trans hl1, ⟨by have h := HN.out; rw [decide_eq_true hr0] at h; exact h⟩, ?_, ?_⟩, by simp [intOf]⟩
            · exact ((((((((((HC1.out.then_ (Chg.of_below HB1.out) (fun _ _ h => h)).set hg1 _ _).set hg1 _ _).set hg1 _ _).set hg1 _ _).set hg1 _ _).set hg1 _ _).set hg1 _ _).set hg1 _ _).drew)
            · have hr1 := HROW1.out.below HB1.out
              rw [← hl1] at hr1
              have hr2 := hr1.put (m := m + 1) (by omega) (HAX.out.below HB1.out)
              rw [show l1.length = (l1.set (m + 1) x).length from by simp] at hr2
              have hr3 := hr2.put (m := m) (x := y) (A := Ay) (c := dy) (by simp; omega) ((HAY.out.below HB1.out).chg ((((Chg.refl w1 (fun q => q = g)).set rfl ((m + 1) * 4) (.int .i64 x.k)).set rfl ((m + 1) * 4 + 1) (.int .i64 x.n)).set rfl ((m + 1) * 4 + 2) (.string x.s) |>.set rfl ((m + 1) * 4 + 3) (.slice Ax x.items.length dx)) (fun b _ h he => h.2 he) (fun _ _ h => h))
              rw [List.length_set, hl1] at hr3
              have e : swp l1 m = (l1.set (m + 1) x).set m y := by unfold swp; rw [HX.out, HY.out]
              rw [e]
              exact hr3.below (Below.refl _ _).drew
          · go_wp2_with fail
            go_roundw
            case rel => exact ⟨i + 1, l1, by go_num, by omega, by omega, hl1, ⟨by have h := HE.out; rw [show n - i = (n - (i + 1)) + 1 by omega, insK, ← HN.out, decide_eq_false hr0] at h; exact h⟩, HC1.out.then_ (Chg.of_below HB1.out) (fun _ _ h => h), HROW1.out.below HB1.out⟩
            case measure => simp [intOf]; omega
    · go_wp2_with fail
      go_end0
      have hin' : i = n := by omega
      subst hin'
      refine ⟨rfl, HC.out, ?_⟩
      have h := HE.out
      rw [Nat.sub_self, insK] at h
      rw [← h]
      exact HROW0.out
end Go.Proofs.YtahnelihohmjfaaGreatDoor.V
namespace Go.Proofs.YtahnelihohmjfaaGreatDoor.V
open Go.RowKit
set_option linter.unusedVariables false
set_option linter.unusedSimpArgs false
theorem sortV_len (l : List Val) : (sortV l).length = l.length := insK_len _ _ _
set_option maxHeartbeats 8000000 in
set_option maxRecDepth 100000 in
theorem insSort_none (A : Option Addr) (c : Nat) (w : World) : Calls Tryz.prog 204 #[.slice A 0 c, .int .i64 0, .int .i64 0, .func (.func 182) #[] #[]] w (fun e w' => e = .returned (.tuple #[]) ∧ w' = w) := by
  go_enter Tryz.func204, Tryz.ntmps204
  go_wp2_with fail
  go_loopw [8, 9] (fun v8 v9 wr => v8 = .int .i64 1 ∧ wr = w) (fun v8 _ _ => 0)
  case atStart => exact ⟨rfl, rfl⟩
  case round =>
    obtain ⟨rfl, rfl⟩ := hrel
    go_wp2_with fail
    go_end0
    exact ⟨rfl, rfl⟩
theorem insSort_any (Q : Nat → Prop) (base n : Nat) (v : Value) (l : List Val) (w : World) (hn : n = l.length) (hm : n ≤ 19) (hb : base ≤ w.heap.size) (hr : RowV Q base w v l) :
    Calls Tryz.prog 204 #[v, .int .i64 0, .int .i64 n, .func (.func 182) #[] #[]] w (fun e w' => e = .returned (.tuple #[]) ∧ Chg w w' (fun b => base ≤ b) ∧ RowV Q base w' v (sortV l)) := by
  subst hn
  obtain ⟨ps, hps, hown, hel⟩ := hr.out
  rcases hown.2 with ⟨rfl, h0⟩ | ⟨g, cap, cur, rfl, hg, _⟩
  · have : l = [] := List.length_eq_zero_iff.1 h0
    subst this
    refine (insSort_none _ _ w).mono ?_
    rintro e w' ⟨rfl, rfl⟩
    exact ⟨rfl, Chg.refl _ _, hr⟩
  · rcases Nat.eq_zero_or_pos l.length with h0 | h0
    · have : l = [] := List.length_eq_zero_iff.1 h0
      subst this
      refine (insSort_none _ _ w).mono ?_
      rintro e w' ⟨rfl, rfl⟩
      exact ⟨rfl, Chg.refl _ _, hr⟩
    · exact insSort_some Q base g cap l.length l w rfl h0 hm hb hr
set_option maxHeartbeats 8000000 in
set_option maxRecDepth 100000 in
theorem stable_any (Q : Nat → Prop) (base n : Nat) (v : Value) (l : List Val) (w : World) (hn : n = l.length) (hm : n ≤ 19) (hb : base ≤ w.heap.size) (hr : RowV Q base w v l) :
    Calls Tryz.prog 196 #[v, .int .i64 n, .func (.func 182) #[] #[]] w (fun e w' => e = .returned (.tuple #[]) ∧ Chg w w' (fun b => base ≤ b) ∧ RowV Q base w' v (sortV l)) := by
  subst hn
  have HR := Ad.mk hr
  clear hr
  go_enter Tryz.func196, Tryz.ntmps196
  go_wp2_with fail
  go_loopw [7, 8] (fun v7 v8 wr => v7 = .int .i64 0 ∧ v8 = .int .i64 20 ∧ wr = w) (fun _ _ _ => 0)
  case atStart => exact ⟨rfl, rfl, rfl⟩
  case round =>
    obtain ⟨rfl, rfl, rfl⟩ := hrel
    have q : (l.length : Int) < 20 := by omega
    have q2 : ¬ (20 : Int) ≤ (l.length : Int) := by omega
    have q3 : ¬ (20 : Int) < (l.length : Int) := by omega
    go_wp2_with (go_at_call 204; refine (insSort_any Q base l.length v l _ rfl hm hb HR.out).mono ?_; rintro e1 w1 ⟨rfl, hc1, hr1⟩; have HC1 := Ad.mk hc1; have HR1 := Ad.mk hr1; clear hc1 hr1)
    go_loopw [6, 7, 8, 9] (fun v6 v7 v8 v9 wr => v6 = .int .i64 20 ∧ wr = w1) (fun _ _ _ _ _ => 0)
    case atStart => exact ⟨rfl, rfl⟩
    case round =>
      obtain ⟨rfl, rfl⟩ := hrel
      go_wp2_with fail
      go_end0
      exact ⟨rfl, HC1.out, HR1.out⟩
set_option maxHeartbeats 8000000 in
set_option maxRecDepth 100000 in
theorem sortStable_any (Q : Nat → Prop) (base n c : Nat) (A : Option Addr) (l : List Val) (w : World) (hn : n = l.length) (hm : n ≤ 19) (hb : base ≤ w.heap.size) (hr : RowV Q base w (.slice A n c) l) :
    Calls Tryz.prog 181 #[.slice A n c, .func (.func 182) #[] #[]] w (fun e w' => e = .returned (.tuple #[]) ∧ Chg w w' (fun b => base ≤ b) ∧ RowV Q base w' (.slice A n c) (sortV l)) := by
  subst hn
  go_enter Tryz.func181, Tryz.ntmps181
  go_wp2_with ((refine (stable_any Q base l.length _ l _ rfl hm hb hr).mono ?_); rintro e1 w1 ⟨rfl, hc1, hr1⟩)
  go_end0
  exact ⟨rfl, hc1, hr1⟩
end Go.Proofs.YtahnelihohmjfaaGreatDoor.V
namespace Go.Proofs.YtahnelihohmjfaaGreatDoor.V
open Go.RowKit
set_option linter.unusedVariables false
set_option linter.unusedSimpArgs false
def doSortV (vs : List Val) : Val := bif (vs.getD 0 Val.none).k == 3 then Val.list (sortV (vs.getD 0 Val.none).items) else Val.none
set_option maxHeartbeats 8000000 in
set_option maxRecDepth 100000 in
theorem doSort_ok : DoOK 161 1 doSortV := ⟨fun w A c vs Q hn hl hQ hv => by
  obtain ⟨ad, B0, d0, rfl, g00, g01, g02, g03, ha0⟩ := arg0 hl (by omega) box0
  unfold box0 at g00 g01 g02 g03
  obtain ⟨R, hR⟩ : ∃ R, doSortV vs = R := ⟨_, rfl⟩
  rw [hR]
  unfold doSortV at hR
  have hm0 : vs.getD 0 Val.none ∈ vs := by rw [List.getD_eq_getElem?_getD, List.getElem?_eq_getElem (by omega)]; exact List.getElem_mem _
  have hv0 := valid_f (hv _ hm0)
  obtain ⟨x0, hx0⟩ : ∃ x, vs.getD 0 Val.none = x := ⟨_, rfl⟩
  rw [hx0] at hR g00 g01 g02 g03 ha0 hv0
  have HA0 := Ad.mk ha0
  have HR := Ad.mk hR
  have HQ := Ad.mk hQ
  have HV := Ad.mk hv0
  rw [hn]
  clear hR hl hQ hv hn hm0 hx0 ha0 hv0
  have hbw := blk_new w (.cells #[.int .i64 0, .int .i64 0, .string ⟨#[]⟩, .slice none 0 0] 42)
  have HBW := Ad.mk hbw
  have hl6 := HV.out.l6
  clear hbw
  by_cases hk3 : (x0.k == 3) = true
  · have hk3' : (x0.k != 3) = false := by simpa using hk3
    go_enter Tryz.func161, Tryz.ntmps161
    go_wp2_with (first
      | (go_at_call 180; refine (clone_calls Q B0 d0 x0.items _ (by exact HA0.out.l.below (below_alloc (Below.refl _ _) _)) (by intro b hb; have := HQ.out b hb; simp; omega) (by omega)).mono ?_; rintro e1 w1 ⟨v, rfl, hrow, hb1⟩; obtain ⟨A1, c1, rfl, hvl⟩ := hrow.form; have HROW := Ad.mk (hrow.base (base' := w.heap.size + 1) (by simp)); obtain ⟨k1, z1, y1, HB1⟩ := kcell (w.heap.size + 1) hb1 (by simp); clear hb1 hrow hvl)
      | (go_at_call 181; refine (sortStable_any _ _ _ _ _ x0.items _ rfl (by omega) y1 HROW.out).mono ?_; rintro e2 w2 ⟨rfl, hc2, hr2⟩; obtain ⟨k2, z2, y2⟩ := kchg (w.heap.size + 1) hc2 (by intro b hb; exact hb) y1; have HC2 := Ad.mk hc2; have HR2 := Ad.mk hr2; clear hc2 hr2)
      | (go_at_call 183; obtain ⟨A2, c2, he2, hv2⟩ := HR2.out.form; injection he2 with h1 h2 h3; subst h1; subst h3; refine (ofListN _ _ _ _ (sortV x0.items) _ hv2 h2).mono ?_; clear hv2 h2; rintro e3 w3 ⟨A3, c3, rfl, ha3, hb3⟩; obtain ⟨k3, z3, y3, HB3⟩ := kcell (w.heap.size + 1) hb3 y2; have HA3 := Ad.mk ha3; clear ha3 hb3))
    have e : R = Val.list (sortV x0.items) := by rw [← HR.out, hk3]; rfl
    rw [e]
    have hz2 : Below w.heap.size w w2 := below_chg (below_then (below_alloc (Below.refl _ _) _) HB1.out) HC2.out (fun q hq => by omega)
    exact RetV.fin HA3.out rfl rfl rfl (blk_below ((HC2.out.block w.heap.size (by omega) (by omega)).trans (blk_below HBW.out HB1.out)) HB3.out) rfl (below_then hz2 HB3.out) (Nat.le_refl _) (fun x _ hq => by rcases hq with (hq | hq) | hq; exact ⟨.inl hq, by have := HQ.out x hq; omega⟩; exact ⟨.inr (by omega), by omega⟩; exact ⟨.inr (by omega), by omega⟩)
  · have hk3' : (x0.k != 3) = true := by simpa using hk3
    have hk3'' : (x0.k == 3) = false := by simpa using hk3
    go_enter Tryz.func161, Tryz.ntmps161
    go_wp2_with fail
    have e : R = Val.none := by rw [← HR.out, hk3'']; rfl
    rw [e]
    exact RetV.fin0 (VA.none (fun _ => False) w Option.none 0) rfl rfl rfl rfl (Below.refl _ _) (fun _ _ h => h.elim)⟩
end Go.Proofs.YtahnelihohmjfaaGreatDoor.V
namespace Go.Proofs.YtahnelihohmjfaaGreatDoor.V
open Go.RowKit
set_option linter.unusedVariables false
set_option linter.unusedSimpArgs false
def scanI : List UInt8 → Int → Option Int
  | [], n => some n
  | b :: r, n => bif decide ((b.toNat : Int) - 48 < 0) || decide (9 < (b.toNat : Int) - 48) || decide (n < (-9223372036854775808 + ((b.toNat : Int) - 48)).tdiv 10) then none else scanI r (10 * n - ((b.toNat : Int) - 48))
def intO (bo : Bool) : Option Int → Val
  | none => Val.none
  | some n => bif bo then Val.int n else bif decide (n = -9223372036854775808) then Val.none else Val.int (-n)
def intT (T : ByteArray) (bo : Bool) : Val := bif T.toList.isEmpty then Val.none else intO bo (scanI T.data.toList 0)
def intS (s : ByteArray) : Val := intT ⟨(Lib.trimPrefix s.data.toList [45]).toArray⟩ (Lib.hasPrefix s.data.toList [45])
def intV (vs : List Val) : Val := bif (vs.getD 0 Val.none).k == 2 then intS (vs.getD 0 Val.none).s else bif (vs.getD 0 Val.none).k == 1 then vs.getD 0 Val.none else Val.none
theorem scan_step {n d : Int} (hn : -9223372036854775808 ≤ n ∧ n ≤ 0) (h0 : 0 ≤ d) (h9 : d ≤ 9) (hq : ¬ n < (-9223372036854775808 + d).tdiv 10) : -9223372036854775808 ≤ 10 * n - d ∧ 10 * n - d ≤ 0 ∧ -922337203685477580 ≤ n := by
  have e : (-9223372036854775808 + d).tdiv 10 = -((9223372036854775808 - d).tdiv 10) := by rw [← Int.neg_tdiv]; congr 1; omega
  rw [e, Int.tdiv_eq_ediv_of_nonneg (by omega)] at hq
  omega
theorem quo_bound {d : Int} (h0 : 0 ≤ d) (h9 : d ≤ 9) : -9223372036854775808 ≤ (-9223372036854775808 + d).tdiv 10 ∧ (-9223372036854775808 + d).tdiv 10 ≤ 0 := by
  have e : (-9223372036854775808 + d).tdiv 10 = -((9223372036854775808 - d).tdiv 10) := by rw [← Int.neg_tdiv]; congr 1; omega
  rw [e, Int.tdiv_eq_ediv_of_nonneg (by omega)]
  omega
theorem trim_len (l p : List UInt8) : (Lib.trimPrefix l p).length ≤ l.length := by
  unfold Lib.trimPrefix
  split <;> simp
def ScanLoop (W : World) (l : List UInt8) (S : Option Int) (v6 v39 : Value) (wr : World) : Prop :=
  ∃ (i : Nat) (n : Int), i ≤ l.length ∧ v39 = .int .i64 i ∧ v6 = .int .i64 n ∧ Ad (-9223372036854775808 ≤ n ∧ n ≤ 0) ∧ wr = W ∧ Ad (scanI (l.drop i) n = S)
theorem dropB {l : List UInt8} {i : Nat} (hi : i < l.length) : l.drop i = l.getD i 0 :: l.drop (i + 1) := by
  rw [List.drop_eq_getElem_cons hi, List.getD_eq_getElem?_getD, List.getElem?_eq_getElem hi]; rfl
set_option maxHeartbeats 8000000 in
set_option maxRecDepth 100000 in
theorem doInt_ok : DoOK 158 1 intV := ⟨fun w A c vs Q hn hl hQ hv => by
  obtain ⟨ad, B0, d0, rfl, g00, g01, g02, g03, ha0⟩ := arg0 hl (by omega) box0
  replace g00 := cell_below (below_alloc (Below.refl _ _) box0) g00
  replace g01 := cell_below (below_alloc (Below.refl _ _) box0) g01
  replace g02 := cell_below (below_alloc (Below.refl _ _) box0) g02
  replace g03 := cell_below (below_alloc (Below.refl _ _) box0) g03
  unfold box0 at g00 g01 g02 g03
  obtain ⟨R, hR⟩ : ∃ R, intV vs = R := ⟨_, rfl⟩
  rw [hR]
  unfold intV at hR
  have hm0 : vs.getD 0 Val.none ∈ vs := by rw [List.getD_eq_getElem?_getD, List.getElem?_eq_getElem (by omega)]; exact List.getElem_mem _
  have hv0 := valid_f (hv _ hm0)
  obtain ⟨x0, hx0⟩ : ∃ x, vs.getD 0 Val.none = x := ⟨_, rfl⟩
  rw [hx0] at hR g00 g01 g02 g03 ha0 hv0
  have HA0 := Ad.mk ha0
  have HR := Ad.mk hR
  have HQ := Ad.mk hQ
  have HV := Ad.mk hv0
  rw [hn]
  clear hR hl hQ hv hn hm0 hx0 ha0 hv0
  by_cases hk2 : (x0.k == 2) = true
  · have hk2' : (x0.k != 2) = false := by simpa using hk2
    obtain ⟨T, hT⟩ : ∃ T, (⟨(Lib.trimPrefix x0.s.data.toList [45]).toArray⟩ : ByteArray) = T := ⟨_, rfl⟩
    obtain ⟨bo, hbo⟩ : ∃ bo, Lib.hasPrefix x0.s.data.toList [45] = bo := ⟨_, rfl⟩
    have hcp := fun w => Tryz.strings_CutPrefix x0.s ⟨#[45]⟩ w
    have e45 : (⟨#[45]⟩ : ByteArray).data.toList = [45] := rfl
    rw [e45, hT, hbo] at hcp
    have HCP := Ad.mk hcp
    have HT := Ad.mk hT
    have HBO := Ad.mk hbo
    clear hcp hT hbo
    obtain ⟨W, hW⟩ : ∃ W, (w.alloc (.cells #[.int .i64 0, .int .i64 0, .string ⟨#[]⟩, .slice none 0 0] 42)).alloc (.cells #[.int .i64 0, .int .i64 0, .string ⟨#[]⟩, .slice none 0 0] 42) = W := ⟨_, rfl⟩
    have g02' : W.cell? ⟨ad.block, ad.off + 2, none⟩ = some (.string x0.s) := by rw [← hW]; exact g02
    have g00' : W.cell? ad = some (.int .i64 x0.k) := by rw [← hW]; exact g00
    have g01' : W.cell? ⟨ad.block, ad.off + 1, none⟩ = some (.int .i64 x0.n) := by rw [← hW]; exact g01
    clear g00 g01 g02 g03
    obtain ⟨cp, hcp⟩ : ∃ cp, grownCap W T.size 0 5 = cp := ⟨_, rfl⟩
    have hcv := run_bytes_of_string (P := Tryz.prog) W 9 169 5 T Tryz.underlying9 Tryz.underlying169 Tryz.underlying5
    have hth := bytes_there W T cp
    rw [hcp] at hcv
    have hsz : W.heap.size = w.heap.size + 2 := by rw [← hW]; simp
    rw [hsz] at hcv hth
    obtain ⟨W3, hW3⟩ : ∃ W3, (W.alloc (.cells (bytesRow T cp) 5 ((bytesRow T cp).size, (bytesRow T cp).size + 1))).drew = W3 := ⟨_, rfl⟩
    have hcv2 : (convert 9 169 (.string T)).run Tryz.prog W = .ok (.slice (some ⟨w.heap.size + 2, 0, none⟩) T.size cp) W3 := hcv.trans (by rw [← hW3]; rfl)
    clear hcv
    rw [hW3] at hth
    have hb1 : W.heap[w.heap.size]? = some (.cells #[.int .i64 0, .int .i64 0, .string ⟨#[]⟩, .slice none 0 0] 42 (0, 0)) := by rw [← hW]; exact blk_alloc (blk_new w _) _
    have hb2 : W.heap[w.heap.size + 1]? = some (.cells #[.int .i64 0, .int .i64 0, .string ⟨#[]⟩, .slice none 0 0] 42 (0, 0)) := by rw [← hW]; exact blk_new2 (by simp)
    have hB3 : Below W.heap.size W W3 := by rw [← hW3]; exact (below_alloc (Below.refl _ _) _).drew
    have hB0 : Below w.heap.size w W := by rw [← hW]; exact below_alloc (below_alloc (Below.refl _ _) _) _
    have r0 := blk_cell (blk_below hb1 hB3) 0
    have r1 := blk_cell (blk_below hb1 hB3) 1
    have r2 := blk_cell (blk_below hb1 hB3) 2
    have r3 := blk_cell (blk_below hb1 hB3) 3
    have rf := fun j => blk_frozen (blk_below hb1 hB3) j
    have s0 := blk_cell (blk_below hb2 hB3) 0
    have s1 := blk_cell (blk_below hb2 hB3) 1
    have s2 := blk_cell (blk_below hb2 hB3) 2
    have s3 := blk_cell (blk_below hb2 hB3) 3
    have HTH := Ad.mk hth
    have HW3 := Ad.mk hW3
    have HBK1 := Ad.mk hb1
    have HBK2 := Ad.mk hb2
    have HB3 := Ad.mk hB3
    have HB0 := Ad.mk hB0
    clear hth hcp hb1 hb2 hB3 hB0
    subst hW
    go_enter Tryz.func158, Tryz.ntmps158
    go_wp2_with (go_at_call 178; refine (HCP.out _).mono ?_; rintro e1 w1 ⟨rfl, rfl⟩)
    · have e : R = Val.none := by rw [← HR.out, hk2]; show intS x0.s = _; unfold intS; rw [HT.out, HBO.out]; unfold intT; rw [‹T.toList.isEmpty = true›]; rfl
      rw [e]
      exact RetV.finW (VA.none (fun _ => False) _ Option.none 0) rfl rfl rfl HBK1.out (Chg.refl _ _) HB0.out (Nat.le_refl _) (fun _ _ h => h.elim)
    · have hne : T.toList.isEmpty = false := ‹T.toList.isEmpty = false›
      obtain ⟨S, hS⟩ : ∃ S, scanI T.data.toList 0 = S := ⟨_, rfl⟩
      have e : R = intO bo S := by rw [← HR.out, hk2]; show intS x0.s = _; unfold intS; rw [HT.out, HBO.out]; unfold intT; rw [hne, hS]; rfl
      have HE := Ad.mk e
      have HS := Ad.mk hS
      have hlen := bytes_len T
      have hT24 : T.size ≤ 24 := by
        have h1 := trim_len x0.s.data.toList [45]
        have h2 := bytes_len x0.s
        have h3 := HV.out.s24
        have h4 : T.size = (Lib.trimPrefix x0.s.data.toList [45]).length := by rw [← HT.out]; exact List.size_toArray ..
        omega
      clear e hS hne
      go_loopw [6, 8, 9, 39] (fun v6 v8 v9 v39 wr => ScanLoop W3 T.data.toList S v6 v39 wr) (fun _ _ _ v39 _ => T.size - (intOf v39).toNat)
      case atStart => exact ⟨0, 0, Nat.zero_le _, rfl, rfl, ⟨by decide⟩, rfl, ⟨HS.out⟩⟩
      case round =>
        obtain ⟨i, n, hi, rfl, rfl, HNB, rfl, HSC⟩ := hrel
        by_cases hlt : i < T.data.toList.length
        · obtain ⟨c1, _⟩ := HTH.out i hlt
          have HNX := HSC.out
          rw [dropB hlt, scanI] at HNX
          obtain ⟨b, hb⟩ : ∃ b, T.data.toList.getD i 0 = b := ⟨_, rfl⟩
          rw [hb] at c1 HNX
          have hb255 := b.toNat_lt
          obtain ⟨z, hz⟩ : ∃ z : Nat, b.toNat = z := ⟨_, rfl⟩
          rw [hz] at c1 HNX hb255
          have HN := Ad.mk HNX
          have q1 : (i : Int) < (T.size : Int) := by omega
          have qw := Go.IntWalk.i64_in (z : Int) ⟨by omega, by omega⟩
          have qw2 := Go.IntWalk.i64_in ((z : Int) - 48) ⟨by omega, by omega⟩
          clear HNX hb hz
          by_cases hd0 : (z : Int) - 48 < 0
          · go_wp2_with fail
            have h := HN.out
            rw [decide_eq_true hd0] at h
            have e : R = Val.none := by rw [HE.out, ← h]; rfl
            rw [e]
            exact RetV.fin (VA.none (fun _ => False) _ Option.none 0) rfl rfl rfl (blk_below HBK1.out HB3.out) rfl (below_then HB0.out HB3.out) (Nat.le_refl _) (fun _ _ h => h.elim)
          · by_cases hd9 : 9 < (z : Int) - 48
            · go_wp2_with fail
              have h := HN.out
              rw [decide_eq_true hd9, Bool.or_true] at h
              have e : R = Val.none := by rw [HE.out, ← h]; rfl
              rw [e]
              exact RetV.fin (VA.none (fun _ => False) _ Option.none 0) rfl rfl rfl (blk_below HBK1.out HB3.out) rfl (below_then HB0.out HB3.out) (Nat.le_refl _) (fun _ _ h => h.elim)
            · have qw3 := Go.IntWalk.i64_in (-9223372036854775808 + ((z : Int) - 48)) ⟨by omega, by omega⟩
              obtain ⟨t, ht⟩ : ∃ t, (-9223372036854775808 + ((z : Int) - 48)).tdiv 10 = t := ⟨_, rfl⟩
              have HTT := Ad.mk ht
              have hqb := quo_bound (d := (z : Int) - 48) (by omega) (by omega)
              rw [ht] at hqb
              have qw6 := Go.IntWalk.i64_in t ⟨hqb.1, by omega⟩
              clear hqb
              have h := HN.out
              rw [ht, decide_eq_false hd0, decide_eq_false hd9] at h
              have hN := HNB.out
              by_cases hq : n < t
              · rw [decide_eq_true hq] at h
                go_wp2_with fail
                have e : R = Val.none := by rw [HE.out, ← h]; rfl
                rw [e]
                exact RetV.fin (VA.none (fun _ => False) _ Option.none 0) rfl rfl rfl (blk_below HBK1.out HB3.out) rfl (below_then HB0.out HB3.out) (Nat.le_refl _) (fun _ _ h => h.elim)
              · obtain ⟨p1, p2, p3⟩ := scan_step hN (by omega) (by omega) (ht ▸ hq)
                have qw4 := Go.IntWalk.i64_in (10 * n) ⟨by omega, by omega⟩
                have qw5 := Go.IntWalk.i64_in (10 * n - ((z : Int) - 48)) ⟨p1, by omega⟩
                have HP := Ad.mk (And.intro p1 p2)
                have hqd := decide_eq_false hq
                rw [hqd] at h
                have HNN := Ad.mk h
                clear p1 p2 p3 h hN
                go_wp2_with fail
                clear qw qw2 qw3 qw4 qw5 qw6
                constructor
                · exact ⟨i + 1, _, hlt, by go_num, rfl, ⟨HP.out⟩, rfl, ⟨HNN.out⟩⟩
                · simp [intOf]; omega
        · have hSn : S = some n := by have h := HSC.out; rw [List.drop_eq_nil_of_le (by omega), scanI] at h; exact h.symm
          subst hSn
          have HNI : Ad (I64 n) := ⟨by have h := HNB.out; unfold I64; omega⟩
          have hw3 : w.heap.size + 2 ≤ wr.heap.size := by have := HB3.out.size; simp at this; omega
          have hnl : ¬ (i : Int) < (T.size : Int) := by omega
          cases bo
          · by_cases hmin : n = -9223372036854775808
            · have e : R = Val.none := by rw [HE.out, hmin]; rfl
              have HEE := Ad.mk e
              clear e
              go_wp2_with fail
              rw [HEE.out]
              exact RetV.fin (VA.none (fun _ => False) _ Option.none 0) rfl rfl rfl (blk_below HBK1.out HB3.out) rfl (below_then HB0.out HB3.out) (Nat.le_refl _) (fun _ _ h => h.elim)
            · have e : R = Val.int (-n) := by rw [HE.out]; show (bif decide (n = -9223372036854775808) then Val.none else Val.int (-n)) = _; rw [decide_eq_false hmin]; rfl
              have HEE := Ad.mk e
              have HM := Ad.mk hmin
              clear e
              go_wp2_with (go_at_call 177; rw [wrap_neg HM.out HNI.out]; refine (ofInt_calls (fun _ => False) _ _ (i64_neg HM.out HNI.out)).mono ?_; rintro e2 w2 ⟨A2, c2, rfl, ha2, hb2⟩; obtain ⟨k2, z2, y2, HB2⟩ := kcell (w.heap.size + 2) hb2 hw3; have HA2 := Ad.mk ha2; clear ha2 hb2)
              rw [HEE.out]
              exact RetV.fin HA2.out rfl rfl rfl (blk_below (blk_below HBK1.out HB3.out) HB2.out) rfl (below_then (below_then HB0.out HB3.out) HB2.out) (Nat.le_refl _) (fun x _ hq => by rcases hq with hq | hq; exact hq.elim; exact ⟨.inr (by omega), by omega⟩)
          · have e : R = Val.int n := HE.out
            have HEE := Ad.mk e
            clear e
            go_wp2_with (go_at_call 177; refine (ofInt_calls (fun _ => False) _ _ HNI.out).mono ?_; rintro e2 w2 ⟨A2, c2, rfl, ha2, hb2⟩; obtain ⟨k2, z2, y2, HB2⟩ := kcell (w.heap.size + 2) hb2 hw3; have HA2 := Ad.mk ha2; clear ha2 hb2)
            rw [HEE.out]
            exact RetV.fin HA2.out rfl rfl rfl (blk_below (blk_below HBK1.out HB3.out) HB2.out) rfl (below_then (below_then HB0.out HB3.out) HB2.out) (Nat.le_refl _) (fun x _ hq => by rcases hq with hq | hq; exact hq.elim; exact ⟨.inr (by omega), by omega⟩)
  · have hk2' : (x0.k != 2) = true := by simpa using hk2
    have hk2'' : (x0.k == 2) = false := by simpa using hk2
    go_enter Tryz.func158, Tryz.ntmps158
    go_wp2_with fail
    · have e : R = x0 := by rw [← HR.out, hk2'', ‹(x0.k == 1) = true›]; rfl
      rw [e]
      refine RetV.finW (HA0.out.below (below_alloc (below_alloc (Below.refl _ _) _) _)) rfl rfl rfl (blk_alloc (blk_new w _) _) (Chg.refl _ _) (below_alloc (below_alloc (Below.refl _ _) _) _) (Nat.le_refl _) (fun x _ hq => ⟨.inl hq, by have := HQ.out x hq; omega⟩)
    · have e : R = Val.none := by rw [← HR.out, hk2'', show (x0.k == 1) = false by assumption]; rfl
      rw [e]
      exact RetV.finW (VA.none (fun _ => False) _ Option.none 0) rfl rfl rfl (blk_alloc (blk_new w _) _) (Chg.refl _ _) (below_alloc (below_alloc (Below.refl _ _) _) _) (Nat.le_refl _) (fun _ _ h => h.elim)⟩
end Go.Proofs.YtahnelihohmjfaaGreatDoor.V
