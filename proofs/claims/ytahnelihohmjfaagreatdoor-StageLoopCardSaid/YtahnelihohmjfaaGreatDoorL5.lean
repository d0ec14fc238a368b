/- A part of the walk (V17, V18, V19, V20, V21, V22, V23a, V23, V24). -/
import Derived.Test.YtahnelihohmjfaaGreatDoorL3
import Derived.Deep.DeepCutAuto
import Derived.Deep.DeepMust
namespace Go.Proofs.YtahnelihohmjfaaGreatDoor.V
open Go.RowKit
set_option linter.unusedVariables false
set_option linter.unusedSimpArgs false
/-- two values -/
def RetV2 (Q : Nat → Prop) (w : World) (v v' : Val) (e : Ending) (w' : World) : Prop := ∃ A c A' c', e = .returned (.tuple #[.agg #[.int .i64 v.k, .int .i64 v.n, .string v.s, .slice A v.items.length c], .agg #[.int .i64 v'.k, .int .i64 v'.n, .string v'.s, .slice A' v'.items.length c']]) ∧ VA (fun b => Q b ∨ w.heap.size ≤ b) w' A c v ∧ VA (fun b => Q b ∨ w.heap.size ≤ b) w' A' c' v' ∧ Below w.heap.size w w'
theorem RetV2.fin {Q Q1 Q2 : Nat → Prop} {w w1 W : World} {b b' t t' : Nat} {v v' : Val} {A A' : Option Addr} {c c' : Nat} {fn : Func} {a : Act} (hva : VA Q1 w1 A c v) (hva' : VA Q2 w1 A' c' v') (hfn : fn.results = #[.cell t 42, .cell t' 42]) (ha : a.tmps.getD t undef = .pointer (some ⟨b, 0, Option.none⟩)) (ha' : a.tmps.getD t' undef = .pointer (some ⟨b', 0, Option.none⟩)) (hd : a.defers = [])
    (hblk : W.heap[b]? = some (.cells #[.int .i64 v.k, .int .i64 v.n, .string v.s, .slice A v.items.length c] 42 (0, 0))) (hblk' : W.heap[b']? = some (.cells #[.int .i64 v'.k, .int .i64 v'.n, .string v'.s, .slice A' v'.items.length c'] 42 (0, 0))) (hc : Chg w1 W (fun q => q = b ∨ q = b')) (hb : Below w.heap.size w w1) (hwb : w.heap.size ≤ b) (hwb' : w.heap.size ≤ b')
    (hQ : ∀ x, x < w1.heap.size → Q1 x → (Q x ∨ w.heap.size ≤ x) ∧ x ≠ b ∧ x ≠ b') (hQ' : ∀ x, x < w1.heap.size → Q2 x → (Q x ∨ w.heap.size ≤ x) ∧ x ≠ b ∧ x ≠ b') :
    bodyPost Tryz.prog fn (RetV2 Q w v v') .ret a W := by
  have g0 := blk_cell hblk 0
  have g1 := blk_cell hblk 1
  have g2 := blk_cell hblk 2
  have g3 := blk_cell hblk 3
  have j0 := blk_cell hblk' 0
  have j1 := blk_cell hblk' 1
  have j2 := blk_cell hblk' 2
  have j3 := blk_cell hblk' 3
  simp at g0 g1 g2 g3 j0 j1 j2 j3
  refine ⟨hd, .tuple #[.agg #[.int .i64 v.k, .int .i64 v.n, .string v.s, .slice A v.items.length c], .agg #[.int .i64 v'.k, .int .i64 v'.n, .string v'.s, .slice A' v'.items.length c']], ?_, ?_⟩
  · rw [Array.getD_eq_getD_getElem?] at ha ha'
    simp [results, hfn, ha, ha', go_sem, g0, g1, g2, g3, j0, j1, j2, j3]
  · exact ⟨A, c, A', c', rfl, hva.chg hc (fun x hx hq h => h.elim (hQ x hx hq).2.1 (hQ x hx hq).2.2) (fun x hx hq => (hQ x hx hq).1), hva'.chg hc (fun x hx hq h => h.elim (hQ' x hx hq).2.1 (hQ' x hx hq).2.2) (fun x hx hq => (hQ' x hx hq).1), below_chg hb hc (fun q hq => by omega)⟩
theorem RetV2.fin8 {Q Q1 Q2 : Nat → Prop} {w w1 : World} {b b' t t' : Nat} {v v' : Val} {A A' : Option Addr} {c c' : Nat} {cs cs' : Array Value} {fn : Func} {a : Act} (hva : VA Q1 w1 A c v) (hva' : VA Q2 w1 A' c' v') (hfn : fn.results = #[.cell t 42, .cell t' 42]) (ha : a.tmps.getD t undef = .pointer (some ⟨b, 0, Option.none⟩)) (ha' : a.tmps.getD t' undef = .pointer (some ⟨b', 0, Option.none⟩)) (hd : a.defers = [])
    (hblk : w1.heap[b]? = some (.cells cs 42 (0, 0))) (h4 : cs.size = 4) (hblk' : w1.heap[b']? = some (.cells cs' 42 (0, 0))) (h4' : cs'.size = 4) (hne : b ≠ b') (hb : Below w.heap.size w w1) (hwb : w.heap.size ≤ b) (hwb' : w.heap.size ≤ b')
    (hQ : ∀ x, x < w1.heap.size → Q1 x → (Q x ∨ w.heap.size ≤ x) ∧ x ≠ b ∧ x ≠ b') (hQ' : ∀ x, x < w1.heap.size → Q2 x → (Q x ∨ w.heap.size ≤ x) ∧ x ≠ b ∧ x ≠ b') :
    bodyPost Tryz.prog fn (RetV2 Q w v v') .ret a ((((((((w1.setCell ⟨b, 0, Option.none⟩ (.int .i64 v.k)).setCell ⟨b, 1, Option.none⟩ (.int .i64 v.n)).setCell ⟨b, 2, Option.none⟩ (.string v.s)).setCell ⟨b, 3, Option.none⟩ (.slice A v.items.length c)).setCell ⟨b', 0, Option.none⟩ (.int .i64 v'.k)).setCell ⟨b', 1, Option.none⟩ (.int .i64 v'.n)).setCell ⟨b', 2, Option.none⟩ (.string v'.s)).setCell ⟨b', 3, Option.none⟩ (.slice A' v'.items.length c')) := by
  obtain ⟨cs⟩ := cs
  obtain ⟨cs'⟩ := cs'
  obtain ⟨c0, c1, c2, c3, rfl⟩ : ∃ c0 c1 c2 c3, cs = [c0, c1, c2, c3] := by
    match cs, h4 with
    | [c0, c1, c2, c3], _ => exact ⟨c0, c1, c2, c3, rfl⟩
  obtain ⟨d0, d1, d2, d3, rfl⟩ : ∃ c0 c1 c2 c3, cs' = [c0, c1, c2, c3] := by
    match cs', h4' with
    | [c0, c1, c2, c3], _ => exact ⟨c0, c1, c2, c3, rfl⟩
  exact RetV2.fin hva hva' hfn ha ha' hd (blk_far (blk_far (blk_far (blk_far (blk_put (blk_put (blk_put (blk_put hblk 0 _ rfl) 1 _ rfl) 2 _ rfl) 3 _ rfl) hne _) hne _) hne _) hne _)
    (blk_put (blk_put (blk_put (blk_put (blk_far (blk_far (blk_far (blk_far hblk' hne.symm _) hne.symm _) hne.symm _) hne.symm _) 0 _ rfl) 1 _ rfl) 2 _ rfl) 3 _ rfl)
    ((((((((Chg.refl w1 (fun q => q = b ∨ q = b')).set (.inl rfl) 0 _).set (.inl rfl) 1 _).set (.inl rfl) 2 _).set (.inl rfl) 3 _).set (.inr rfl) 0 _).set (.inr rfl) 1 _).set (.inr rfl) 2 _ |>.set (.inr rfl) 3 _) hb hwb hwb' hQ hQ'
theorem mk_k (k n : Int) (s : ByteArray) (l : List Val) : (Val.mk k n s l).k = k := rfl
theorem mk_n (k n : Int) (s : ByteArray) (l : List Val) : (Val.mk k n s l).n = n := rfl
theorem mk_s (k n : Int) (s : ByteArray) (l : List Val) : (Val.mk k n s l).s = s := rfl
theorem mk_i (k n : Int) (s : ByteArray) (l : List Val) : (Val.mk k n s l).items = l := rfl
theorem ofListN (Q : Nat → Prop) (A : Option Addr) (n c : Nat) (l : List Val) (w : World) (h : VL Q w A c l) (hn : n = l.length) : Calls Tryz.prog 183 #[.slice A n c] w (RetV Q w (Val.list l)) := by
  subst hn
  exact ofList_calls Q A c l w h
theorem getD_take {l : List Val} {i m : Nat} (h : i < m) : (l.take m).getD i Val.none = l.getD i Val.none := by
  simp [List.getD_eq_getElem?_getD, List.getElem?_take_of_lt h]
theorem getD_drop {l : List Val} {i m : Nat} : (l.drop m).getD i Val.none = l.getD (m + i) Val.none := by
  simp [List.getD_eq_getElem?_getD, List.getElem?_drop]
theorem add_add (ad : Addr) (a b : Nat) : (ad.add a).add b = ad.add (a + b) := by
  unfold Addr.add
  by_cases h1 : a = 0 <;> by_cases h2 : b = 0 <;> simp [h1, h2, Nat.add_assoc]
theorem VL.take {Q : Nat → Prop} {w : World} {A : Option Addr} {c : Nat} {l : List Val} (h : VL Q w A c l) (m : Nat) : VL Q w A c (l.take m) := by
  obtain ⟨h1, h2, css, h3, h4⟩ := h.out
  have hle : (l.take m).length ≤ l.length := by simp; omega
  refine ⟨by omega, by omega, css, fun hp => ?_, fun i hi => ?_⟩
  · obtain ⟨ad, e, hq, hc⟩ := h3 (by omega)
    exact ⟨ad, e, hq, fun i j u hi hj => hc i j u (by omega) hj⟩
  · rw [getD_take (by simp at hi; omega)]
    exact h4 i (by omega)
theorem VL.drop {Q : Nat → Prop} {w : World} {ad : Addr} {c : Nat} {l : List Val} (h : VL Q w (some ad) c l) (m : Nat) (hm : m ≤ l.length) : VL Q w (some (ad.add (m * 4))) (c - m) (l.drop m) := by
  obtain ⟨h1, h2, css, h3, h4⟩ := h.out
  refine ⟨by simp; omega, by simp; omega, fun i => css (m + i), fun hp => ?_, fun i hi => ?_⟩
  · simp at hp
    obtain ⟨ad', e, hq, hc⟩ := h3 (by omega)
    cases e
    refine ⟨_, rfl, by rw [add_block]; exact hq, fun i j u hi hj => ?_⟩
    have := hc (m + i) j u (by simp at hi; omega) hj
    rw [add_add, ← this]
    congr 2
    omega
  · rw [getD_drop]
    exact h4 (m + i) (by simp at hi; omega)
def cutK (n : Int) (m : Nat) : Nat := if n ≤ 0 then 0 else if n < m then n.toNat else m
theorem cutK_len {n : Int} {m : Nat} (h : (m : Int) ≤ n) : cutK n m = m := by unfold cutK; split <;> (try split) <;> omega
theorem cutK_0 {n : Int} {m : Nat} (h : n ≤ 0) : cutK n m = 0 := by unfold cutK; rw [if_pos h]
theorem cutK_n {n : Int} {m : Nat} (h : 0 ≤ n) (h' : n ≤ m) : cutK n m = n.toNat := by unfold cutK; split <;> (try split) <;> omega
def cutV (v n : Val) : Val × Val := bif n.k == 1 then (bif v.k == 2 then (Val.text (v.s.extract 0 (cutK n.n v.s.size)), Val.text (v.s.extract (cutK n.n v.s.size) v.s.size)) else bif v.k == 3 then (Val.list (v.items.take (cutK n.n v.items.length)), Val.list (v.items.drop (cutK n.n v.items.length))) else (Val.none, Val.none)) else (Val.none, Val.none)
def CutP (w : World) (A : Option Addr) (c : Nat) (v : Val) (n : Int) (len : Nat) (s6 : Value) (wx : World) : Prop := ∃ m : Nat, s6 = .int .i64 m ∧ m ≤ len ∧ Ad (m = cutK n len) ∧ Below w.heap.size w wx ∧ w.heap.size + 4 ≤ wx.heap.size ∧ wx.cell? ⟨w.heap.size, 2, none⟩ = some (.string v.s) ∧ wx.cell? ⟨w.heap.size, 3, none⟩ = some (.slice A v.items.length c) ∧
  wx.heap[w.heap.size + 1 + 1]? = some (.cells #[.int .i64 0, .int .i64 0, .string ⟨#[]⟩, .slice none 0 0] 42 (0, 0)) ∧ wx.heap[w.heap.size + 1 + 1 + 1]? = some (.cells #[.int .i64 0, .int .i64 0, .string ⟨#[]⟩, .slice none 0 0] 42 (0, 0))
theorem cutP_mk {w : World} {A : Option Addr} {c : Nat} {v : Val} {n : Int} {len : Nat} {o2 : Obj} (m : Nat) (hm : m ≤ len) (hK : m = cutK n len) :
    CutP w A c v n len (.int .i64 m) ((((w.alloc (.cells #[.int .i64 v.k, .int .i64 v.n, .string v.s, .slice A v.items.length c] 42)).alloc o2).alloc (.cells #[.int .i64 0, .int .i64 0, .string ⟨#[]⟩, .slice none 0 0] 42)).alloc (.cells #[.int .i64 0, .int .i64 0, .string ⟨#[]⟩, .slice none 0 0] 42)) :=
  ⟨m, rfl, hm, ⟨hK⟩, below_alloc (below_alloc (below_alloc (below_alloc (Below.refl _ _) _) _) _) _, by simp, blk_cell (blk_alloc (blk_alloc (blk_alloc (blk_new _ _) _) _) _) 2, blk_cell (blk_alloc (blk_alloc (blk_alloc (blk_new _ _) _) _) _) 3, blk_alloc (blk_new2 (by simp)) _, blk_new2 (by simp)⟩
set_option maxHeartbeats 8000000 in
set_option maxRecDepth 100000 in
theorem cutAt_calls (Q Q' : Nat → Prop) (A A' : Option Addr) (c c' : Nat) (v n : Val) (w : World) (h : VA Q w A c v) (h' : VA Q' w A' c' n) (hQ : ∀ b, Q b → b < w.heap.size) :
    Calls Tryz.prog 187 #[.agg #[.int .i64 v.k, .int .i64 v.n, .string v.s, .slice A v.items.length c], .agg #[.int .i64 n.k, .int .i64 n.n, .string n.s, .slice A' n.items.length c']] w (RetV2 Q w (cutV v n).1 (cutV v n).2) := by
  obtain ⟨R, hR⟩ : ∃ R, cutV v n = R := ⟨_, rfl⟩
  rw [hR]
  unfold cutV at hR
  have HR := Ad.mk hR
  have HA := Ad.mk h
  have HQ := Ad.mk hQ
  have hs := h.s
  have hl := h.l.out.2.1
  have hc := h.l.out.1
  clear hR h h' hQ
  have q5 : ¬ w.heap.size + 1 + 1 = w.heap.size + 1 + 1 + 1 := by omega
  have q6 : ¬ w.heap.size + 1 + 1 + 1 = w.heap.size + 1 + 1 := by omega
  have q1 : ¬ w.heap.size = w.heap.size + 1 + 1 := by omega
  have q2 : ¬ w.heap.size + 1 + 1 = w.heap.size := by omega
  have q3 : ¬ w.heap.size = w.heap.size + 1 + 1 + 1 := by omega
  have q4 : ¬ w.heap.size + 1 + 1 + 1 = w.heap.size := by omega
  by_cases hk1 : (n.k == 1) = true
  · by_cases hk2 : (v.k == 2) = true
    · have hk1' : (n.k != 1) = false := by simpa using hk1
      go_enter Tryz.func187, Tryz.ntmps187
      go_upto_region 5 with (fail)
      go_cut [6] (fun s6 wx => CutP w A c v n.n v.s.size s6 wx)
      case first =>
        go_wp2_with fail
        all_goals
          go_meet
          first
            | exact cutP_mk v.s.size (Nat.le_refl _) (cutK_len (by omega)).symm
            | exact cutP_mk 0 (Nat.zero_le _) (cutK_0 (by omega)).symm
            | (have e : n.n = ((n.n.toNat : Nat) : Int) := by omega
               rw [show Value.int .i64 n.n = Value.int .i64 ((n.n.toNat : Nat) : Int) by rw [← e]]
               exact cutP_mk n.n.toNat (by omega) (cutK_n (by omega) (by omega)).symm)
      case rest =>
        obtain ⟨m, rfl, hm, HK, hbw, hsz, g2, g3, gb, gb'⟩ := hcut
        have HBW := Ad.mk hbw
        have GB := Ad.mk gb
        have GB' := Ad.mk gb'
        have d2 : (m : Int) ≤ (v.s.size : Int) := by omega
        have d3 : (0 : Int) ≤ (m : Int) := by omega
        have e0 := blk_cell gb 0
        have e1 := blk_cell gb 1
        have e2 := blk_cell gb 2
        have e3 := blk_cell gb 3
        have e4 := fun j => blk_frozen gb j
        have e0' := blk_cell gb' 0
        have e1' := blk_cell gb' 1
        have e2' := blk_cell gb' 2
        have e3' := blk_cell gb' 3
        have e4' := fun j => blk_frozen gb' j
        clear hbw gb gb'
        go_wp2_with fail
        go_region_held3 (fun w' => w'.cell? ⟨w.heap.size, 2, none⟩ = some (.string v.s)) (go_keep) (first
          | (go_at_call 88; refine (ofText_calls (fun _ => False) (v.s.extract 0 m) _ (by simp; omega)).mono ?_; rintro e1 w1 ⟨A1, c1, rfl, ha1, hb1⟩; obtain ⟨k1, z1, y1, HB1⟩ := kcell (w.heap.size + 4) hb1 hsz; have HA1 := Ad.mk ha1; clear ha1 hb1)
          | (go_at_call 88; refine (ofText_calls (fun _ => False) (v.s.extract m v.s.size) _ (by simp; omega)).mono ?_; rintro e2 w2 ⟨A2, c2, rfl, ha2, hb2⟩; obtain ⟨k2, z2, y2, HB2⟩ := kcell (w.heap.size + 4) hb2 y1; have HA2 := Ad.mk ha2; clear ha2 hb2))
        go_wp2_with fail
        have hHZ := below_then HB1.out HB2.out
        have HZ := Ad.mk (below_then HBW.out (below_then (Below.refl _ _).drew hHZ))
        have e : R = (Val.text (v.s.extract 0 m), Val.text (v.s.extract m v.s.size)) := by rw [← HR.out, hk1, hk2, HK.out]; rfl
        rw [e]
        exact RetV2.fin8 (HA1.out.below HB2.out) HA2.out rfl rfl rfl rfl (blk_below (blk_below GB.out (below_then (Below.refl _ _).drew HB1.out)) HB2.out) rfl (blk_below (blk_below GB'.out (below_then (Below.refl _ _).drew HB1.out)) HB2.out) rfl (by omega) HZ.out (by omega) (by omega) (fun x _ hq => by rcases hq with hq | hq; exact hq.elim; have : wc.heap.size ≤ x := hq; exact ⟨.inr (by omega), by omega, by omega⟩) (fun x _ hq => by rcases hq with hq | hq; exact hq.elim; exact ⟨.inr (by omega), by omega, by omega⟩)
    · by_cases hk3 : (v.k == 3) = true
      · have hk1' : (n.k != 1) = false := by simpa using hk1
        have hk2' : (v.k == 2) = false := by simpa using hk2
        go_enter Tryz.func187, Tryz.ntmps187
        go_upto_region 8 with (fail)
        go_cut [7] (fun s6 wx => CutP w A c v n.n v.items.length s6 wx)
        case first =>
          go_wp2_with fail
          all_goals
            go_meet
            first
              | exact cutP_mk v.items.length (Nat.le_refl _) (cutK_len (by omega)).symm
              | exact cutP_mk 0 (Nat.zero_le _) (cutK_0 (by omega)).symm
              | (have e : n.n = ((n.n.toNat : Nat) : Int) := by omega
                 rw [show Value.int .i64 n.n = Value.int .i64 ((n.n.toNat : Nat) : Int) by rw [← e]]
                 exact cutP_mk n.n.toNat (by omega) (cutK_n (by omega) (by omega)).symm)
        case rest =>
          obtain ⟨m, rfl, hm, HK, hbw, hsz, g2, g3, gb, gb'⟩ := hcut
          have HBW := Ad.mk hbw
          have GB := Ad.mk gb
          have GB' := Ad.mk gb'
          have d2 : (m : Int) ≤ (v.items.length : Int) := by omega
          have d3 : (0 : Int) ≤ (m : Int) := by omega
          have d4 : m ≤ c := by omega
          have e0 := blk_cell gb 0
          have e1 := blk_cell gb 1
          have e2 := blk_cell gb 2
          have e3 := blk_cell gb 3
          have e4 := fun j => blk_frozen gb j
          have e0' := blk_cell gb' 0
          have e1' := blk_cell gb' 1
          have e2' := blk_cell gb' 2
          have e3' := blk_cell gb' 3
          have e4' := fun j => blk_frozen gb' j
          clear hbw gb gb'
          cases A with
          | none =>
            have hl0 : v.items = [] := by
              rcases Nat.eq_zero_or_pos v.items.length with h | h
              · exact List.eq_nil_of_length_eq_zero h
              · obtain ⟨_, _, _, h3, _⟩ := HA.out.l.out
                obtain ⟨ad, e, _⟩ := h3 h
                cases e
            have hl1 : v.items.length = 0 := by rw [hl0]; rfl
            obtain rfl : m = 0 := by omega
            have HL0 := Ad.mk hl0
            clear hl0
            go_wp2_with fail
            go_region_held3 (fun w' => w'.cell? ⟨w.heap.size, 3, none⟩ = some (.slice none 0 c)) (go_keep) (first
              | ((go_at_call 183; ((with_reducible refine (ofListN Q none 0 c [] wc.drew (VL.nil _ _ _ _) rfl).mono ?_); rintro e1 w1 ⟨A1, c1, rfl, ha1, hb1⟩; obtain ⟨k1, z1, y1, HB1⟩ := kcell (w.heap.size + 4) hb1 hsz; have HA1 := Ad.mk ha1; clear ha1 hb1)))
              | (go_at_call 183; ((with_reducible refine (ofListN Q none 0 _ [] w1 (VL.nil _ _ _ _) rfl).mono ?_); rintro e2 w2 ⟨A2, c2, rfl, ha2, hb2⟩; obtain ⟨k2, z2, y2, HB2⟩ := kcell (w.heap.size + 4) hb2 y1; have HA2 := Ad.mk ha2; clear ha2 hb2)))
            go_wp2_with fail
            have hHZ := below_then HB1.out HB2.out
            have HZ := Ad.mk (below_then HBW.out (below_then (Below.refl _ _).drew hHZ))
            have e : R = (Val.list [], Val.list []) := by rw [← HR.out, hk1, hk2', hk3, HL0.out]; simp
            rw [e]
            exact RetV2.fin8 (HA1.out.below HB2.out) HA2.out rfl rfl rfl rfl (blk_below (blk_below GB.out (below_then (Below.refl _ _).drew HB1.out)) HB2.out) rfl (blk_below (blk_below GB'.out (below_then (Below.refl _ _).drew HB1.out)) HB2.out) rfl (by omega) HZ.out (by omega) (by omega) (fun x _ hq => by rcases hq with hq | hq; exact ⟨.inl hq, by have := HQ.out x hq; omega, by have := HQ.out x hq; omega⟩; have : wc.heap.size ≤ x := hq; exact ⟨.inr (by omega), by omega, by omega⟩) (fun x _ hq => by rcases hq with hq | hq; exact ⟨.inl hq, by have := HQ.out x hq; omega, by have := HQ.out x hq; omega⟩; exact ⟨.inr (by omega), by omega, by omega⟩)
          | some ad =>
          by_cases hmc : m = c
          · obtain rfl : c = m := hmc.symm
            go_wp2_with fail
            go_region_held3 (fun w' => w'.cell? ⟨w.heap.size, 3, none⟩ = some (.slice (some ad) v.items.length c)) (go_keep) (first
              | (go_at_call 183; ((with_reducible refine (ofListN Q (some ad) c c v.items _ (by exact ((HA.out.l).below HBW.out).below (Below.refl _ _).drew) (by omega)).mono ?_); rintro e1 w1 ⟨A1, c1, rfl, ha1, hb1⟩; obtain ⟨k1, z1, y1, HB1⟩ := kcell (w.heap.size + 4) hb1 hsz; have HA1 := Ad.mk ha1; clear ha1 hb1))
              | (go_at_call 183; ((with_reducible refine (ofListN Q _ 0 _ [] _ (VL.nil _ _ _ _) rfl).mono ?_); rintro e2 w2 ⟨A2, c2, rfl, ha2, hb2⟩; obtain ⟨k2, z2, y2, HB2⟩ := kcell (w.heap.size + 4) hb2 y1; have HA2 := Ad.mk ha2; clear ha2 hb2)))
            all_goals
              go_wp2_with fail
              have hHZ := below_then HB1.out HB2.out
              have HZ := Ad.mk (below_then HBW.out (below_then (Below.refl _ _).drew hHZ))
              have e : R = (Val.list v.items, Val.list []) := by rw [← HR.out, hk1, hk2', hk3, ← HK.out]; simp [List.take_of_length_le (show v.items.length ≤ c by omega), List.drop_eq_nil_of_le (show v.items.length ≤ c by omega)]
              rw [e]
              exact RetV2.fin8 (HA1.out.below HB2.out) HA2.out rfl rfl rfl rfl (blk_below (blk_below GB.out (below_then (Below.refl _ _).drew HB1.out)) HB2.out) rfl (blk_below (blk_below GB'.out (below_then (Below.refl _ _).drew HB1.out)) HB2.out) rfl (by omega) HZ.out (by omega) (by omega) (fun x _ hq => by rcases hq with hq | hq; exact ⟨.inl hq, by have := HQ.out x hq; omega, by have := HQ.out x hq; omega⟩; have : wc.heap.size ≤ x := hq; exact ⟨.inr (by omega), by omega, by omega⟩) (fun x _ hq => by rcases hq with hq | hq; exact ⟨.inl hq, by have := HQ.out x hq; omega, by have := HQ.out x hq; omega⟩; exact ⟨.inr (by omega), by omega, by omega⟩)
          · have hmc' : ¬ c = m := by omega
            go_wp2_with fail
            go_region_held3 (fun w' => w'.cell? ⟨w.heap.size, 3, none⟩ = some (.slice (some ad) v.items.length c)) (go_keep) (first
              | (go_at_call 183; ((with_reducible refine (ofListN Q (some ad) m c (v.items.take m) _ (by exact ((HA.out.l.take m).below HBW.out).below (Below.refl _ _).drew) (by simp; omega)).mono ?_); rintro e1 w1 ⟨A1, c1, rfl, ha1, hb1⟩; obtain ⟨k1, z1, y1, HB1⟩ := kcell (w.heap.size + 4) hb1 hsz; have HA1 := Ad.mk ha1; clear ha1 hb1))
              | (go_at_call 183; ((with_reducible refine (ofListN Q (some (ad.add (m * 4))) (v.items.length - m) (c - m) (v.items.drop m) _ (by exact (((HA.out.l.drop m hm).below HBW.out).below (Below.refl _ _).drew).below HB1.out) (by simp)).mono ?_); rintro e2 w2 ⟨A2, c2, rfl, ha2, hb2⟩; obtain ⟨k2, z2, y2, HB2⟩ := kcell (w.heap.size + 4) hb2 y1; have HA2 := Ad.mk ha2; clear ha2 hb2)))
            go_wp2_with fail
            have hHZ := below_then HB1.out HB2.out
            have HZ := Ad.mk (below_then HBW.out (below_then (Below.refl _ _).drew hHZ))
            have e : R = (Val.list (v.items.take m), Val.list (v.items.drop m)) := by rw [← HR.out, hk1, hk2', hk3, HK.out]; rfl
            rw [e]
            exact RetV2.fin8 (HA1.out.below HB2.out) HA2.out rfl rfl rfl rfl (blk_below (blk_below GB.out (below_then (Below.refl _ _).drew HB1.out)) HB2.out) rfl (blk_below (blk_below GB'.out (below_then (Below.refl _ _).drew HB1.out)) HB2.out) rfl (by omega) HZ.out (by omega) (by omega) (fun x _ hq => by rcases hq with hq | hq; exact ⟨.inl hq, by have := HQ.out x hq; omega, by have := HQ.out x hq; omega⟩; have : wc.heap.size ≤ x := hq; exact ⟨.inr (by omega), by omega, by omega⟩) (fun x _ hq => by rcases hq with hq | hq; exact ⟨.inl hq, by have := HQ.out x hq; omega, by have := HQ.out x hq; omega⟩; exact ⟨.inr (by omega), by omega, by omega⟩)
      · have hk1' : (n.k != 1) = false := by simpa using hk1
        have hk2' : (v.k == 2) = false := by simpa using hk2
        have hk3' : (v.k == 3) = false := by simpa using hk3
        go_enter Tryz.func187, Tryz.ntmps187
        go_wp2_with fail
        have e : R = (Val.none, Val.none) := by rw [← HR.out, hk1, hk2', hk3']; rfl
        rw [e]
        exact RetV2.fin (A := Option.none) (c := 0) (A' := Option.none) (c' := 0) (w1 := w) (VA.none (fun _ => False) _ _ _) (VA.none (fun _ => False) _ _ _) rfl rfl rfl rfl (blk_alloc (blk_new2 (by simp)) _) (blk_new2 (by simp)) (((((Chg.refl _ _).alloc _).alloc _).alloc _).alloc _) (Below.refl _ _) (by omega) (by omega) (fun _ _ h => h.elim) (fun _ _ h => h.elim)
  · have hk1' : (n.k != 1) = true := by simpa using hk1
    have hk1'' : (n.k == 1) = false := by simpa using hk1
    go_enter Tryz.func187, Tryz.ntmps187
    go_wp2_with fail
    have e : R = (Val.none, Val.none) := by rw [← HR.out, hk1'']; rfl
    rw [e]
    exact RetV2.fin (A := Option.none) (c := 0) (A' := Option.none) (c' := 0) (w1 := w) (VA.none (fun _ => False) _ _ _) (VA.none (fun _ => False) _ _ _) rfl rfl rfl rfl (blk_alloc (blk_new2 (by simp)) _) (blk_new2 (by simp)) (((((Chg.refl _ _).alloc _).alloc _).alloc _).alloc _) (Below.refl _ _) (by omega) (by omega) (fun _ _ h => h.elim) (fun _ _ h => h.elim)
end Go.Proofs.YtahnelihohmjfaaGreatDoor.V
namespace Go.Proofs.YtahnelihohmjfaaGreatDoor.V
open Go.RowKit
set_option linter.unusedVariables false
set_option linter.unusedSimpArgs false
theorem keep_blk {w w' : World} {a : Addr} {v : Value} (e : w'.heap[a.block]? = w.heap[a.block]?) (h : w.cell? a = some v) : w'.cell? a = some v := (World.cell?_of_block (w := w) (a := a) e).trans h
theorem keep8 {w w' : World} {ad : Addr} {v0 v1 v2 v3 v4 v5 v6 v7 : Value} (e : ad.block < w.heap.size → w'.heap[ad.block]? = w.heap[ad.block]?)
    (h : w.cell? ad = some v0 ∧ w.cell? ⟨ad.block, ad.off + 1, none⟩ = some v1 ∧ w.cell? ⟨ad.block, ad.off + 2, none⟩ = some v2 ∧ w.cell? ⟨ad.block, ad.off + 3, none⟩ = some v3 ∧ w.cell? ⟨ad.block, ad.off + 4, none⟩ = some v4 ∧ w.cell? ⟨ad.block, ad.off + 4 + 1, none⟩ = some v5 ∧ w.cell? ⟨ad.block, ad.off + 4 + 2, none⟩ = some v6 ∧ w.cell? ⟨ad.block, ad.off + 4 + 3, none⟩ = some v7) :
    w'.cell? ad = some v0 ∧ w'.cell? ⟨ad.block, ad.off + 1, none⟩ = some v1 ∧ w'.cell? ⟨ad.block, ad.off + 2, none⟩ = some v2 ∧ w'.cell? ⟨ad.block, ad.off + 3, none⟩ = some v3 ∧ w'.cell? ⟨ad.block, ad.off + 4, none⟩ = some v4 ∧ w'.cell? ⟨ad.block, ad.off + 4 + 1, none⟩ = some v5 ∧ w'.cell? ⟨ad.block, ad.off + 4 + 2, none⟩ = some v6 ∧ w'.cell? ⟨ad.block, ad.off + 4 + 3, none⟩ = some v7 := by
  have e' := e (World.block_lt_of_cell? _ _ h.1)
  exact ⟨keep_blk e' h.1, keep_blk e' h.2.1, keep_blk e' h.2.2.1, keep_blk e' h.2.2.2.1, keep_blk e' h.2.2.2.2.1, keep_blk e' h.2.2.2.2.2.1, keep_blk e' h.2.2.2.2.2.2.1, keep_blk e' h.2.2.2.2.2.2.2⟩
theorem Chg.drew {w W : World} {S : Nat → Prop} (h : Chg w W S) : Chg w W.drew S := ⟨h.os, h.tape, h.output, h.size, h.block⟩
theorem Chg.call {w W W' : World} {S : Nat → Prop} (h : Chg w W S) (hb : Below W.heap.size W W') : Chg w W' S := h.trans (Chg.of_below hb)
theorem Chg.sub {w W : World} {S S' : Nat → Prop} (h : Chg w W S) (hS : ∀ q, q < w.heap.size → S q → S' q) : Chg w W S' := ⟨h.os, h.tape, h.output, h.size, fun i hi hn => h.block i hi fun hs => hn (hS i hi hs)⟩
theorem VA.far {Q Q1 : Nat → Prop} {w1 W : World} {A : Option Addr} {c : Nat} {v : Val} (h : VA Q1 w1 A c v) (hc : Chg w1 W (fun q => ¬ Q1 q)) (hQ : ∀ x, Q1 x → Q x) : VA Q W A c v := h.chg hc (fun _ _ hq hn => hn hq) (fun x _ hq => hQ x hq)
def takeV (vs : List Val) : Val := (cutV (vs.getD 0 Val.none) (vs.getD 1 Val.none)).1
def dropV (vs : List Val) : Val := (cutV (vs.getD 0 Val.none) (vs.getD 1 Val.none)).2
def TakeP (Q : Nat → Prop) (w : World) (r : Val) (s3 : Value) (wx : World) : Prop := ∃ b A c, s3 = .pointer (some ⟨b, 0, none⟩) ∧ wx.cell? ⟨b, 0, none⟩ = some (.int .i64 r.k) ∧ wx.cell? ⟨b, 1, none⟩ = some (.int .i64 r.n) ∧ wx.cell? ⟨b, 2, none⟩ = some (.string r.s) ∧ wx.cell? ⟨b, 3, none⟩ = some (.slice A r.items.length c) ∧ VA (fun x => Q x ∨ w.heap.size + 1 ≤ x) wx A c r ∧ Below w.heap.size w wx ∧ wx.heap[w.heap.size]? = some (.cells #[.int .i64 0, .int .i64 0, .string ⟨#[]⟩, .slice none 0 0] 42 (0, 0))
set_option maxHeartbeats 8000000 in
set_option maxRecDepth 100000 in
theorem doTake_ok : DoOK 164 2 takeV := ⟨fun w A c vs Q hn hl hQ hv => by
  obtain ⟨ad, B0, d0, rfl, g00, g01, g02, g03, ha0⟩ := arg0 hl (by omega) (.cells #[.int .i64 0, .int .i64 0, .string ⟨#[]⟩, .slice none 0 0] 42)
  obtain ⟨B1, d1, g10, g11, g12, g13, ha1⟩ := arg_at hl 1 4 rfl (by omega) (by omega) (.cells #[.int .i64 0, .int .i64 0, .string ⟨#[]⟩, .slice none 0 0] 42)
  obtain ⟨R, hR⟩ : ∃ R, takeV vs = R := ⟨_, rfl⟩
  rw [hR]
  unfold takeV at hR
  have hm0 : vs.getD 0 Val.none ∈ vs := by rw [List.getD_eq_getElem?_getD, List.getElem?_eq_getElem (by omega)]; exact List.getElem_mem _
  have hv0 := hv _ hm0
  obtain ⟨x0, hx0⟩ : ∃ x, vs.getD 0 Val.none = x := ⟨_, rfl⟩
  rw [hx0] at hR g00 g01 g02 g03 ha0 hv0
  have HA0 := Ad.mk ha0
  have HV0 := Ad.mk hv0
  have hm1 : vs.getD 1 Val.none ∈ vs := by rw [List.getD_eq_getElem?_getD, List.getElem?_eq_getElem (by omega)]; exact List.getElem_mem _
  have hv1 := hv _ hm1
  obtain ⟨x1, hx1⟩ : ∃ x, vs.getD 1 Val.none = x := ⟨_, rfl⟩
  rw [hx1] at hR g10 g11 g12 g13 ha1 hv1
  have HA1 := Ad.mk ha1
  have HV1 := Ad.mk hv1
  have HR := Ad.mk hR
  have HQ := Ad.mk hQ
  have q1 : w.heap.size < w.heap.size + 1 + 1 := by omega
  have q2 : w.heap.size < w.heap.size + 1 + 1 + 1 := by omega
  have q3 : w.heap.size + 1 < w.heap.size + 1 + 1 + 1 := by omega
  have hb0 : ad.block < w.heap.size := by obtain ⟨ad', _, _, e, h, _⟩ := hl.at 0 (by omega); cases e; have := World.block_lt_of_cell? _ _ h; rwa [add_block] at this
  obtain ⟨r, hr⟩ : ∃ r, cutV x0 x1 = r := ⟨_, rfl⟩
  rw [hr] at hR
  have Hr := Ad.mk hr
  clear hr
  have HR := Ad.mk hR
  have HP0 := Ad.mk (And.intro g00 (And.intro g01 (And.intro g02 (And.intro g03 (And.intro g10 (And.intro g11 (And.intro g12 g13)))))))
  rw [hn]
  clear hR hl hQ hv hn hm0 hv0 hx0 ha0 hm1 hv1 hx1 ha1
  go_enter Tryz.func164, Tryz.ntmps164
  go_upto_region 1 with (fail)
  go_cut [3] (fun s3 wx => TakeP Q w r.1 s3 wx)
  case first =>
    go_wp2_with fail
    go_region_held3 (fun w' => w'.cell? ad = some (.int .i64 x0.k) ∧ w'.cell? ⟨ad.block, ad.off + 1, none⟩ = some (.int .i64 x0.n) ∧ w'.cell? ⟨ad.block, ad.off + 2, none⟩ = some (.string x0.s) ∧ w'.cell? ⟨ad.block, ad.off + 3, none⟩ = some (.slice B0 x0.items.length d0) ∧ w'.cell? ⟨ad.block, ad.off + 4, none⟩ = some (.int .i64 x1.k) ∧ w'.cell? ⟨ad.block, ad.off + 4 + 1, none⟩ = some (.int .i64 x1.n) ∧ w'.cell? ⟨ad.block, ad.off + 4 + 2, none⟩ = some (.string x1.s) ∧ w'.cell? ⟨ad.block, ad.off + 4 + 3, none⟩ = some (.slice B1 x1.items.length d1)) (((with_reducible refine keep8 (w := w.alloc (.cells #[.int .i64 0, .int .i64 0, .string ⟨#[]⟩, .slice none 0 0] 42)) (fun h => Chg.block (S := fun q => q ≠ ad.block) ?_ _ h (fun hn => absurd rfl hn)) HP0.out); (repeat' (first | (with_reducible exact Chg.refl _ _) | (with_reducible refine Chg.alloc ?_ _) | (with_reducible refine Chg.drew ?_) | (with_reducible refine Chg.set ?_ ?_ _ _) | (with_reducible refine Chg.call ?_ HB1.out) | (show _ ≠ ad.block; omega))))) ((go_at_call 187; ((with_reducible refine (cutAt_calls Q Q B0 B1 d0 d1 x0 x1 _ (by first | (with_reducible exact HA0.out.below (below_alloc (Below.refl _ _) _).drew) | (with_reducible exact HA0.out.below (below_alloc (below_alloc (Below.refl _ _) _) _).drew) | exact HA0.out.below (below_alloc (below_alloc (below_alloc (Below.refl _ _) _) _) _).drew) (by first | (with_reducible exact HA1.out.below (below_alloc (Below.refl _ _) _).drew) | (with_reducible exact HA1.out.below (below_alloc (below_alloc (Below.refl _ _) _) _).drew) | exact HA1.out.below (below_alloc (below_alloc (below_alloc (Below.refl _ _) _) _) _).drew) (by intro b hb; have := HQ.out b hb; simp; omega)).mono ?_); rw [Hr.out]; rintro e1 w1 ⟨A1, c1, A2, c2, rfl, ha1, ha2, hb1⟩; obtain ⟨k1, z1, y1, HB1⟩ := kcell _ hb1 (Nat.le_refl _); obtain ⟨s1, s2, s3⟩ := ksz y1; have y1' := y1; simp at y1'; have HC1 := Ad.mk ha1; have HC2 := Ad.mk ha2; clear ha1 ha2 hb1)))
    all_goals
      go_wp2_with fail
      go_meet
      refine ⟨_, A1, c1, rfl, by go_simp, by go_simp, by go_simp, by go_simp, HC1.out.far ?_ ?_, Chg.below (S := fun q => w.heap.size ≤ q) ?_ (fun _ h => h), (Chg.block (w := w.alloc (.cells #[.int .i64 0, .int .i64 0, .string ⟨#[]⟩, .slice none 0 0] 42)) (S := fun q => q ≠ w.heap.size) ?_ _ (by simp) (fun hn => absurd rfl hn)).trans (blk_new _ _)⟩
      · repeat' (first | (with_reducible exact Chg.refl _ _) | (with_reducible refine Chg.alloc ?_ _) | (with_reducible refine Chg.drew ?_) | (with_reducible refine Chg.set ?_ ?_ _ _) | (with_reducible refine Chg.call ?_ HB1.out) | (show ¬ (Q _ ∨ _ ≤ _); intro h; rcases h with h | h; (have := HQ.out _ h; omega); (simp at h; omega)))
      · intro x h; rcases h with h | h; exact .inl h; simp at h; exact .inr (by omega)
      · repeat' (first | (with_reducible exact Chg.refl _ _) | (with_reducible refine Chg.alloc ?_ _) | (with_reducible refine Chg.drew ?_) | (with_reducible refine Chg.set ?_ ?_ _ _) | (with_reducible refine Chg.call ?_ HB1.out) | (show w.heap.size ≤ _; omega))
      · repeat' (first | (with_reducible exact Chg.refl _ _) | (with_reducible refine Chg.alloc ?_ _) | (with_reducible refine Chg.drew ?_) | (with_reducible refine Chg.set ?_ ?_ _ _) | (with_reducible refine Chg.call ?_ HB1.out) | (show _ ≠ w.heap.size; omega))
  case rest =>
    obtain ⟨b, A1, c1, rfl, e0, e1, e2, e3, hva, hbw, hbox⟩ := hcut
    have j0 := blk_cell hbox 0
    have j1 := blk_cell hbox 1
    have j2 := blk_cell hbox 2
    have j3 := blk_cell hbox 3
    have j4 := fun j => blk_frozen hbox j
    have HV := Ad.mk hva
    have HBW := Ad.mk hbw
    have HBX := Ad.mk hbox
    clear hva hbw hbox
    go_wp2_with fail
    rw [← HR.out]
    exact RetV.fin HV.out rfl rfl rfl HBX.out rfl HBW.out (Nat.le_refl _) (fun x _ hq => by rcases hq with hq | hq; exact ⟨.inl hq, by have := HQ.out x hq; omega⟩; exact ⟨.inr (by omega), by omega⟩)⟩
set_option maxHeartbeats 8000000 in
set_option maxRecDepth 100000 in
theorem doDrop_ok : DoOK 165 2 dropV := ⟨fun w A c vs Q hn hl hQ hv => by
  obtain ⟨ad, B0, d0, rfl, g00, g01, g02, g03, ha0⟩ := arg0 hl (by omega) (.cells #[.int .i64 0, .int .i64 0, .string ⟨#[]⟩, .slice none 0 0] 42)
  obtain ⟨B1, d1, g10, g11, g12, g13, ha1⟩ := arg_at hl 1 4 rfl (by omega) (by omega) (.cells #[.int .i64 0, .int .i64 0, .string ⟨#[]⟩, .slice none 0 0] 42)
  obtain ⟨R, hR⟩ : ∃ R, dropV vs = R := ⟨_, rfl⟩
  rw [hR]
  unfold dropV at hR
  have hm0 : vs.getD 0 Val.none ∈ vs := by rw [List.getD_eq_getElem?_getD, List.getElem?_eq_getElem (by omega)]; exact List.getElem_mem _
  have hv0 := hv _ hm0
  obtain ⟨x0, hx0⟩ : ∃ x, vs.getD 0 Val.none = x := ⟨_, rfl⟩
  rw [hx0] at hR g00 g01 g02 g03 ha0 hv0
  have HA0 := Ad.mk ha0
  have HV0 := Ad.mk hv0
  have hm1 : vs.getD 1 Val.none ∈ vs := by rw [List.getD_eq_getElem?_getD, List.getElem?_eq_getElem (by omega)]; exact List.getElem_mem _
  have hv1 := hv _ hm1
  obtain ⟨x1, hx1⟩ : ∃ x, vs.getD 1 Val.none = x := ⟨_, rfl⟩
  rw [hx1] at hR g10 g11 g12 g13 ha1 hv1
  have HA1 := Ad.mk ha1
  have HV1 := Ad.mk hv1
  have HR := Ad.mk hR
  have HQ := Ad.mk hQ
  have q1 : w.heap.size < w.heap.size + 1 + 1 := by omega
  have q2 : w.heap.size < w.heap.size + 1 + 1 + 1 := by omega
  have q3 : w.heap.size + 1 < w.heap.size + 1 + 1 + 1 := by omega
  have hb0 : ad.block < w.heap.size := by obtain ⟨ad', _, _, e, h, _⟩ := hl.at 0 (by omega); cases e; have := World.block_lt_of_cell? _ _ h; rwa [add_block] at this
  obtain ⟨r, hr⟩ : ∃ r, cutV x0 x1 = r := ⟨_, rfl⟩
  rw [hr] at hR
  have Hr := Ad.mk hr
  clear hr
  have HR := Ad.mk hR
  have HP0 := Ad.mk (And.intro g00 (And.intro g01 (And.intro g02 (And.intro g03 (And.intro g10 (And.intro g11 (And.intro g12 g13)))))))
  rw [hn]
  clear hR hl hQ hv hn hm0 hv0 hx0 ha0 hm1 hv1 hx1 ha1
  go_enter Tryz.func165, Tryz.ntmps165
  go_upto_region 1 with (fail)
  go_cut [4] (fun s3 wx => TakeP Q w r.2 s3 wx)
  case first =>
    go_wp2_with fail
    go_region_held3 (fun w' => w'.cell? ad = some (.int .i64 x0.k) ∧ w'.cell? ⟨ad.block, ad.off + 1, none⟩ = some (.int .i64 x0.n) ∧ w'.cell? ⟨ad.block, ad.off + 2, none⟩ = some (.string x0.s) ∧ w'.cell? ⟨ad.block, ad.off + 3, none⟩ = some (.slice B0 x0.items.length d0) ∧ w'.cell? ⟨ad.block, ad.off + 4, none⟩ = some (.int .i64 x1.k) ∧ w'.cell? ⟨ad.block, ad.off + 4 + 1, none⟩ = some (.int .i64 x1.n) ∧ w'.cell? ⟨ad.block, ad.off + 4 + 2, none⟩ = some (.string x1.s) ∧ w'.cell? ⟨ad.block, ad.off + 4 + 3, none⟩ = some (.slice B1 x1.items.length d1)) (((with_reducible refine keep8 (w := w.alloc (.cells #[.int .i64 0, .int .i64 0, .string ⟨#[]⟩, .slice none 0 0] 42)) (fun h => Chg.block (S := fun q => q ≠ ad.block) ?_ _ h (fun hn => absurd rfl hn)) HP0.out); (repeat' (first | (with_reducible exact Chg.refl _ _) | (with_reducible refine Chg.alloc ?_ _) | (with_reducible refine Chg.drew ?_) | (with_reducible refine Chg.set ?_ ?_ _ _) | (with_reducible refine Chg.call ?_ HB1.out) | (show _ ≠ ad.block; omega))))) ((go_at_call 187; ((with_reducible refine (cutAt_calls Q Q B0 B1 d0 d1 x0 x1 _ (by first | (with_reducible exact HA0.out.below (below_alloc (Below.refl _ _) _).drew) | (with_reducible exact HA0.out.below (below_alloc (below_alloc (Below.refl _ _) _) _).drew) | exact HA0.out.below (below_alloc (below_alloc (below_alloc (Below.refl _ _) _) _) _).drew) (by first | (with_reducible exact HA1.out.below (below_alloc (Below.refl _ _) _).drew) | (with_reducible exact HA1.out.below (below_alloc (below_alloc (Below.refl _ _) _) _).drew) | exact HA1.out.below (below_alloc (below_alloc (below_alloc (Below.refl _ _) _) _) _).drew) (by intro b hb; have := HQ.out b hb; simp; omega)).mono ?_); rw [Hr.out]; rintro e1 w1 ⟨A1, c1, A2, c2, rfl, ha1, ha2, hb1⟩; obtain ⟨k1, z1, y1, HB1⟩ := kcell _ hb1 (Nat.le_refl _); obtain ⟨s1, s2, s3⟩ := ksz y1; have y1' := y1; simp at y1'; have HC1 := Ad.mk ha1; have HC2 := Ad.mk ha2; clear ha1 ha2 hb1)))
    all_goals
      go_wp2_with fail
      go_meet
      refine ⟨_, A2, c2, rfl, by go_simp, by go_simp, by go_simp, by go_simp, HC2.out.far ?_ ?_, Chg.below (S := fun q => w.heap.size ≤ q) ?_ (fun _ h => h), (Chg.block (w := w.alloc (.cells #[.int .i64 0, .int .i64 0, .string ⟨#[]⟩, .slice none 0 0] 42)) (S := fun q => q ≠ w.heap.size) ?_ _ (by simp) (fun hn => absurd rfl hn)).trans (blk_new _ _)⟩
      · repeat' (first | (with_reducible exact Chg.refl _ _) | (with_reducible refine Chg.alloc ?_ _) | (with_reducible refine Chg.drew ?_) | (with_reducible refine Chg.set ?_ ?_ _ _) | (with_reducible refine Chg.call ?_ HB1.out) | (show ¬ (Q _ ∨ _ ≤ _); intro h; rcases h with h | h; (have := HQ.out _ h; omega); (simp at h; omega)))
      · intro x h; rcases h with h | h; exact .inl h; simp at h; exact .inr (by omega)
      · repeat' (first | (with_reducible exact Chg.refl _ _) | (with_reducible refine Chg.alloc ?_ _) | (with_reducible refine Chg.drew ?_) | (with_reducible refine Chg.set ?_ ?_ _ _) | (with_reducible refine Chg.call ?_ HB1.out) | (show w.heap.size ≤ _; omega))
      · repeat' (first | (with_reducible exact Chg.refl _ _) | (with_reducible refine Chg.alloc ?_ _) | (with_reducible refine Chg.drew ?_) | (with_reducible refine Chg.set ?_ ?_ _ _) | (with_reducible refine Chg.call ?_ HB1.out) | (show _ ≠ w.heap.size; omega))
  case rest =>
    obtain ⟨b, A1, c1, rfl, e0, e1, e2, e3, hva, hbw, hbox⟩ := hcut
    have j0 := blk_cell hbox 0
    have j1 := blk_cell hbox 1
    have j2 := blk_cell hbox 2
    have j3 := blk_cell hbox 3
    have j4 := fun j => blk_frozen hbox j
    have HV := Ad.mk hva
    have HBW := Ad.mk hbw
    have HBX := Ad.mk hbox
    clear hva hbw hbox
    go_wp2_with fail
    rw [← HR.out]
    exact RetV.fin HV.out rfl rfl rfl HBX.out rfl HBW.out (Nat.le_refl _) (fun x _ hq => by rcases hq with hq | hq; exact ⟨.inl hq, by have := HQ.out x hq; omega⟩; exact ⟨.inr (by omega), by omega⟩)⟩
end Go.Proofs.YtahnelihohmjfaaGreatDoor.V
namespace Go.Proofs.YtahnelihohmjfaaGreatDoor.V
open Go.RowKit
set_option linter.unusedVariables false
set_option linter.unusedSimpArgs false
theorem place_lt {i : Int} {n : Nat} (hi : I64 i) : -1 ≤ placeV i n ∧ placeV i n ≤ n := by
  unfold placeV; unfold I64 at hi; split <;> split <;> omega
def atV (vs : List Val) : Val := bif (vs.getD 1 Val.none).k == 1 then (bif (vs.getD 0 Val.none).k == 2 then (if 0 ≤ placeV (vs.getD 1 Val.none).n (vs.getD 0 Val.none).s.size ∧ placeV (vs.getD 1 Val.none).n (vs.getD 0 Val.none).s.size < (vs.getD 0 Val.none).s.size then Val.text ((vs.getD 0 Val.none).s.extract (placeV (vs.getD 1 Val.none).n (vs.getD 0 Val.none).s.size).toNat ((placeV (vs.getD 1 Val.none).n (vs.getD 0 Val.none).s.size).toNat + 1)) else Val.none)
  else bif (vs.getD 0 Val.none).k == 3 then (if 0 ≤ placeV (vs.getD 1 Val.none).n (vs.getD 0 Val.none).items.length ∧ placeV (vs.getD 1 Val.none).n (vs.getD 0 Val.none).items.length < (vs.getD 0 Val.none).items.length then (vs.getD 0 Val.none).items.getD (placeV (vs.getD 1 Val.none).n (vs.getD 0 Val.none).items.length).toNat Val.none else Val.none) else Val.none) else Val.none
set_option maxHeartbeats 8000000 in
set_option maxRecDepth 100000 in
theorem doAt_ok : DoOK 163 2 atV := ⟨fun w A c vs Q hn hl hQ hv => by
  obtain ⟨ad, B0, d0, rfl, g00, g01, g02, g03, ha0⟩ := arg0 hl (by omega) (.cells #[.int .i64 0, .int .i64 0, .string ⟨#[]⟩, .slice none 0 0] 42)
  obtain ⟨B1, d1, g10, g11, g12, g13, ha1⟩ := arg_at hl 1 4 rfl (by omega) (by omega) (.cells #[.int .i64 0, .int .i64 0, .string ⟨#[]⟩, .slice none 0 0] 42)
  obtain ⟨R, hR⟩ : ∃ R, atV vs = R := ⟨_, rfl⟩
  rw [hR]
  unfold atV at hR
  have hm0 : vs.getD 0 Val.none ∈ vs := by rw [List.getD_eq_getElem?_getD, List.getElem?_eq_getElem (by omega)]; exact List.getElem_mem _
  have hv0 := hv _ hm0
  obtain ⟨x0, hx0⟩ : ∃ x, vs.getD 0 Val.none = x := ⟨_, rfl⟩
  rw [hx0] at hR g00 g01 g02 g03 ha0 hv0
  have HA0 := Ad.mk ha0
  have HV0 := Ad.mk hv0
  have hm1 : vs.getD 1 Val.none ∈ vs := by rw [List.getD_eq_getElem?_getD, List.getElem?_eq_getElem (by omega)]; exact List.getElem_mem _
  have hv1 := hv _ hm1
  obtain ⟨x1, hx1⟩ : ∃ x, vs.getD 1 Val.none = x := ⟨_, rfl⟩
  rw [hx1] at hR g10 g11 g12 g13 ha1 hv1
  have HA1 := Ad.mk ha1
  have HV1 := Ad.mk hv1
  have HR := Ad.mk hR
  have HQ := Ad.mk hQ
  have hb0 : ad.block < w.heap.size := by obtain ⟨ad', _, _, e, h, _⟩ := hl.at 0 (by omega); cases e; have := World.block_lt_of_cell? _ _ h; rwa [add_block] at this
  have hs0 := ha0.s
  have hl0 := ha0.l.out.2.1
  have hc0 := ha0.l.out.1
  have HN1 := Ad.mk ha1.n
  have HP0 := Ad.mk (And.intro g00 (And.intro g01 (And.intro g02 (And.intro g03 (And.intro g10 (And.intro g11 (And.intro g12 g13)))))))
  rw [hn]
  clear hR hl hQ hv hn hm0 hv0 hx0 ha0 hm1 hv1 hx1 ha1
  by_cases hk1 : (x1.k == 1) = true
  · have hk1' : (x1.k != 1) = false := by simpa using hk1
    by_cases hk2 : (x0.k == 2) = true
    · obtain ⟨p, hp⟩ : ∃ p, placeV x1.n x0.s.size = p := ⟨_, rfl⟩
      have Hp := Ad.mk hp
      have hp1 := (place_lt (i := x1.n) (n := x0.s.size) HN1.out).1
      have hp2 := (place_lt (i := x1.n) (n := x0.s.size) HN1.out).2
      rw [hp] at hp1 hp2
      clear hp
      go_enter Tryz.func163, Tryz.ntmps163
      go_wp2_with fail
      go_region_held3 (fun w' => w'.cell? ad = some (.int .i64 x0.k) ∧ w'.cell? ⟨ad.block, ad.off + 1, none⟩ = some (.int .i64 x0.n) ∧ w'.cell? ⟨ad.block, ad.off + 2, none⟩ = some (.string x0.s) ∧ w'.cell? ⟨ad.block, ad.off + 3, none⟩ = some (.slice B0 x0.items.length d0) ∧ w'.cell? ⟨ad.block, ad.off + 4, none⟩ = some (.int .i64 x1.k) ∧ w'.cell? ⟨ad.block, ad.off + 4 + 1, none⟩ = some (.int .i64 x1.n) ∧ w'.cell? ⟨ad.block, ad.off + 4 + 2, none⟩ = some (.string x1.s) ∧ w'.cell? ⟨ad.block, ad.off + 4 + 3, none⟩ = some (.slice B1 x1.items.length d1)) (((with_reducible refine keep8 (w := w.alloc (.cells #[.int .i64 0, .int .i64 0, .string ⟨#[]⟩, .slice none 0 0] 42)) (fun h => Chg.block (S := fun q => q ≠ ad.block) ?_ _ h (fun hn => absurd rfl hn)) HP0.out); (repeat' (first | (with_reducible exact Chg.refl _ _) | (with_reducible refine Chg.alloc ?_ _) | (with_reducible refine Chg.drew ?_) | (with_reducible refine Chg.set ?_ ?_ _ _) | (with_reducible refine Chg.call ?_ HB1.out) | (show _ ≠ ad.block; omega))))) ((go_at_call 186; refine (place_calls x1.n x0.s.size _ HN1.out (by omega)).mono ?_; rw [Hp.out]; rintro e1 w1 ⟨rfl, hb1⟩; obtain ⟨k1, z1, y1, HB1⟩ := kcell (w.heap.size + 1) hb1 (by simp); clear hb1))
      by_cases hin : 0 ≤ p ∧ p < x0.s.size
      · obtain ⟨m, rfl⟩ : ∃ m : Nat, p = m := ⟨p.toNat, by omega⟩
        have j1 : (m : Int) < (x0.s.size : Int) := by omega
        have j2 : m < x0.s.size := by omega
        have j3 : m + 1 ≤ x0.s.size := by omega
        have HIN := Ad.mk hin
        clear hin
        go_wp2_with (go_at_call 88; refine (ofText_calls (fun _ => False) (x0.s.extract m (m + 1)) _ (by simp; omega)).mono ?_; rintro e2 w2 ⟨A2, c2, rfl, ha2, hb2⟩; obtain ⟨k2, z2, y2, HB2⟩ := kcell (w.heap.size + 1) hb2 y1; have HA2 := Ad.mk ha2; clear ha2 hb2)
        have e : R = Val.text (x0.s.extract m (m + 1)) := by rw [← HR.out, hk1, hk2]; simp only [cond_true, Hp.out]; rw [if_pos HIN.out]; simp
        have hz := below_then HB1.out HB2.out
        rw [e]
        exact RetV.fin HA2.out rfl rfl rfl (blk_below (blk_new2 rfl) (below_then (Below.refl _ _).drew hz)) rfl (below_then (below_alloc (Below.refl _ _) _).drew hz) (Nat.le_refl _) (fun x _ hq => by rcases hq with hq | hq; exact hq.elim; exact ⟨.inr (by omega), by omega⟩)
      · have HIN := Ad.mk hin
        have hin' : p < 0 ∨ (x0.s.size : Int) ≤ p := by omega
        clear hin
        go_wp2_with fail
        all_goals
          have e : R = Val.none := by rw [← HR.out, hk1, hk2]; simp only [cond_true, cond_false, Hp.out]; rw [if_neg HIN.out]
          rw [e]
          exact RetV.fin (VA.none (fun _ => False) _ Option.none 0) rfl rfl rfl (blk_below (blk_new2 rfl) (below_then (Below.refl _ _).drew HB1.out)) rfl (below_then (below_alloc (Below.refl _ _) _).drew HB1.out) (Nat.le_refl _) (fun _ _ h => h.elim)
    · have hk2' : (x0.k == 2) = false := by simpa using hk2
      by_cases hk3 : (x0.k == 3) = true
      · obtain ⟨p, hp⟩ : ∃ p, placeV x1.n x0.items.length = p := ⟨_, rfl⟩
        have Hp := Ad.mk hp
        have hp1 := (place_lt (i := x1.n) (n := x0.items.length) HN1.out).1
        have hp2 := (place_lt (i := x1.n) (n := x0.items.length) HN1.out).2
        rw [hp] at hp1 hp2
        clear hp
        go_enter Tryz.func163, Tryz.ntmps163
        go_wp2_with fail
        go_region_held3 (fun w' => w'.cell? ad = some (.int .i64 x0.k) ∧ w'.cell? ⟨ad.block, ad.off + 1, none⟩ = some (.int .i64 x0.n) ∧ w'.cell? ⟨ad.block, ad.off + 2, none⟩ = some (.string x0.s) ∧ w'.cell? ⟨ad.block, ad.off + 3, none⟩ = some (.slice B0 x0.items.length d0) ∧ w'.cell? ⟨ad.block, ad.off + 4, none⟩ = some (.int .i64 x1.k) ∧ w'.cell? ⟨ad.block, ad.off + 4 + 1, none⟩ = some (.int .i64 x1.n) ∧ w'.cell? ⟨ad.block, ad.off + 4 + 2, none⟩ = some (.string x1.s) ∧ w'.cell? ⟨ad.block, ad.off + 4 + 3, none⟩ = some (.slice B1 x1.items.length d1)) (((with_reducible refine keep8 (w := w.alloc (.cells #[.int .i64 0, .int .i64 0, .string ⟨#[]⟩, .slice none 0 0] 42)) (fun h => Chg.block (S := fun q => q ≠ ad.block) ?_ _ h (fun hn => absurd rfl hn)) HP0.out); (repeat' (first | (with_reducible exact Chg.refl _ _) | (with_reducible refine Chg.alloc ?_ _) | (with_reducible refine Chg.drew ?_) | (with_reducible refine Chg.set ?_ ?_ _ _) | (with_reducible refine Chg.call ?_ HB1.out) | (show _ ≠ ad.block; omega))))) ((go_at_call 186; refine (place_calls x1.n x0.items.length _ HN1.out (by omega)).mono ?_; rw [Hp.out]; rintro e1 w1 ⟨rfl, hb1⟩; obtain ⟨k1, z1, y1, HB1⟩ := kcell (w.heap.size + 1) hb1 (by simp); clear hb1))
        by_cases hin : 0 ≤ p ∧ p < x0.items.length
        · obtain ⟨m, rfl⟩ : ∃ m : Nat, p = m := ⟨p.toNat, by omega⟩
          have j1 : (m : Int) < (x0.items.length : Int) := by omega
          have j2 : (0 : Int) ≤ (m : Int) := by omega
          have HIN := Ad.mk hin
          have hvb := HA0.out.below (below_then (below_alloc (Below.refl _ _) _).drew HB1.out)
          obtain ⟨ae, Be, de, rfl, f0, f1, f2, f3, hae⟩ := hvb.l.at m (by omega)
          obtain ⟨y, hy⟩ : ∃ y, x0.items.getD m Val.none = y := ⟨_, rfl⟩
          rw [hy] at f0 f1 f2 f3 hae
          have HAE := Ad.mk hae
          have HY := Ad.mk hy
          clear hin hy hae hvb
          go_wp2_with fail
          have e : R = y := by rw [← HR.out, hk1, hk2', hk3]; simp only [cond_true, cond_false, Hp.out]; rw [if_pos HIN.out]; exact HY.out
          rw [e]
          exact RetV.fin HAE.out rfl rfl rfl (blk_below (blk_new2 rfl) (below_then (Below.refl _ _).drew HB1.out)) rfl (below_then (below_alloc (Below.refl _ _) _).drew HB1.out) (Nat.le_refl _) (fun x _ hq => ⟨.inl hq, by have := HQ.out x hq; omega⟩)
        · have HIN := Ad.mk hin
          have hin' : p < 0 ∨ (x0.items.length : Int) ≤ p := by omega
          clear hin
          go_wp2_with fail
          all_goals
            have e : R = Val.none := by rw [← HR.out, hk1, hk2', hk3]; simp only [cond_true, cond_false, Hp.out]; rw [if_neg HIN.out]
            rw [e]
            exact RetV.fin (VA.none (fun _ => False) _ Option.none 0) rfl rfl rfl (blk_below (blk_new2 rfl) (below_then (Below.refl _ _).drew HB1.out)) rfl (below_then (below_alloc (Below.refl _ _) _).drew HB1.out) (Nat.le_refl _) (fun _ _ h => h.elim)
      · have hk3' : (x0.k == 3) = false := by simpa using hk3
        go_enter Tryz.func163, Tryz.ntmps163
        go_wp2_with fail
        have e : R = Val.none := by rw [← HR.out, hk1, hk2', hk3']; rfl
        rw [e]
        exact RetV.fin0 (VA.none (fun _ => False) w Option.none 0) rfl rfl rfl rfl (Below.refl _ _) (fun _ _ h => h.elim)
  · have hk1' : (x1.k != 1) = true := by simpa using hk1
    have hk1'' : (x1.k == 1) = false := by simpa using hk1
    go_enter Tryz.func163, Tryz.ntmps163
    go_wp2_with fail
    have e : R = Val.none := by rw [← HR.out, hk1'']; rfl
    rw [e]
    exact RetV.fin0 (VA.none (fun _ => False) w Option.none 0) rfl rfl rfl rfl (Below.refl _ _) (fun _ _ h => h.elim)⟩
end Go.Proofs.YtahnelihohmjfaaGreatDoor.V
namespace Go.Proofs.YtahnelihohmjfaaGreatDoor.V
open Go.RowKit
set_option linter.unusedVariables false
set_option linter.unusedSimpArgs false
def reckonV (op : ByteArray) (a b : Int) : Int × Bool :=
  bif op.toList == [43] then (wrap64 (a + b), decide (a < wrap64 (a + b)) == decide (0 < b))
  else bif op.toList == [45] then (wrap64 (a - b), decide (wrap64 (a - b) < a) == decide (0 < b))
  else bif op.toList == [42] then
    (bif a == 0 then (0, true) else bif b == 0 then (0, true)
    else bif (a == -1 && b == -9223372036854775808) then (0, false) else bif (b == -1 && a == -9223372036854775808) then (0, false)
    else (wrap64 (a * b), wrap64 ((wrap64 (a * b)).tdiv b) == a))
  else bif b == 0 then (0, false)
  else bif b == -1 then (bif op.toList == [37] then (0, true) else (wrap64 (-a), a != -9223372036854775808))
  else bif !(a.tmod b == 0) && !(decide (a.tmod b < 0) == decide (b < 0)) then (bif op.toList == [47] then (wrap64 (wrap64 (a.tdiv b) - 1), true) else (wrap64 (a.tmod b + b), true))
  else (bif op.toList == [47] then (wrap64 (a.tdiv b), true) else (a.tmod b, true))
theorem beqd (a b : Int) : (a == b) = decide (a = b) := rfl
theorem below_drewN {w : World} (n : Nat) : Below w.heap.size w (w.drewN n) := ⟨rfl, rfl, rfl, Nat.le_refl _, fun _ _ => rfl⟩
set_option maxHeartbeats 8000000 in
set_option maxRecDepth 100000 in
theorem reckon_aux (op : ByteArray) (x y : Val) (w : World) : Calls Tryz.prog 179 #[.string op, .int .i64 x.n, .int .i64 y.n] w (Ret w (.tuple #[.int .i64 (reckonV op x.n y.n).1, .bool (reckonV op x.n y.n).2])) := by
  obtain ⟨R, hR⟩ : ∃ R, reckonV op x.n y.n = R := ⟨_, rfl⟩
  rw [hR]
  unfold reckonV at hR
  have HR := Ad.mk hR
  clear hR
  by_cases hy0 : y.n = 0
  · have hyb : (y.n == 0) = true := by simpa using hy0
    clear hy0
    go_enter Tryz.func179, Tryz.ntmps179
    go_wp2_with fail
    all_goals
      go_ret2
      refine ⟨?_, Below.refl _ _⟩
      rw [← HR.out]
      clear HR
      simp [*, beqd]
  · have hyb : (y.n == 0) = false := by simpa using hy0
    go_enter Tryz.func179, Tryz.ntmps179
    go_wp2_with fail
    all_goals first
      | (go_quiet (fail); go_wp2_with fail)
      | skip
    all_goals
      go_ret2
      refine ⟨?_, by first | exact Below.refl _ _ | exact below_drewN _⟩
      rw [← HR.out]
      clear HR
      first
        | (simp [*, beqd]; done)
        | (simp [*, beqd, wrap64]; done)
theorem wrap_i64 (n : Int) : I64 (wrap64 n) := by unfold I64 wrap64; omega
theorem tmod_i64 {a b : Int} (h : I64 a) : I64 (a.tmod b) := by
  unfold I64 at *
  have h1 := Int.natAbs_tmod a b
  have h2 : (a.tmod b).natAbs ≤ a.natAbs := by rw [h1]; exact Nat.mod_le _ _
  rcases Int.le_total 0 a with h0 | h0
  · have := Int.tmod_nonneg b h0
    omega
  · have h3 : a.tmod b ≤ 0 := by
      have := Int.tmod_nonneg b (show 0 ≤ -a by omega)
      rw [Int.neg_tmod] at this
      omega
    omega
theorem reckon_i64 (op : ByteArray) {a b : Int} (ha : I64 a) : I64 (reckonV op a b).1 := by
  unfold reckonV
  repeat' (rw [Bool.cond_eq_ite]; split)
  all_goals first
    | exact wrap_i64 _
    | exact tmod_i64 ha
    | (show I64 0; unfold I64; omega)
theorem reckon_calls (op : ByteArray) (a b : Int) (w : World) : Calls Tryz.prog 179 #[.string op, .int .i64 a, .int .i64 b] w (Ret w (.tuple #[.int .i64 (reckonV op a b).1, .bool (reckonV op a b).2])) :=
  reckon_aux op (Val.int a) (Val.int b) w
end Go.Proofs.YtahnelihohmjfaaGreatDoor.V
namespace Go.Proofs.YtahnelihohmjfaaGreatDoor.V
open Go.RowKit
set_option linter.unusedVariables false
set_option linter.unusedSimpArgs false
/-- the cells of a list that is read, as one row -/
theorem VL.flat {Q : Nat → Prop} {w : World} {ad : Addr} {c : Nat} {l : List Val} (h : VL Q w (some ad) c l) : ∃ ps : List (Option Addr × Nat), ps.length = l.length ∧ (∀ j u, (flatV l ps)[j]? = some u → w.cell? (ad.add j) = some u) ∧ ∀ i, i < l.length → VA Q w (ps.getD i (none, 0)).1 (ps.getD i (none, 0)).2 (l.getD i Val.none) := by
  obtain ⟨h1, h2, css, h3, h4⟩ := h.out
  have hk : ∀ i, ∃ p : Option Addr × Nat, i < l.length → css i = cellsV (l.getD i Val.none) p ∧ VA Q w p.1 p.2 (l.getD i Val.none) := fun i => by
    by_cases hi : i < l.length
    · obtain ⟨B, d, e, hv, hn, hs⟩ := (h4 i hi).open
      exact ⟨(B, d), fun _ => ⟨e, hv, hn, hs⟩⟩
    · exact ⟨(none, 0), fun h => absurd h hi⟩
  obtain ⟨f, hf⟩ := Classical.axiomOfChoice hk
  have hg : ∀ i, i < l.length → ((List.range l.length).map f).getD i (none, 0) = f i := fun i hi => by
    simp [List.getD_eq_getElem?_getD, List.getElem?_range, hi]
  refine ⟨(List.range l.length).map f, by simp, fun j u hu => ?_, fun i hi => by rw [hg i hi]; exact (hf i hi).2⟩
  have hlen : (flatV l ((List.range l.length).map f)).length = l.length * 4 := by
    have : ∀ (l : List Val) (ps : List (Option Addr × Nat)), ps.length = l.length → (flatV l ps).length = l.length * 4 := by
      intro l
      induction l with
      | nil => intro ps _; cases ps <;> simp [flatV]
      | cons v l ih =>
        intro ps h
        cases ps with
        | nil => simp at h
        | cons p ps => simp only [flatV, List.length_append, ih ps (by simpa using h), List.length_cons]; simp [cellsV]; omega
    exact this l _ (by simp)
  have hj := (List.getElem?_eq_some_iff.1 hu).1
  rw [hlen] at hj
  have hi : j / 4 < l.length := by omega
  have hr : j % 4 < 4 := by omega
  have e := flatV_at (l := l) (ps := (List.range l.length).map f) (by simp) (j / 4) (j % 4) hi hr
  rw [show j / 4 * 4 + j % 4 = j by omega, hu, hg _ hi, ← (hf _ hi).1] at e
  obtain ⟨ad', ea, _, hc⟩ := h3 (by omega)
  cases ea
  have := hc (j / 4) (j % 4) u hi e.symm
  rwa [show j / 4 * 4 + j % 4 = j by omega] at this
/-- a row of the call's own -/
def RetRow (Q : Nat → Prop) (w : World) (l : List Val) (e : Ending) (w' : World) : Prop := ∃ v, e = .returned v ∧ RowV Q w.heap.size w' v l ∧ Below w.heap.size w w'
theorem VA.one {Q : Nat → Prop} {w : World} {A : Option Addr} {c : Nat} {v : Val} (h : VA Q w A c v) : ∀ u ∈ cellsV v (A, c), u.oneCell' = true := by simp [cellsV, Value.oneCell']
theorem flat_one (l : List Val) (ps : List (Option Addr × Nat)) : ∀ u ∈ flatV l ps, u.oneCell' = true := by
  induction l generalizing ps with
  | nil => cases ps <;> simp [flatV]
  | cons v l ih =>
    cases ps with
    | nil => simp [flatV]
    | cons p ps =>
      intro u hu
      simp only [flatV, List.mem_append] at hu
      rcases hu with hu | hu
      · simp [cellsV] at hu
        rcases hu with rfl | rfl | rfl | rfl <;> simp [Value.oneCell']
      · exact ih ps u hu
theorem flat_len (l : List Val) (ps : List (Option Addr × Nat)) (h : ps.length = l.length) : (flatV l ps).length = l.length * 4 := by
  induction l generalizing ps with
  | nil => cases ps <;> simp [flatV]
  | cons v l ih =>
    cases ps with
    | nil => simp at h
    | cons p ps => simp only [flatV, List.length_append, ih ps (by simpa using h), List.length_cons]; simp [cellsV]; omega
set_option maxHeartbeats 4000000 in
theorem clone_calls (Q : Nat → Prop) (A : Option Addr) (c : Nat) (l : List Val) (w : World) (hl : VL Q w A c l) (hQ : ∀ b, Q b → b < w.heap.size) (hn : l.length ≤ 1000) :
    Calls Tryz.prog 180 #[.slice A l.length c] w (RetRow Q w l) := by
  obtain ⟨i0, hi, hz0, hz1, hz2⟩ := info_parts info42
  have HI := Ad.mk (And.intro hi (And.intro hz0 (And.intro hz1 hz2)))
  have HQ := Ad.mk hQ
  have HL := Ad.mk hl
  clear hi hz0 hz1 hz2 hQ
  have hnil := Lib.run_eql_slice_nil (P := Tryz.prog)
  cases A with
  | none =>
    have hl0 : l = [] := by
      rcases Nat.eq_zero_or_pos l.length with h | h
      · exact List.eq_nil_of_length_eq_zero h
      · obtain ⟨_, _, _, h3, _⟩ := hl.out
        obtain ⟨ad, e, _⟩ := h3 h
        cases e
    subst hl0
    clear hl
    go_enter Tryz.func180, Tryz.ntmps180
    go_wp2_with fail
    go_ret
    exact ⟨_, rfl, RowV.nil _ _ _, Below.refl _ _⟩
  | some ad =>
    cases l with
    | nil =>
      go_enter Tryz.func180, Tryz.ntmps180
      go_wp2_with fail
      go_ret
      exact ⟨_, rfl, ⟨by simp, [], rfl, ⟨rfl, .inr ⟨w.heap.size, 0, #[], rfl, Nat.le_refl _, blk_new _ _, Nat.le_refl _, by unfold maxLen; omega, rfl, rfl⟩⟩, fun i h => absurd h (by simp)⟩, below_alloc (Below.refl _ _) _⟩
    | cons x r =>
      obtain ⟨ps, hps, hcell, hva⟩ := hl.flat
      obtain ⟨l, hle⟩ : ∃ l, x :: r = l := ⟨_, rfl⟩
      have hpos : 0 < l.length := by rw [← hle]; simp
      rw [hle] at hps hcell hva hn HL ⊢
      have HP := Ad.mk hps
      have HC := Ad.mk hcell
      have HV := Ad.mk hva
      have hcl := hl.out.1
      rw [hle] at hcl
      clear hps hcell hva hle hl
      go_enter Tryz.func180, Tryz.ntmps180
      go_wp2_with (at_builtin; go_must (refine wpList_append_lies _ rfl _ _ 40 (by rfl) w.heap.size 42 i0 _ 4 56 Tryz.underlying40 HI.out.1 HI.out.2.1 HI.out.2.2.1 HI.out.2.2.2 rfl (by omega) (.slice (some ⟨w.heap.size, 0, none⟩) 0 0) 0 [] (by rfl) ⟨rfl, .inr ⟨w.heap.size, 0, #[], rfl, Nat.le_refl _, blk_new _ _, Nat.le_refl _, by unfold maxLen; omega, rfl, rfl⟩⟩ ad l.length c (flatV l ps) (by rfl) (flat_len l ps HP.out) (fun j u h => cell_below (below_alloc (Below.refl _ _) _) (HC.out j u h)) (flat_one l ps) hpos (by unfold maxLen; omega) (by omega) (by simp) _ rfl ?_); intro g cp w2 hown2 hgrow hat hlt2)
      go_ret
      have hbw : Below w.heap.size w w2 := (below_alloc (Below.refl _ _) _).grown hgrow (by simp) (fun k hk => by simp [Value.ownBlock] at hk; omega)
      simp only [Nat.zero_add, List.nil_append] at hown2
      have hg := (own_lt hown2 g rfl).1
      exact ⟨_, rfl, ⟨by omega, ps, HP.out, hown2, fun i hi => ((HV.out i hi).below hbw).weak fun b _ hq => ⟨hq, fun he => by simp [Value.ownBlock] at he; have := HQ.out b hq; omega⟩⟩, hbw⟩
end Go.Proofs.YtahnelihohmjfaaGreatDoor.V
namespace Go.Proofs.YtahnelihohmjfaaGreatDoor.V
open Go.RowKit
set_option linter.unusedVariables false
set_option linter.unusedSimpArgs false
def sumL : Int → List Val → Option Int
  | n, [] => some n
  | n, v :: r => bif v.k == 1 then (bif (reckonV ⟨#[43]⟩ n v.n).2 then sumL (reckonV ⟨#[43]⟩ n v.n).1 r else none) else none
def sumO : Option Int → Val | some n => Val.int n | none => Val.none
def sumV (vs : List Val) : Val := bif (vs.getD 0 Val.none).k == 3 then sumO (sumL 0 (vs.getD 0 Val.none).items) else Val.none
def SumLoop (w : World) (l : List Val) (S : Option Int) (v3 v19 : Value) (wr : World) : Prop :=
  ∃ (i : Nat) (n : Int), i ≤ l.length ∧ v19 = .int .i64 i ∧ v3 = .int .i64 n ∧ I64 n ∧ Below w.heap.size w wr ∧ wr.heap[w.heap.size]? = some (.cells #[.int .i64 0, .int .i64 0, .string ⟨#[]⟩, .slice none 0 0] 42 (0, 0)) ∧ Ad (sumL n (l.drop i) = S)
set_option maxHeartbeats 8000000 in
set_option maxRecDepth 100000 in
theorem doSum_ok : DoOK 160 1 sumV := ⟨fun w A c vs Q hn hl hQ hv => by
  obtain ⟨ad, B0, d0, rfl, g00, g01, g02, g03, ha0⟩ := arg0 hl (by omega) (.cells #[.int .i64 0, .int .i64 0, .string ⟨#[]⟩, .slice none 0 0] 42)
  obtain ⟨R, hR⟩ : ∃ R, sumV vs = R := ⟨_, rfl⟩
  rw [hR]
  unfold sumV at hR
  have hm0 : vs.getD 0 Val.none ∈ vs := by rw [List.getD_eq_getElem?_getD, List.getElem?_eq_getElem (by omega)]; exact List.getElem_mem _
  have hv0 := hv _ hm0
  obtain ⟨x0, hx0⟩ : ∃ x, vs.getD 0 Val.none = x := ⟨_, rfl⟩
  rw [hx0] at hR g00 g01 g02 g03 ha0 hv0
  have HA0 := Ad.mk ha0
  have HV0 := Ad.mk hv0
  have HR := Ad.mk hR
  have HQ := Ad.mk hQ
  have hl0 := ha0.l.out.2.1
  rw [hn]
  clear hR hl hQ hv hn hm0 hv0 hx0 ha0
  by_cases hk3 : (x0.k == 3) = true
  · have hk3' : (x0.k != 3) = false := by simpa using hk3
    obtain ⟨S, hS⟩ : ∃ S, sumL 0 x0.items = S := ⟨_, rfl⟩
    have HS := Ad.mk hS
    clear hS
    go_enter Tryz.func160, Tryz.ntmps160
    go_wp2_with fail
    go_loopw [3, 19] (fun v3 v19 wr => SumLoop w x0.items S v3 v19 wr) (fun _ v19 _ => x0.items.length - (intOf v19).toNat)
    case atStart => exact ⟨0, 0, Nat.zero_le _, rfl, rfl, by simp [I64], below_alloc (Below.refl _ _) _, blk_new _ _, ⟨HS.out⟩⟩
    case round =>
      obtain ⟨i, n, hi, rfl, rfl, hn, hbw, hbx, HE⟩ := hrel
      have HN := Ad.mk hn
      have HBW := Ad.mk hbw
      have HBX := Ad.mk hbx
      have e0 := blk_cell hbx 0
      have e1 := blk_cell hbx 1
      have e2 := blk_cell hbx 2
      have e3 := blk_cell hbx 3
      have e4 := fun j => blk_frozen hbx j
      have hsz := blk_lt hbx
      have hz1 : ¬ w.heap.size = wr.heap.size := by omega
      have hz2 : ¬ wr.heap.size = w.heap.size := by omega
      have hz3 : w.heap.size < wr.heap.size + 1 := by omega
      clear hn hbw hbx
      by_cases hlt : i < x0.items.length
      · obtain ⟨ae, Be, de, rfl, f0, f1, f2, f3, hae⟩ := (HA0.out.below HBW.out).l.at i hlt
        have HNX := HE.out
        rw [dropAt hlt, sumL] at HNX
        obtain ⟨q, hq⟩ : ∃ q, x0.items.getD i Val.none = q := ⟨_, rfl⟩
        rw [hq] at HNX f0 f1 f2 f3 hae
        obtain ⟨T, hT⟩ : ∃ T, reckonV ⟨#[43]⟩ n q.n = T := ⟨_, rfl⟩
        rw [hT] at HNX
        have HT := Ad.mk hT
        have HNX := Ad.mk HNX
        have HI := Ad.mk (reckon_i64 ⟨#[43]⟩ (b := q.n) HN.out)
        clear hq hae HE hT
        go_wp2_with (go_at_call 179; refine (reckon_calls _ n q.n _).mono ?_; rw [HT.out]; rintro e1 w1 ⟨rfl, hb1⟩; obtain ⟨k1, z1, y1, HB1⟩ := kcell (wr.heap.size + 1) hb1 (by simp); clear hb1)
        · have e : R = Val.none := by rw [← HR.out, hk3, HS.out, ← HNX.out, show (q.k == 1) = false by simpa using ‹¬q.k = 1›]; rfl
          rw [e]
          exact RetV.fin (VA.none (fun _ => False) _ Option.none 0) rfl rfl rfl (blk_below (blk_alloc HBX.out _) HB1.out) rfl (below_then HBW.out (below_then (below_alloc (Below.refl _ _) _) HB1.out)) (Nat.le_refl _) (fun _ _ h => h.elim)
        · have e : R = Val.none := by rw [← HR.out, hk3, HS.out, ← HNX.out, show (q.k == 1) = true by simpa using ‹q.k = 1›, show T.2 = false by simpa using ‹(!T.2) = true›]; rfl
          rw [e]
          exact RetV.fin (VA.none (fun _ => False) _ Option.none 0) rfl rfl rfl (blk_below (blk_alloc HBX.out _) HB1.out) rfl (below_then HBW.out (below_then (below_alloc (Below.refl _ _) _) HB1.out)) (Nat.le_refl _) (fun _ _ h => h.elim)
        · go_roundw
          case rel => exact ⟨i + 1, T.1, by omega, by go_num, rfl, by rw [← HT.out]; exact HI.out, below_then HBW.out (below_then (below_alloc (Below.refl _ _) _) HB1.out), blk_below (blk_alloc HBX.out _) HB1.out, ⟨by rw [← HNX.out, show (q.k == 1) = true by simpa using ‹q.k = 1›, show T.2 = true by simpa using ‹(!T.2) = false›]; rfl⟩⟩
          case measure => simp [intOf]; omega
      · go_wp2_with (go_at_call 177; refine (ofInt_calls (fun _ => False) _ _ HN.out).mono ?_; rintro e2 w2 ⟨A2, c2, rfl, ha2, hb2⟩; obtain ⟨k2, z2, y2, HB2⟩ := kcell (w.heap.size + 1) hb2 (by omega); have HA2 := Ad.mk ha2; clear ha2 hb2)
        have e : R = Val.int n := by rw [← HR.out, hk3, HS.out, ← HE.out, List.drop_eq_nil_of_le (by omega), sumL]; rfl
        rw [e]
        exact RetV.fin HA2.out rfl rfl rfl (blk_below HBX.out HB2.out) rfl (below_then HBW.out HB2.out) (Nat.le_refl _) (fun x _ hq => by rcases hq with hq | hq; exact hq.elim; exact ⟨.inr (by omega), by omega⟩)
  · have hk3' : (x0.k != 3) = true := by simpa using hk3
    have hk3'' : (x0.k == 3) = false := by simpa using hk3
    go_enter Tryz.func160, Tryz.ntmps160
    go_wp2_with fail
    have e : R = Val.none := by rw [← HR.out, hk3'']; rfl
    rw [e]
    exact RetV.fin0 (VA.none (fun _ => False) w Option.none 0) rfl rfl rfl rfl (Below.refl _ _) (fun _ _ h => h.elim)⟩
end Go.Proofs.YtahnelihohmjfaaGreatDoor.V
namespace Go.Proofs.YtahnelihohmjfaaGreatDoor.V
open Go.RowKit
set_option linter.unusedVariables false
set_option linter.unusedSimpArgs false
/-! ### an element of a row of the call's own is written -/
theorem flat_set {l : List Val} {ps : List (Option Addr × Nat)} (h : ps.length = l.length) {m : Nat} (hm : m < l.length) (x : Val) (p : Option Addr × Nat) :
    flatV (l.set m x) (ps.set m p) = ((((flatV l ps).set (m * 4) (.int .i64 x.k)).set (m * 4 + 1) (.int .i64 x.n)).set (m * 4 + 2) (.string x.s)).set (m * 4 + 3) (.slice p.1 x.items.length p.2) := by
  induction l generalizing ps m with
  | nil => simp at hm
  | cons v l ih =>
    cases ps with
    | nil => simp at h
    | cons q ps =>
      cases m with
      | zero => simp [flatV, cellsV]
      | succ m =>
        have e := ih (ps := ps) (m := m) (by simpa using h) (by simpa using hm)
        simp only [List.set_cons_succ, flatV, e]
        rw [show (m + 1) * 4 = (m * 4 + 3) + 1 by omega, show m * 4 + 3 + 1 + 1 = (m * 4 + 4) + 1 by omega, show m * 4 + 3 + 1 + 2 = (m * 4 + 5) + 1 by omega, show m * 4 + 3 + 1 + 3 = (m * 4 + 6) + 1 by omega]
        simp only [cellsV, List.cons_append, List.nil_append, List.set_cons_succ]
theorem own_put {w : World} {base g n cap : Nat} {xs : List Value} (h : w.ownsRow base 42 4 (.slice (some ⟨g, 0, none⟩) n cap) n xs) (k : Nat) (hk : k < n * 4) (u : Value) :
    (w.setCell ⟨g, k, none⟩ u).ownsRow base 42 4 (.slice (some ⟨g, 0, none⟩) n cap) n (xs.set k u) := by
  refine ⟨by simpa using h.1, ?_⟩
  rcases h.2 with ⟨h1, _⟩ | ⟨g', cap', cur, h1, h2, h3, h4, h5, h6, h7⟩
  · cases h1
  · injection h1 with e1 e2 e3
    injection e1 with e1
    injection e1 with e1 _ _
    subst e1 e3
    refine .inr ⟨g, cap, cur.setIfInBounds k u, rfl, h2, blk_put h3 k u rfl, h4, h5, by simpa using h6, ?_⟩
    rw [Array.toList_setIfInBounds, List.take_set, h7]
theorem RowV.put {Q : Nat → Prop} {base g cap : Nat} {w : World} {l : List Val} (h : RowV Q base w (.slice (some ⟨g, 0, none⟩) l.length cap) l) {m : Nat} (hm : m < l.length) {x : Val} {A : Option Addr} {c : Nat} (hx : VA (fun b => Q b ∧ b ≠ g) w A c x) :
    RowV Q base ((((w.setCell ⟨g, m * 4, none⟩ (.int .i64 x.k)).setCell ⟨g, m * 4 + 1, none⟩ (.int .i64 x.n)).setCell ⟨g, m * 4 + 2, none⟩ (.string x.s)).setCell ⟨g, m * 4 + 3, none⟩ (.slice A x.items.length c)) (.slice (some ⟨g, 0, none⟩) l.length cap) (l.set m x) := by
  obtain ⟨ps, hps, hown, hel⟩ := h.out
  have hc := ((((Chg.refl w (fun q => q = g)).set rfl (m * 4) (.int .i64 x.k)).set rfl (m * 4 + 1) (.int .i64 x.n)).set rfl (m * 4 + 2) (.string x.s)).set rfl (m * 4 + 3) (.slice A x.items.length c)
  refine ⟨by simpa using h.m, ps.set m (A, c), by simpa using hps, ?_, fun i hi => ?_⟩
  · rw [flat_set hps hm, List.length_set]
    exact own_put (own_put (own_put (own_put hown _ (by omega) _) _ (by omega) _) _ (by omega) _) _ (by omega) _
  · have hi' : i < l.length := by simpa using hi
    by_cases him : i = m
    · subst him
      have e1 : (l.set i x).getD i Val.none = x := by simp [List.getD_eq_getElem?_getD, hi']
      have e2 : (ps.set i (A, c)).getD i (none, 0) = (A, c) := by simp [List.getD_eq_getElem?_getD, hps, hi']
      rw [e1, e2]
      exact hx.chg hc (fun b _ hq he => hq.2 he) (fun b _ hq => ⟨hq.1, fun he => by simp [Value.ownBlock] at he; exact hq.2 he⟩)
    · have e1 : (l.set m x).getD i Val.none = l.getD i Val.none := by simp [List.getD_eq_getElem?_getD, List.getElem?_set, Ne.symm him]
      have e2 : (ps.set m (A, c)).getD i (none, 0) = ps.getD i (none, 0) := by simp [List.getD_eq_getElem?_getD, List.getElem?_set, Ne.symm him]
      rw [e1, e2]
      exact (hel i hi').chg hc (fun b _ hq he => hq.2 (by simp [Value.ownBlock, he])) (fun b _ hq => hq)
/-- what the walk asks of an own row: its cells are there and may be written -/
theorem RowV.there {Q : Nat → Prop} {base g cap : Nat} {w : World} {l : List Val} (h : RowV Q base w (.slice (some ⟨g, 0, none⟩) l.length cap) l) : base ≤ g ∧ g < w.heap.size ∧ (∀ j, w.frozen? ⟨g, j, none⟩ = false) ∧ ∀ m, m < l.length → ∃ A c, w.cell? ⟨g, m * 4, none⟩ = some (.int .i64 (l.getD m Val.none).k) ∧ w.cell? ⟨g, m * 4 + 1, none⟩ = some (.int .i64 (l.getD m Val.none).n) ∧ w.cell? ⟨g, m * 4 + 2, none⟩ = some (.string (l.getD m Val.none).s) ∧ w.cell? ⟨g, m * 4 + 3, none⟩ = some (.slice A (l.getD m Val.none).items.length c) ∧ VA (fun b => Q b ∧ b ≠ g) w A c (l.getD m Val.none) := by
  obtain ⟨ps, hps, hown, hel⟩ := h.out
  rcases hown.2 with ⟨h1, _⟩ | ⟨g', cap', cur, h1, h2, h3, h4, h5, h6, h7⟩
  · cases h1
  · injection h1 with e1 e2 e3
    injection e1 with e1
    injection e1 with e1 _ _
    subst e1 e3
    refine ⟨h2, blk_lt h3, fun j => blk_frozen h3 j, fun m hm => ?_⟩
    have key : ∀ j, j < 4 → w.cell? ⟨g, m * 4 + j, none⟩ = (cellsV (l.getD m Val.none) (ps.getD m (none, 0)))[j]? := fun j hj => by
      rw [blk_cell h3, ← Array.getElem?_toList, ← flatV_at hps m j hm hj, ← h7, List.getElem?_take_of_lt (by omega)]
    exact ⟨(ps.getD m (none, 0)).1, (ps.getD m (none, 0)).2, key 0 (by omega), key 1 (by omega), key 2 (by omega), key 3 (by omega), (hel m hm).weak fun b _ hq => ⟨hq.1, fun he => hq.2 (by simp [Value.ownBlock, he])⟩⟩
end Go.Proofs.YtahnelihohmjfaaGreatDoor.V
namespace Go.Proofs.YtahnelihohmjfaaGreatDoor.V
open Go.RowKit
set_option linter.unusedVariables false
set_option linter.unusedSimpArgs false
def putV (vs : List Val) : Val := bif (vs.getD 0 Val.none).k == 3 then (bif (vs.getD 1 Val.none).k == 1 then
  (if placeV (vs.getD 1 Val.none).n (vs.getD 0 Val.none).items.length < 0 then Val.none else if placeV (vs.getD 1 Val.none).n (vs.getD 0 Val.none).items.length = (vs.getD 0 Val.none).items.length then Val.list ((vs.getD 0 Val.none).items ++ [vs.getD 2 Val.none])
  else Val.list ((vs.getD 0 Val.none).items.set (placeV (vs.getD 1 Val.none).n (vs.getD 0 Val.none).items.length).toNat (vs.getD 2 Val.none))) else Val.none) else Val.none
theorem RowV.base {Q : Nat → Prop} {base base' : Nat} {w : World} {v : Value} {l : List Val} (h : RowV Q base w v l) (hb : base' ≤ base) : RowV Q base' w v l := by
  obtain ⟨ps, h1, h2, h3⟩ := h.out
  refine ⟨h.m, ps, h1, ⟨h2.1, ?_⟩, h3⟩
  rcases h2.2 with h4 | ⟨g, cap, cur, h4, h5, r⟩
  · exact .inl h4
  · exact .inr ⟨g, cap, cur, h4, Nat.le_trans hb h5, r⟩
theorem Chg.below' {w w' : World} {S : Nat → Prop} {n : Nat} (h : Chg w w' S) (hs : ∀ q, S q → n ≤ q) (hn : n ≤ w.heap.size := by omega) : Below n w w' :=
  ⟨h.os, h.tape, h.output, h.size, fun i hi => h.block i (by omega) (fun hq => by have := hs i hq; omega)⟩
theorem kB {W w1 : World} {n : Nat} (hb : Below n W w1) : (∀ b o, b < n → w1.cell? ⟨b, o, none⟩ = W.cell? ⟨b, o, none⟩) ∧ (∀ b o, b < n → w1.frozen? ⟨b, o, none⟩ = W.frozen? ⟨b, o, none⟩) ∧ W.heap.size ≤ w1.heap.size ∧ Ad (Below n W w1) :=
  ⟨fun b o h => hb.cell (p := ⟨b, o, none⟩) h, fun b o h => hb.frozen (p := ⟨b, o, none⟩) h, hb.size, ⟨hb⟩⟩
theorem append_at {w w1 : World} {base : Nat} {v : Value} {n : Nat} {xs : List Value} (h : w.ownsRow base 42 4 v n xs) (hb : Below w.heap.size w w1) : w1.ownsRow base 42 4 v n xs := own_chg h (Chg.of_below (S := fun _ => False) hb) (fun _ _ h => h)
set_option maxHeartbeats 8000000 in
set_option maxRecDepth 100000 in
theorem doPut_ok : DoOK 169 3 putV := ⟨fun w A c vs Q hn hl hQ hv => by
  obtain ⟨ad, B0, d0, rfl, g00, g01, g02, g03, ha0⟩ := arg0 hl (by omega) (.cells #[.int .i64 0, .int .i64 0, .string ⟨#[]⟩, .slice none 0 0] 42)
  obtain ⟨B1, d1, g10, g11, g12, g13, ha1⟩ := arg_at hl 1 4 rfl (by omega) (by omega) (.cells #[.int .i64 0, .int .i64 0, .string ⟨#[]⟩, .slice none 0 0] 42)
  obtain ⟨B2, d2, g20, g21, g22, g23, ha2⟩ := arg_at hl 2 8 rfl (by omega) (by omega) (.cells #[.int .i64 0, .int .i64 0, .string ⟨#[]⟩, .slice none 0 0] 42)
  obtain ⟨R, hR⟩ : ∃ R, putV vs = R := ⟨_, rfl⟩
  rw [hR]
  unfold putV at hR
  have hm0 : vs.getD 0 Val.none ∈ vs := by rw [List.getD_eq_getElem?_getD, List.getElem?_eq_getElem (by omega)]; exact List.getElem_mem _
  have hv0 := hv _ hm0
  obtain ⟨x0, hx0⟩ : ∃ x, vs.getD 0 Val.none = x := ⟨_, rfl⟩
  rw [hx0] at hR g00 g01 g02 g03 ha0 hv0
  have HA0 := Ad.mk ha0
  have HV0 := Ad.mk hv0
  have hm1 : vs.getD 1 Val.none ∈ vs := by rw [List.getD_eq_getElem?_getD, List.getElem?_eq_getElem (by omega)]; exact List.getElem_mem _
  have hv1 := hv _ hm1
  obtain ⟨x1, hx1⟩ : ∃ x, vs.getD 1 Val.none = x := ⟨_, rfl⟩
  rw [hx1] at hR g10 g11 g12 g13 ha1 hv1
  have HA1 := Ad.mk ha1
  have HV1 := Ad.mk hv1
  have hm2 : vs.getD 2 Val.none ∈ vs := by rw [List.getD_eq_getElem?_getD, List.getElem?_eq_getElem (by omega)]; exact List.getElem_mem _
  have hv2 := hv _ hm2
  obtain ⟨x2, hx2⟩ : ∃ x, vs.getD 2 Val.none = x := ⟨_, rfl⟩
  rw [hx2] at hR g20 g21 g22 g23 ha2 hv2
  have HA2 := Ad.mk ha2
  have HV2 := Ad.mk hv2
  have HR := Ad.mk hR
  have HQ := Ad.mk hQ
  have hl0 := ha0.l.out.2.1
  have HN1 := Ad.mk ha1.n
  obtain ⟨i0, hi, hz0, hz1, hz2⟩ := info_parts info42
  have HI := Ad.mk (And.intro hi (And.intro hz0 (And.intro hz1 hz2)))
  have hl6 := (valid_f hv0).l6
  clear hi hz0 hz1 hz2
  rw [hn]
  clear hR hl hQ hv hn hm0 hv0 hx0 ha0 hm1 hv1 hx1 ha1 hm2 hv2 hx2 ha2
  by_cases hk0 : (x0.k == 3) = true
  · have hk0' : (x0.k != 3) = false := by simpa using hk0
    by_cases hk1 : (x1.k == 1) = true
    · have hk1' : (x1.k != 1) = false := by simpa using hk1
      obtain ⟨p, hp⟩ : ∃ p, placeV x1.n x0.items.length = p := ⟨_, rfl⟩
      have Hp := Ad.mk hp
      have hp1 := (place_lt (i := x1.n) (n := x0.items.length) HN1.out).1
      have hp2 := (place_lt (i := x1.n) (n := x0.items.length) HN1.out).2
      rw [hp] at hp1 hp2
      clear hp
      go_enter Tryz.func169, Tryz.ntmps169
      go_upto_region 5 with (first
        | (go_at_call 180; refine (clone_calls Q B0 d0 x0.items _ (by exact HA0.out.l.below (below_alloc (Below.refl _ _) _)) (by intro b hb; have := HQ.out b hb; simp; omega) (by omega)).mono ?_; rintro e1 w1 ⟨v, rfl, hrow, hb1⟩; obtain ⟨A1, c1, rfl, hvl⟩ := hrow.form; have HROW := Ad.mk (hrow.base (base' := w.heap.size + 1) (by simp)); obtain ⟨k1, z1, y1, HB1⟩ := kcell (w.heap.size + 1) hb1 (by simp); clear hb1 hrow hvl; have f0 := cell_below HB1.out g00; have f1 := cell_below HB1.out g01; have f2 := cell_below HB1.out g02; have f3 := cell_below HB1.out g03; have u0 := cell_below HB1.out g10; have u1 := cell_below HB1.out g11)
        | (go_at_call 186; refine (place_calls x1.n x0.items.length _ HN1.out (by omega)).mono ?_; rw [Hp.out]; rintro e2 w2 ⟨rfl, hb2⟩; obtain ⟨k2, z2, y2, HB2⟩ := kcell (w.heap.size + 1) hb2 y1; clear hb2))
      have hz0 := below_then HB1.out HB2.out
      have HZ0 := Ad.mk hz0
      have h0 := cell_below hz0 g20
      have h1 := cell_below hz0 g21
      have h2 := cell_below hz0 g22
      have h3 := cell_below hz0 g23
      have HROW2 := Ad.mk (HROW.out.below HB2.out)
      clear hz0
      by_cases hneg : p < 0
      · have HNEG := Ad.mk hneg
        go_wp2_with fail
        have e : R = Val.none := by rw [← HR.out, hk0, hk1]; simp only [cond_true, Hp.out]; rw [if_pos HNEG.out]
        rw [e]
        exact RetV.fin (VA.none (fun _ => False) _ Option.none 0) rfl rfl rfl (blk_below (blk_new2 rfl) HZ0.out) rfl (below_then (below_alloc (Below.refl _ _) _) HZ0.out) (Nat.le_refl _) (fun _ _ h => h.elim)
      · obtain ⟨m, rfl⟩ : ∃ m : Nat, p = m := ⟨p.toNat, by omega⟩
        have HNEG := Ad.mk hneg
        have hm : m ≤ x0.items.length := by omega
        obtain ⟨ps, hps, hown, hel⟩ := HROW2.out.out
        have HP := Ad.mk hps
        have HO := Ad.mk hown
        have HEL := Ad.mk hel
        clear hps hown hel hneg
        by_cases hml : m = x0.items.length
        · have hmb : ((m : Int) == (x0.items.length : Int)) = true := by simp [hml]
          have HML := Ad.mk hml
          clear hml
          go_wp2_with (first
            | (at_builtin; go_must (refine wpList_append_lies _ rfl _ _ 40 (by rfl) (w.heap.size + 1) 42 i0 _ 4 56 Tryz.underlying40 HI.out.1 HI.out.2.1 HI.out.2.2.1 HI.out.2.2.2 rfl (by omega) (.slice A1 x0.items.length c1) x0.items.length (flatV x0.items ps) (by rfl) (append_at HO.out (below_alloc (Below.refl _ _) _)) ⟨w2.heap.size, 0, none⟩ 1 1 (cellsV x2 (B2, d2)) (by rfl) rfl (World.news_of_block (blk_new _ _)) (by simp [cellsV, Value.oneCell']) (by omega) (by unfold maxLen; omega) (by omega) (by simp; omega) _ rfl ?_); intro g cp w3 hown2 hgrow hat hlt2; have hgw : Below (w.heap.size + 1) w2 w3 := Below.grown ((below_alloc (Below.refl _ _) _).mono (by omega)) hgrow (by simp; omega) (fun k hk => (own_lt HO.out k hk).1); obtain ⟨k3, z3, y3, HB3⟩ := kB hgw; have HO2 := Ad.mk hown2; have HG2 := Ad.mk hgrow; have HAT := Ad.mk hat; clear hown2 hgrow hat hgw)
            | (go_at_call 183; have hsn := RowV.snoc (Q := Q) HP.out (fun i hi => (HEL.out i hi).below (below_alloc (Below.refl _ _) _)) (((HA2.out.below (below_alloc (Below.refl _ _) _)).below HZ0.out).below (below_alloc (Below.refl _ _) _)) (fun b _ hq => ⟨hq, fun he => by have := own_lt HO.out b he.symm; have := HQ.out b hq; omega⟩) HO2.out HG2.out HAT.out (by omega); obtain ⟨A4, c4, e4, hvl⟩ := hsn.form; have e5 := e4; injection e5 with e6 e7 e8; subst e6 e8; refine (ofListN _ _ _ _ (x0.items ++ [x2]) _ hvl (by simp)).mono ?_; rintro e9 w4 ⟨A5, c5, rfl, ha5, hb5⟩; obtain ⟨k5, z5, y5, HB5⟩ := kcell (w.heap.size + 1) hb5 (by omega); have HA5 := Ad.mk ha5; clear ha5 hb5 hsn e4 hvl e7))
          have hbk := ((HB5.out.block w.heap.size (by have := HB3.out.size; omega)).trans (HB3.out.block w.heap.size (by omega))).trans (blk_below (blk_new2 rfl) HZ0.out)
          have hbz := ((below_then (below_alloc (Below.refl _ _) (.cells #[.int .i64 0, .int .i64 0, .string ⟨#[]⟩, .slice none 0 0] 42)) HZ0.out).trans (HB3.out.mono (by omega))).trans (HB5.out.mono (by omega))
          have e : R = Val.list (x0.items ++ [x2]) := by rw [← HR.out, hk0, hk1]; simp only [cond_true, Hp.out]; rw [if_neg (by have := HNEG.out; omega), if_pos (by have := HML.out; omega)]
          rw [e]
          exact RetV.fin HA5.out rfl rfl rfl hbk rfl hbz (Nat.le_refl _) (fun x _ hq => by rcases hq with (hq | hq) | hq; exact ⟨.inl hq, by have := HQ.out x hq; omega⟩; exact ⟨.inr (by omega), by omega⟩; exact ⟨.inr (by omega), by omega⟩)
        · have hmb : ((m : Int) == (x0.items.length : Int)) = false := by simp; omega
          have HML := Ad.mk hml
          have hml' : m < x0.items.length := by omega
          have j1 : (m : Int) < (x0.items.length : Int) := by omega
          have j2 : (0 : Int) ≤ (m : Int) := by omega
          clear hml
          obtain ⟨g, hA1⟩ : ∃ g, A1 = some ⟨g, 0, none⟩ := by
            rcases HO.out.2 with ⟨h1, h2⟩ | ⟨g, cap, cur, h1, h2, h3, h4, h5, h6, h7⟩
            · omega
            · injection h1 with h8 h9 h10
              exact ⟨g, h8⟩
          subst hA1
          obtain ⟨r1, r2, r3, r4⟩ := HROW2.out.there
          obtain ⟨A6, c6, s0, s1, s2, s3, _⟩ := r4 m hml'
          have hgne : ¬ g = w.heap.size := by omega
          have hgne' : ¬ w.heap.size = g := by omega
          have hp := RowV.put HROW2.out hml' (x := x2) (A := B2) (c := d2) (((HA2.out.below (below_alloc (Below.refl _ _) _)).below HZ0.out).weak fun b _ hq => ⟨hq, by have := HQ.out b hq; omega⟩)
          have hcg : Chg w2 _ (fun q => q = g) := ((((Chg.refl w2 (fun q => q = g)).set rfl (m * 4) (.int .i64 x2.k)).set rfl (m * 4 + 1) (.int .i64 x2.n)).set rfl (m * 4 + 2) (.string x2.s)).set rfl (m * 4 + 3) (.slice B2 x2.items.length d2)
          have HPUT := Ad.mk (And.intro hp hcg)
          have hsz5 := hcg.size
          clear r4 hp hcg
          go_wp2_with (go_at_call 183; obtain ⟨hp, hcg⟩ := HPUT.out; obtain ⟨A4, c4, e4, hvl⟩ := hp.form; have e5 := e4; injection e5 with e6 e7 e8; subst e6 e8; refine (ofListN _ _ _ _ (x0.items.set m x2) _ hvl (by simp)).mono ?_; rintro e9 w4 ⟨A5, c5, rfl, ha5, hb5⟩; obtain ⟨k5, z5, y5, HB5⟩ := kcell (w.heap.size + 1) hb5 (by omega); have HA5 := Ad.mk ha5; clear ha5 hb5 hp hcg e4 hvl e7)
          have hbk := ((HB5.out.block w.heap.size (by omega)).trans (HPUT.out.2.block w.heap.size (by omega) hgne')).trans (blk_below (blk_new2 rfl) HZ0.out)
          have hbz := ((below_then (below_alloc (Below.refl _ _) (.cells #[.int .i64 0, .int .i64 0, .string ⟨#[]⟩, .slice none 0 0] 42)) HZ0.out).trans ((HPUT.out.2.below' (n := w.heap.size) (fun q hq => by omega)))).trans (HB5.out.mono (by omega))
          have e : R = Val.list (x0.items.set m x2) := by rw [← HR.out, hk0, hk1]; simp only [cond_true, Hp.out]; rw [if_neg (by have := HNEG.out; omega), if_neg (by have := HML.out; omega)]; rfl
          rw [e]
          exact RetV.fin HA5.out rfl rfl rfl hbk rfl hbz (Nat.le_refl _) (fun x _ hq => by rcases hq with (hq | hq) | hq; exact ⟨.inl hq, by have := HQ.out x hq; omega⟩; exact ⟨.inr (by omega), by omega⟩; exact ⟨.inr (by omega), by omega⟩)
    · have hk1' : (x1.k != 1) = true := by simpa using hk1
      have hk1'' : (x1.k == 1) = false := by simpa using hk1
      go_enter Tryz.func169, Tryz.ntmps169
      go_wp2_with fail
      have e : R = Val.none := by rw [← HR.out, hk0, hk1'']; rfl
      rw [e]
      exact RetV.fin0 (VA.none (fun _ => False) w Option.none 0) rfl rfl rfl rfl (Below.refl _ _) (fun _ _ h => h.elim)
  · have hk0' : (x0.k != 3) = true := by simpa using hk0
    have hk0'' : (x0.k == 3) = false := by simpa using hk0
    go_enter Tryz.func169, Tryz.ntmps169
    go_wp2_with fail
    have e : R = Val.none := by rw [← HR.out, hk0'']; rfl
    rw [e]
    exact RetV.fin0 (VA.none (fun _ => False) w Option.none 0) rfl rfl rfl rfl (Below.refl _ _) (fun _ _ h => h.elim)⟩
end Go.Proofs.YtahnelihohmjfaaGreatDoor.V
namespace Go.Proofs.YtahnelihohmjfaaGreatDoor.V
open Go.RowKit
set_option linter.unusedVariables false
set_option linter.unusedSimpArgs false
set_option maxHeartbeats 8000000 in
set_option maxRecDepth 100000 in
theorem has1_calls (b : Nat) (A A' : Option Addr) (c c' : Nat) (v : Val) (vs : List Val) (Q Q' : Nat → Prop) (w : World) (hb : w.heap[b]? = some (.cells #[.slice A' vs.length c'] 40 (0, 0))) (hn : vs.length = 2) (ha : VA Q w A c v) (hl : VL Q' w A' c' vs) :
    Calls Tryz.prog 190 #[.agg #[.int .i64 v.k, .int .i64 v.n, .string v.s, .slice A v.items.length c], .pointer (some ⟨b, 0, none⟩)] w (Ret w (.bool (decide (cmpV v (vs.getD 1 Val.none) = 0)))) := by
  obtain ⟨ad, _, _, rfl, _⟩ := hl.at 0 (by omega)
  obtain ⟨B1, d1, g10, g11, g12, g13, ha1⟩ := arg_at hl 1 4 rfl (by omega) (by omega) (.cells #[.int .i64 v.k, .int .i64 v.n, .string v.s, .slice A v.items.length c] 42)
  have c0 := cell_below (below_alloc (Below.refl _ w) (.cells #[.int .i64 v.k, .int .i64 v.n, .string v.s, .slice A v.items.length c] 42)) (a := ⟨b, 0, none⟩) (v := .slice (some ad) vs.length c') (by simpa using blk_cell hb 0)
  have hbl := blk_lt hb
  have n0 := blk_cell (blk_new w (.cells #[.int .i64 v.k, .int .i64 v.n, .string v.s, .slice A v.items.length c] 42)) 0
  have n1 := blk_cell (blk_new w (.cells #[.int .i64 v.k, .int .i64 v.n, .string v.s, .slice A v.items.length c] 42)) 1
  have n2 := blk_cell (blk_new w (.cells #[.int .i64 v.k, .int .i64 v.n, .string v.s, .slice A v.items.length c] 42)) 2
  have n3 := blk_cell (blk_new w (.cells #[.int .i64 v.k, .int .i64 v.n, .string v.s, .slice A v.items.length c] 42)) 3
  have HA := Ad.mk ha
  have HA1 := Ad.mk ha1
  clear ha ha1 hb hl
  rw [hn] at c0
  clear hn
  generalize vs.getD 1 Val.none = u at *
  obtain ⟨R, hR⟩ : ∃ R, cmpV v u = R := ⟨_, rfl⟩
  rw [hR]
  have HR := Ad.mk hR
  clear hR
  go_enter Tryz.func190, Tryz.ntmps190
  go_wp2_with fail
  go_region_held3 (fun w' => w'.cell? ⟨w.heap.size, 0, none⟩ = some (.int .i64 v.k) ∧ w'.cell? ⟨w.heap.size, 1, none⟩ = some (.int .i64 v.n) ∧ w'.cell? ⟨w.heap.size, 2, none⟩ = some (.string v.s) ∧ w'.cell? ⟨w.heap.size, 3, none⟩ = some (.slice A v.items.length c) ∧ w'.cell? ⟨b, 0, none⟩ = some (.slice (some ad) 2 c') ∧ w'.cell? ⟨ad.block, ad.off + 4, none⟩ = some (.int .i64 u.k) ∧ w'.cell? ⟨ad.block, ad.off + 4 + 1, none⟩ = some (.int .i64 u.n) ∧ w'.cell? ⟨ad.block, ad.off + 4 + 2, none⟩ = some (.string u.s) ∧ w'.cell? ⟨ad.block, ad.off + 4 + 3, none⟩ = some (.slice B1 u.items.length d1)) (first | go_keep | ((repeat' refine And.intro ?_ ?_) <;> exact cell_below hb1 (by assumption)))
    ((go_at_call 182; refine (compare_calls Q Q' A B1 c d1 v u _ (by exact (HA.out.below (below_alloc (Below.refl _ _) _)).below (Below.refl _ _).drew) (by exact (HA1.out.below (below_alloc (Below.refl _ _) _)).below (Below.refl _ _).drew)).mono ?_; rintro e1 w1 ⟨rfl, hb1⟩; rw [HR.out]))
  have HB1 := below_then (below_alloc (Below.refl _ _) _) (below_then (Below.refl _ _).drew hb1)
  clear hb1
  go_wp2_with fail
  go_ret
  exact ⟨rfl, HB1⟩
/-- the function value f, in every later world, says whether p holds of the value -/
structure FnB (w : World) (f : Value) (p : Val → Bool) : Prop where
  calls : ∃ k cap, f = .func (.func k) #[] cap ∧ (∀ args w, (callFunc k args).run Tryz.prog w = .ok (.enter k args) w) ∧ ∀ (w' : World) (Q : Nat → Prop) (A : Option Addr) (c : Nat) (v : Val), Below w.heap.size w w' → VA Q w' A c v → Calls Tryz.prog k (#[.agg #[.int .i64 v.k, .int .i64 v.n, .string v.s, .slice A v.items.length c]] ++ cap) w' (Ret w' (.bool (p v)))
theorem FnB.below {w w' : World} {f : Value} {p : Val → Bool} (h : FnB w f p) (hb : Below w.heap.size w w') : FnB w' f p := by
  obtain ⟨k, cap, rfl, h1, h2⟩ := h.calls
  exact ⟨⟨k, cap, rfl, h1, fun w2 Q A c v hb2 => h2 w2 Q A c v (below_then hb hb2)⟩⟩
def IdxLoop (w : World) (l : List Val) (p : Val → Bool) (R : Bool) (v5 v8 : Value) (wr : World) : Prop :=
  ∃ i : Nat, i ≤ l.length ∧ v8 = .int .i64 i ∧ Below w.heap.size w wr ∧ Ad ((l.drop i).any p = R)
def RetIdx (w : World) (R : Bool) (e : Ending) (w' : World) : Prop := ∃ z : Int, e = .returned (.int .i64 z) ∧ decide (0 ≤ z) = R ∧ Below w.heap.size w w'
set_option maxHeartbeats 8000000 in
set_option maxRecDepth 100000 in
theorem indexFunc_calls (f : Value) (p : Val → Bool) (Q : Nat → Prop) (A : Option Addr) (c : Nat) (l : List Val) (w : World) (hl : VL Q w A c l) (hf : FnB w f p) (hm : l.length ≤ 1000) :
    Calls Tryz.prog 198 #[.slice A l.length c, f] w (RetIdx w (l.any p)) := by
  obtain ⟨k, cap, rfl, hk, hcall⟩ := hf.calls
  obtain ⟨R, hR⟩ : ∃ R, l.any p = R := ⟨_, rfl⟩
  rw [hR]
  have HR := Ad.mk hR
  have HL := Ad.mk hl
  have HC := Ad.mk hcall
  clear hR hl hf hcall
  go_enter Tryz.func198, Tryz.ntmps198
  go_wp2_with fail
  go_loopw [5, 8] (fun v5 v8 wr => IdxLoop w l p R v5 v8 wr) (fun _ v8 _ => l.length - (intOf v8).toNat)
  case atStart => exact ⟨0, Nat.zero_le _, rfl, Below.refl _ _, ⟨HR.out⟩⟩
  case round =>
    obtain ⟨i, hi, rfl, hbw, HE⟩ := hrel
    have HBW := Ad.mk hbw
    clear hbw
    by_cases hlt : i < l.length
    · obtain ⟨ae, Be, de, rfl, f0, f1, f2, f3, hae⟩ := (HL.out.below HBW.out).at i hlt
      have HNX := HE.out
      rw [dropAt hlt, List.any_cons] at HNX
      obtain ⟨q, hq⟩ : ∃ q, l.getD i Val.none = q := ⟨_, rfl⟩
      rw [hq] at HNX f0 f1 f2 f3 hae
      have HA := Ad.mk hae
      have HN := Ad.mk HNX
      obtain ⟨r, hr⟩ : ∃ r, p q = r := ⟨_, rfl⟩
      have Hr := Ad.mk hr
      clear hae HNX hq hr
      cases r
      all_goals
        go_wp2_with (first
          | ((with_reducible refine (HC.out _ Q _ _ q HBW.out HA.out).mono ?_); rintro e1 w1 ⟨rfl, hb1⟩; rw [Hr.out]; have HB1 := Ad.mk hb1; clear hb1))
      · go_roundw
        case rel => exact ⟨i + 1, by omega, by go_num, below_then HBW.out HB1.out, ⟨by have := HN.out; rw [Hr.out] at this; simpa using this⟩⟩
        case measure => simp [intOf]; omega
      · go_ret
        exact ⟨i, rfl, by have := HN.out; rw [Hr.out] at this; simp at this ⊢; exact this, below_then HBW.out HB1.out⟩
    · go_wp2_with fail
      go_ret
      exact ⟨-1, rfl, by have := HE.out; rw [List.drop_of_length_le (by omega)] at this; simpa using this, HBW.out⟩
set_option maxHeartbeats 8000000 in
set_option maxRecDepth 100000 in
theorem containsFunc_calls (f : Value) (p : Val → Bool) (Q : Nat → Prop) (A : Option Addr) (c : Nat) (l : List Val) (w : World) (hl : VL Q w A c l) (hf : FnB w f p) (hm : l.length ≤ 1000) :
    Calls Tryz.prog 189 #[.slice A l.length c, f] w (Ret w (.bool (l.any p))) := by
  go_enter Tryz.func189, Tryz.ntmps189
  go_wp2_with ((refine (indexFunc_calls f p Q A c l _ hl hf hm).mono ?_); rintro e1 w1 ⟨z, rfl, hz, hb1⟩; have HB1 := Ad.mk hb1; have HZ := Ad.mk hz; clear hb1 hz)
  go_ret
  exact ⟨by rw [← HZ.out]; rfl, HB1.out⟩
end Go.Proofs.YtahnelihohmjfaaGreatDoor.V
