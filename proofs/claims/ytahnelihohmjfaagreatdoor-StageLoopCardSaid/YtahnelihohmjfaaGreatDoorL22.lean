/- A part of the walk (V83, V84, V85, V86, V87, V88, V89, V90, V91, V92). -/
import Derived.Test.YtahnelihohmjfaaGreatDoorL14
import Derived.Test.YtahnelihohmjfaaGreatDoorL18
import Derived.Test.YtahnelihohmjfaaGreatDoorL21
namespace Go.Proofs.YtahnelihohmjfaaGreatDoor.V
open Go.RowKit
set_option linter.unusedVariables false
set_option linter.unusedSimpArgs false
/-- an expression made ready -/
def CodeOK (w : World) (c : Value) (F : EnvV → Val) : Prop := ∃ b t f, c = .pointer (some ⟨b, 0, none⟩) ∧ w.heap[b]? = some (.cells #[.string t, f] 151 (0, 0)) ∧ Ev w f F
theorem CodeOK.below {w w' : World} {c : Value} {F : EnvV → Val} (h : CodeOK w c F) (hb : Below w.heap.size w w') : CodeOK w' c F := let ⟨b, t, f, h1, h2, h3⟩ := h; ⟨b, t, f, h1, blk_below h2 hb, h3.below hb⟩
def CompR (X : Nat → Prop) (s : ByteArray) (w : World) (e : Ending) (w' : World) : Prop := Below w.heap.size w w' ∧ ((∃ x, e = .returned (.tuple #[.pointer none, .iface 173 (.pointer (some ⟨x, 0, none⟩))]) ∧ s ≠ ⟨#[48]⟩) ∨ ∃ b F, e = .returned (.tuple #[.pointer (some ⟨b, 0, none⟩), .nilIface]) ∧ ∀ w2, Chg w' w2 X → CodeOK w2 (.pointer (some ⟨b, 0, none⟩)) F)
set_option maxHeartbeats 8000000 in
set_option maxRecDepth 100000 in
theorem compile_calls (X : Nat → Prop) (N0 : Nat) (s : ByteArray) (w : World) (hX : ∀ b, X b → N0 ≤ b ∧ b < w.heap.size) (hG : GVb w N0) : Calls Tryz.prog 39 #[.string s] w (CompR X s w) := by
  have HX := Ad.mk hX
  have HG := Ad.mk hG
  have HGV := Ad.mk hG.gv
  clear hX hG
  go_enter Tryz.func39, Tryz.ntmps39
  go_wp2_with (go_at_call 64; refine (xparse_calls allF s _ HGV.out).mono ?_; rintro e1 w1 ⟨v, u, rfl, hb1, (⟨rfl, n, hn1, hn101, hnd⟩ | ⟨rfl, hs48, x, rfl⟩)⟩ <;> (try (have HB1 := Ad.mk hb1; clear hb1)) <;> (try (obtain ⟨T, bq, rfl⟩ := hnd.form; have HND := Ad.mk hnd; clear hnd)))
  · obtain ⟨T', q', kr, hq', hm, hk, hcall⟩ := ready_all HND.out
    injection hq' with e1 e2
    subst e1 e2
    have HCALL := Ad.mk hcall
    have HN : Ad (9300 * n ≤ 939300) := ⟨by omega⟩
    clear hcall hn1 hn101
    go_wp2_with (first
      | (go_at_call 66; refine (levels_calls _).mono ?_; rintro e2 w2 ⟨rfl, hlv, hb2⟩; have HB2 := Ad.mk (below_then HB1.out hb2); have D2 := Ad.mk hb2; have hml := Nat.lt_of_lt_of_le (Nat.lt_succ_self _) (show w1.heap.size + 1 ≤ w2.heap.size from by obtain ⟨es, cl, h1, _⟩ := hlv; exact blk_lt h1); have WNN : Ad (WN w2.heap.size w2 w1.heap.size) := ⟨⟨hlv, hml, Nat.le_refl _, by obtain ⟨w0, h0, h1⟩ := HGV.out; exact ⟨w0, h0, below_then h1 HB2.out, (below_then h1 HB2.out).size⟩⟩⟩; have HND2 := Ad.mk (HND.out.chg (Q' := fun b => b < w2.heap.size) (Chg.of_below (S := fun _ => False) hb2) (fun _ _ _ h => h) (fun b hb _ => Nat.lt_of_lt_of_le hb hb2.size)); have HWR := Ad.mk (write_node WNN.out HND2.out w2 (.slice none 0 0) 0 0 (Below.refl _ _) (SRow.nil _ _) (by have := HN.out; omega)); clear hlv hb2 hml)
      | (go_at_call 67; refine HWR.out.mono ?_; rintro e3 w3 ⟨l3, rfl, hs3, hg3⟩; have hb3 := hg3.B (SRow.nil w2.heap.size w2) (Nat.le_refl _); obtain ⟨A3, c3, xs3, rfl, hst3⟩ := hs3.form; have HST := Ad.mk hst3; have HB3 := Ad.mk (below_then HB2.out hb3); have D3 := Ad.mk (below_then D2.out hb3); clear hs3 hg3 hb3 hst3)
      | (go_at_call 65; refine (joined_calls A3 c3 _ xs3 _ HST.out (by have := HN.out; omega)).mono ?_; rintro e4 w4 ⟨t4, rfl, ht4, hb4⟩; have HB4 := Ad.mk (below_then HB3.out hb4); have D4 := Ad.mk (below_then D3.out hb4); clear hb4 ht4)
      | fail)
    refine (HCALL.out X N0 w4 (Chg.of_below D4.out) (fun b hb => ⟨fun h => by have := (HX.out b hb).2; omega, (HX.out b hb).1, by have := (HX.out b hb).2; have := HB4.out.size; omega⟩) (by obtain ⟨w0, h0, h1, h2⟩ := HG.out; exact ⟨w0, h0, below_then h1 HB4.out, h2⟩)).mono ?_
    rintro e5 w5 ⟨f, F, rfl, hev, hb5⟩
    have HB5 := Ad.mk (below_then HB4.out hb5)
    have HEV := Ad.mk hev
    obtain ⟨kf, cf, rfl, _⟩ := (hev w5 (Chg.refl _ _)).calls
    clear hb5 hev
    go_wp2_with fail
    go_ret2
    have hba := below_alloc (Below.refl _ w5) (.cells #[.string t4, .func (.func kf) #[] cf] 151)
    have hxs : ∀ b, X b → b < w5.heap.size := fun b hb => by have := (HX.out b hb).2; have := HB5.out.size; omega
    exact ⟨below_then HB5.out hba, .inr ⟨_, F, rfl, fun w2 hc2 => ⟨_, t4, _, rfl, chg_new hc2 hxs, HEV.out w2 (chg_cut hc2)⟩⟩⟩
  · go_ret2
    exact ⟨HB1.out, .inl ⟨x, rfl, hs48⟩⟩
end Go.Proofs.YtahnelihohmjfaaGreatDoor.V
namespace Go.Proofs.YtahnelihohmjfaaGreatDoor.V
open Go.RowKit
set_option linter.unusedVariables false
set_option linter.unusedSimpArgs false
/-! ### a value in new memory -/
theorem sizeOf_item {v x : Val} (h : x ∈ v.items) : SizeOf.sizeOf x < SizeOf.sizeOf v := by
  cases v with
  | mk k n s items =>
    have h1 := List.sizeOf_lt_of_mem (show x ∈ items from h)
    simp
    omega
theorem flat_none (n : Nat) (h : n ≤ 6) : flatV (List.replicate n Val.none) (List.replicate n (none, 0)) = (madeCells (Value.agg #[.int .i64 0, .int .i64 0, .string ⟨#[]⟩, .slice none 0 0]).cells (n * 4)).toList := by
  have hn : n = 0 ∨ n = 1 ∨ n = 2 ∨ n = 3 ∨ n = 4 ∨ n = 5 ∨ n = 6 := by omega
  rcases hn with rfl | rfl | rfl | rfl | rfl | rfl | rfl
  all_goals clear h
  all_goals (refine Eq.trans (b := _) ?_ rfl; kernel_rfl)
theorem row_made {w : World} {base g n : Nat} (h : w.ownsRow base 42 4 (.slice (some ⟨g, 0, none⟩) n n) n (madeCells (Value.agg #[.int .i64 0, .int .i64 0, .string ⟨#[]⟩, .slice none 0 0]).cells (n * 4)).toList) (hn : n ≤ 6) (Q : Nat → Prop) : RowV Q base w (.slice (some ⟨g, 0, none⟩) n n) (List.replicate n Val.none) := by
  refine ⟨by simp; omega, List.replicate n (none, 0), by simp, ?_, fun i hi => ?_⟩
  · rw [flat_none n hn, List.length_replicate]
    exact h
  · have hi' : i < n := by simpa using hi
    have e1 : (List.replicate n Val.none).getD i Val.none = Val.none := by simp [List.getD_eq_getElem?_getD, hi']
    rw [e1]
    exact VA.none _ _ _ _
theorem cp_set (l : List Val) (i : Nat) (h : i < l.length) (x : Val) (hx : l.getD i Val.none = x) : (l.take i ++ List.replicate (l.length - i) Val.none).set i x = l.take (i + 1) ++ List.replicate (l.length - (i + 1)) Val.none := by
  have e1 : List.replicate (l.length - i) Val.none = Val.none :: List.replicate (l.length - (i + 1)) Val.none := by
    rw [show l.length - i = (l.length - (i + 1)) + 1 by omega, List.replicate_succ]
  have e2 : (l.take i).length = i := by simp; omega
  rw [e1, List.set_append_right _ _ (by omega), e2, Nat.sub_self, List.set_cons_zero, List.take_succ_eq_append_getElem h, List.append_assoc]
  congr 1
  rw [← hx, List.getD_eq_getElem?_getD, List.getElem?_eq_getElem h]
  rfl
/-- i elements are copied -/
structure CpL (w : World) (v : Val) (A : Option Addr) (c i : Nat) (wr : World) : Prop where
  row : RowV (fun b => w.heap.size + 1 + 1 ≤ b) (w.heap.size + 1 + 1) wr (.slice (some ⟨w.heap.size + 1 + 1, 0, none⟩) v.items.length v.items.length) (v.items.take i ++ List.replicate (v.items.length - i) Val.none)
  b0 : wr.heap[w.heap.size]? = some (.cells #[.int .i64 v.k, .int .i64 v.n, .string v.s, .slice A v.items.length c] 42 (0, 0))
  b1 : wr.heap[w.heap.size + 1]? = some (.cells #[.int .i64 0, .int .i64 0, .string ⟨#[]⟩, .slice none 0 0] 42 (0, 0))
  bw : Below w.heap.size w wr
set_option maxHeartbeats 8000000 in
set_option maxRecDepth 100000 in
theorem copied_step (v : Val) (ih : ∀ x ∈ v.items, ∀ (Q : Nat → Prop) (A : Option Addr) (c : Nat) (w : World), VA Q w A c x → (∀ b, Q b → b < w.heap.size) → checkP x = 0 → Calls Tryz.prog 253 #[.agg #[.int .i64 x.k, .int .i64 x.n, .string x.s, .slice A x.items.length c]] w (RetV (fun _ => False) w x))
    (Q : Nat → Prop) (A : Option Addr) (c : Nat) (w : World) (hv : VA Q w A c v) (hQ : ∀ b, Q b → b < w.heap.size) (hok : checkP v = 0) : Calls Tryz.prog 253 #[.agg #[.int .i64 v.k, .int .i64 v.n, .string v.s, .slice A v.items.length c]] w (RetV (fun _ => False) w v) := by
  have hl6 := (valid_f hok).l6
  have HIH := Ad.mk ih
  have HV := Ad.mk hv
  have HQ := Ad.mk hQ
  have HOK := Ad.mk (valid_items hok)
  cases A with
  | none =>
    have h0 : v.items = [] := by
      obtain ⟨_, _, css, h3, _⟩ := hv.l.out
      by_cases hp : 0 < v.items.length
      · obtain ⟨ad, h, _⟩ := h3 hp; cases h
      · exact List.eq_nil_of_length_eq_zero (by omega)
    have H0 := Ad.mk h0
    clear hv hQ hok ih h0
    go_enter Tryz.func253, Tryz.ntmps253
    go_wp2_with fail
    exact RetV.fin0 (Q1 := fun _ => False) ⟨by rw [H0.out]; exact VL.nil _ _ _ _, HV.out.n, HV.out.s⟩ rfl rfl rfl (by simp) (below_alloc (Below.refl _ _) _) (fun _ _ h => h.elim)
  | some ad =>
    obtain ⟨i0, hi, hz0, hz1, hz2⟩ := info_parts info42
    have HI := Ad.mk (And.intro hi (And.intro hz0 (And.intro hz1 hz2)))
    clear hv hQ hok ih hi hz0 hz1 hz2
    go_enter Tryz.func253, Tryz.ntmps253
    go_wp2_with (at_make; go_must (refine wpList_make_full _ rfl _ _ 40 rfl (w.heap.size + 1 + 1) 42 i0 _ 4 Tryz.underlying40 HI.out.1 HI.out.2.1 HI.out.2.2.1 _ _ _ _ v.items.length rfl rfl rfl rfl (by rw [HI.out.2.2.2]; omega) (by unfold maxLen; omega) (by simp) ?_); intro w1 hown1 hgr1; have HOWN1 := Ad.mk hown1; have hx1 := (hgr1.block w.heap.size (by simp; omega) (by simp)).trans (blk_alloc (blk_new w _) _); have hz1 := (hgr1.block (w.heap.size + 1) (by simp) (by simp)).trans (blk_new2 (by simp)); have d3 : w1.cell? ⟨w.heap.size, 3, none⟩ = some (.slice (some ad) v.items.length c) := blk_cell hx1 3; have dl := blk_lt hx1; have X1 := Ad.mk hx1; have Z1 := Ad.mk hz1; have B1 : Ad (Below w.heap.size w w1) := ⟨⟨hgr1.os, hgr1.tape, hgr1.output, by have := hgr1.size; simp at this; omega, fun i hi => (hgr1.block i (by simp; omega) (by simp)).trans ((below_alloc (below_alloc (Below.refl _ w) _) _).block i hi)⟩⟩; clear hown1 hgr1 hx1 hz1)
    go_loopw [16] (fun v16 wr => ∃ i : Nat, i ≤ v.items.length ∧ v16 = .int .i64 i ∧ Ad (CpL w v (some ad) c i wr)) (fun v16 _ => v.items.length - (intOf v16).toNat)
    case atStart => exact ⟨0, Nat.zero_le _, rfl, ⟨by simpa using row_made HOWN1.out hl6 _, X1.out, Z1.out, B1.out⟩⟩
    case round =>
      obtain ⟨i, hi, rfl, ⟨hcp⟩⟩ := hrel
      have HCP := Ad.mk hcp
      by_cases hlt : i < v.items.length
      · obtain ⟨ae, Be, de, hA, f0, f1, f2, f3, hae⟩ := (HV.out.below hcp.bw).l.at i hlt
        injection hA with hA
        subst hA
        obtain ⟨x, hx⟩ : ∃ x, v.items.getD i Val.none = x := ⟨_, rfl⟩
        have hxm : x ∈ v.items := by rw [← hx, List.getD_eq_getElem?_getD, List.getElem?_eq_getElem hlt]; exact List.getElem_mem _
        rw [hx] at f0 f1 f2 f3 hae
        have HAE := Ad.mk hae
        have HXM := Ad.mk hxm
        have hll : (v.items.take i ++ List.replicate (v.items.length - i) Val.none).length = v.items.length := by simp; omega
        obtain ⟨l, hl⟩ : ∃ l, v.items.take i ++ List.replicate (v.items.length - i) Val.none = l := ⟨_, rfl⟩
        have hrow := hcp.row
        rw [hl] at hll hrow
        have HROW := Ad.mk hrow
        have HL := Ad.mk hl
        have HLL := Ad.mk hll
        have j0 : (0 : Int) ≤ (i : Int) := by omega
        have j1 : (i : Int) < (v.items.length : Int) := by omega
        have hws := hcp.bw.size
        clear hae hxm hrow hl hcp hll
        have HXX := Ad.mk hx
        clear hx
        go_wp2_with (go_at_call 253; refine (HIH.out x HXM.out (fun b => b < wr.heap.size) Be de _ (VA.below (below_alloc (Below.refl _ _) _) (HAE.out.weak (fun b hb _ => hb))) (fun b hb => by simp; omega) (HOK.out x HXM.out)).mono ?_; rintro e3 w3 ⟨A3, c3, rfl, ha3, hb3⟩; have HA3 := Ad.mk ha3; have HB3 := Ad.mk (below_then (below_alloc (Below.refl _ wr) _) hb3); have hr3 := HROW.out.below HB3.out; rw [← HLL.out] at hr3; obtain ⟨r1, r2, r3, r4⟩ := hr3.there; obtain ⟨A5, c5, s0, s1, s2, s3, _⟩ := r4 i (by have := HLL.out; omega); have HR3 := Ad.mk hr3; clear ha3 hb3 hr3 r4)
        have hgr : w.heap.size + 1 + 1 < wr.heap.size := by
          have h := HROW.out
          rw [← HLL.out] at h
          exact h.there.2.1
        have hi' : i < l.length := by have := HLL.out; omega
        have hp := RowV.put HR3.out (m := i) hi' (x := x) (A := A3) (c := c3) (HA3.out.weak (fun b hb hq => by rcases hq with h | h; exact h.elim; simp at h; exact ⟨by omega, by omega⟩))
        have hc := ((((Chg.refl w3 (fun q => q = w.heap.size + 1 + 1)).set rfl (i * 4) (.int .i64 x.k)).set rfl (i * 4 + 1) (.int .i64 x.n)).set rfl (i * 4 + 2) (.string x.s)).set rfl (i * 4 + 3) (.slice A3 x.items.length c3)
        have hx0 := (hc.block w.heap.size (by omega) (by omega)).trans (blk_below HCP.out.b0 HB3.out)
        have hx1 := (hc.block (w.heap.size + 1) (by omega) (by omega)).trans (blk_below HCP.out.b1 HB3.out)
        have hbw := below_chg (below_then HCP.out.bw HB3.out) hc (fun q hq => by omega)
        have hset : l.set i x = v.items.take (i + 1) ++ List.replicate (v.items.length - (i + 1)) Val.none := by rw [← HL.out]; exact cp_set v.items i hlt x HXX.out
        rw [hset, HLL.out] at hp
        go_roundw
        case rel => exact ⟨i + 1, by omega, by go_num, ⟨hp, hx0, hx1, hbw⟩⟩
        case measure => simp [intOf]; omega
      · have hil : i = v.items.length := by omega
        have hrow := hcp.row
        rw [hil, List.take_length, Nat.sub_self, List.replicate_zero, List.append_nil] at hrow
        have HROW := Ad.mk hrow
        have hgr : w.heap.size + 1 + 1 < wr.heap.size := hrow.there.2.1
        have y0 : wr.cell? ⟨w.heap.size, 0, none⟩ = some (.int .i64 v.k) := blk_cell hcp.b0 0
        have y1 : wr.cell? ⟨w.heap.size, 1, none⟩ = some (.int .i64 v.n) := blk_cell hcp.b0 1
        have y2 : wr.cell? ⟨w.heap.size, 2, none⟩ = some (.string v.s) := blk_cell hcp.b0 2
        have y3 : wr.cell? ⟨w.heap.size, 3, none⟩ = some (.slice (some ad) v.items.length c) := blk_cell hcp.b0 3
        have yf := fun m => blk_frozen hcp.b0 m
        have z0 := blk_cell hcp.b1 0
        have z1 := blk_cell hcp.b1 1
        have z2 := blk_cell hcp.b1 2
        have z3 := blk_cell hcp.b1 3
        have zf := fun m => blk_frozen hcp.b1 m
        simp at z0 z1 z2 z3
        clear hcp hrow
        go_wp2_with fail
        obtain ⟨A9, c9, he9, hvl⟩ := HROW.out.form
        injection he9 with ea eb ec
        subst ea ec
        have hva : VA (fun b => w.heap.size + 1 + 1 ≤ b) wr (some ⟨w.heap.size + 1 + 1, 0, none⟩) v.items.length v := ⟨hvl.weak (fun b _ hq => by rcases hq with h | h <;> exact h), HV.out.n, HV.out.s⟩
        have hc1 := (Chg.refl wr (fun q => q = w.heap.size)).set rfl 3 (.slice (some ⟨w.heap.size + 1 + 1, 0, none⟩) v.items.length v.items.length)
        have hva1 := hva.chg (Q' := fun b => w.heap.size + 1 + 1 ≤ b) hc1 (fun b _ hq he => by omega) (fun _ _ h => h)
        have hx1 := (hc1.block (w.heap.size + 1) (by omega) (by omega)).trans HCP.out.b1
        have hb1 := below_chg HCP.out.bw hc1 (fun q hq => by omega)
        exact RetV.finW hva1 rfl rfl rfl (blk_put (blk_put (blk_put (blk_put hx1 0 _ rfl) 1 _ rfl) 2 _ rfl) 3 _ rfl) (((((Chg.refl _ (fun q => q = w.heap.size + 1)).set rfl 0 _).set rfl 1 _).set rfl 2 _).set rfl 3 _) hb1 (by omega) (fun x hx hq => ⟨.inr (by omega), by omega⟩)
theorem copied_calls : ∀ (n : Nat) (v : Val), SizeOf.sizeOf v < n → ∀ (Q : Nat → Prop) (A : Option Addr) (c : Nat) (w : World), VA Q w A c v → (∀ b, Q b → b < w.heap.size) → checkP v = 0 → Calls Tryz.prog 253 #[.agg #[.int .i64 v.k, .int .i64 v.n, .string v.s, .slice A v.items.length c]] w (RetV (fun _ => False) w v)
  | 0, _, h => absurd h (Nat.not_lt_zero _)
  | n + 1, v, h => fun Q A c w hv hQ hok => copied_step v (fun x hx => copied_calls n x (by have := sizeOf_item hx; omega)) Q A c w hv hQ hok
end Go.Proofs.YtahnelihohmjfaaGreatDoor.V
namespace Go.Proofs.YtahnelihohmjfaaGreatDoor.V
open Go.RowKit
set_option linter.unusedVariables false
set_option linter.unusedSimpArgs false
/-! ### an expression is reckoned -/
def keyV (key : ByteArray) : Val := if key.size ≤ 12 then Val.text key else Val.none
def hopsV (ls : List Int) : Val := if 0 < ls.length ∧ ls.length ≤ 3 then Val.int (ls.getD (ls.length - 1) 0) else Val.none
def envOf (key : ByteArray) (v : Val) (ls : List Int) (acc : Val) : EnvV := ⟨keyV key, fitV v, fitV acc, hopsV ls⟩
theorem envOf_ok (key : ByteArray) (v : Val) (ls : List Int) (acc : Val) : (envOf key v ls acc).ok := by
  refine ⟨?_, fit_ok _, fit_ok _, ?_⟩
  · unfold envOf keyV; simp only; split
    · exact valid_text _ (by omega)
    · exact valid_none
  · unfold envOf hopsV; simp only; split
    · exact valid_int _
    · exact valid_none
theorem EnvR.key {w : World} {e : Nat} {E : EnvV} (h : EnvR (fun b => b < e) w e E) {x : Val} {A : Option Addr} {c : Nat} (hx : ∀ Q w, VA Q w A c x) : EnvR (fun b => b < e) ((((w.setCell ⟨e, 0, none⟩ (.int .i64 x.k)).setCell ⟨e, 1, none⟩ (.int .i64 x.n)).setCell ⟨e, 2, none⟩ (.string x.s)).setCell ⟨e, 3, none⟩ (.slice A x.items.length c)) e { E with key := x } := by
  obtain ⟨A1, c1, A2, c2, A3, c3, A4, c4, hb, h1, h2, h3, h4⟩ := h
  have hc := ((((Chg.refl w (· = e)).set rfl 0 (.int .i64 x.k)).set rfl 1 (.int .i64 x.n)).set rfl 2 (.string x.s)).set rfl 3 (.slice A x.items.length c)
  have hn : ∀ b, b < w.heap.size → b < e → ¬ b = e := fun b _ h => by omega
  exact ⟨A, c, A2, c2, A3, c3, A4, c4, blk_put (blk_put (blk_put (blk_put hb 0 _ rfl) 1 _ rfl) 2 _ rfl) 3 _ rfl, hx _ _, h2.chg hc hn (fun _ _ h => h), h3.chg hc hn (fun _ _ h => h), h4.chg hc hn (fun _ _ h => h)⟩
theorem EnvR.hops {w : World} {e : Nat} {E : EnvV} (h : EnvR (fun b => b < e) w e E) {x : Val} {A : Option Addr} {c : Nat} (hx : ∀ Q w, VA Q w A c x) : EnvR (fun b => b < e) ((((w.setCell ⟨e, 12, none⟩ (.int .i64 x.k)).setCell ⟨e, 13, none⟩ (.int .i64 x.n)).setCell ⟨e, 14, none⟩ (.string x.s)).setCell ⟨e, 15, none⟩ (.slice A x.items.length c)) e { E with hops := x } := by
  obtain ⟨A1, c1, A2, c2, A3, c3, A4, c4, hb, h1, h2, h3, h4⟩ := h
  have hc := ((((Chg.refl w (· = e)).set rfl 12 (.int .i64 x.k)).set rfl 13 (.int .i64 x.n)).set rfl 14 (.string x.s)).set rfl 15 (.slice A x.items.length c)
  have hn : ∀ b, b < w.heap.size → b < e → ¬ b = e := fun b _ h => by omega
  exact ⟨A1, c1, A2, c2, A3, c3, A, c, blk_put (blk_put (blk_put (blk_put hb 12 _ rfl) 13 _ rfl) 14 _ rfl) 15 _ rfl, h1.chg hc hn (fun _ _ h => h), h2.chg hc hn (fun _ _ h => h), h3.chg hc hn (fun _ _ h => h), hx _ _⟩
theorem func_nil (kf : Nat) (cap : Array Value) (w : World) : (binOp BinOp.eql 148 (Value.func (Fn.func kf) #[] cap) Value.nilFunc).run Tryz.prog w = .ok (.bool false) w := by kernel_rfl
set_option maxHeartbeats 8000000 in
set_option maxRecDepth 100000 in
theorem run_calls (b : Nat) (t : ByteArray) (kf : Nat) (cap : Array Value) (F : EnvV → Val) (key : ByteArray) (v acc : Val) (ls : List Int) (A B A2 : Option Addr) (c d c2 : Nat) (Q : Nat → Prop) (w : World) (hc : w.heap[b]? = some (.cells #[.string t, .func (.func kf) #[] cap] 151 (0, 0))) (hev : Ev w (.func (.func kf) #[] cap) F)
    (hv : VA Q w A c v) (ha : VA Q w A2 c2 acc) (hQ : ∀ b, Q b → b < w.heap.size) (hl : LI w B d ls) (hls : ∀ x ∈ ls, I64 x) (hks : key.size ≤ 140737488351232) :
    Calls Tryz.prog 251 #[.pointer (some ⟨b, 0, none⟩), .agg #[.string key, .int .i64 v.k, .int .i64 v.n, .string v.s, .slice A v.items.length c, .slice B ls.length d], .agg #[.int .i64 acc.k, .int .i64 acc.n, .string acc.s, .slice A2 acc.items.length c2]] w (RetV (fun _ => False) w (F (envOf key v ls acc))) := by
  have c0 := blk_cell hc 0
  have c1 := blk_cell hc 1
  simp at c0 c1
  have hbl := blk_lt hc
  have n1 : ¬ b = w.heap.size := by omega
  have n2 : ¬ b = w.heap.size + 1 := by omega
  have n3 : ¬ b = w.heap.size + 1 + 1 := by omega
  have m1 : ¬ w.heap.size = b := by omega
  have m2 : ¬ w.heap.size + 1 = b := by omega
  have m3 : ¬ w.heap.size + 1 + 1 = b := by omega
  obtain ⟨kf', cap', hf, hk, hcall⟩ := hev.calls
  injection hf with hf1 hf2 hf3
  injection hf1 with hf1
  subst hf1 hf3
  have hB0 := below_alloc (below_alloc (below_alloc (Below.refl _ w) (.cells #[.string key, .int .i64 v.k, .int .i64 v.n, .string v.s, .slice A v.items.length c, .slice B ls.length d] 45)) (.cells #[.int .i64 acc.k, .int .i64 acc.n, .string acc.s, .slice A2 acc.items.length c2] 42)) (.cells #[.int .i64 0, .int .i64 0, .string ⟨#[]⟩, .slice none 0 0] 42)
  have t1 := cell_below hB0 c1
  have C1 := Ad.mk c1
  have HCALL := Ad.mk hcall
  have HOK := Ad.mk (hev.ok _ (envOf_ok key v ls acc))
  have HV := Ad.mk hv
  have HA := Ad.mk ha
  have HQ := Ad.mk hQ
  have HL := Ad.mk hl
  have HLS := Ad.mk hls
  have hll := hl.m
  clear hc hev hv ha hQ hl hls hcall
  have hfn := func_nil kf cap
  go_enter Tryz.func251, Tryz.ntmps251
  go_upto_region 3 with (fail)
  have HB0 := Ad.mk hB0
  have HR0 := Ad.mk (blk_alloc (blk_alloc (blk_new w (.cells #[.string key, .int .i64 v.k, .int .i64 v.n, .string v.s, .slice A v.items.length c, .slice B ls.length d] 45)) (.cells #[.int .i64 acc.k, .int .i64 acc.n, .string acc.s, .slice A2 acc.items.length c2] 42)) (.cells #[.int .i64 0, .int .i64 0, .string ⟨#[]⟩, .slice none 0 0] 42))
  have HA0 := Ad.mk (blk_alloc (blk_new2 (g := w.heap.size + 1) (o := (.cells #[.int .i64 acc.k, .int .i64 acc.n, .string acc.s, .slice A2 acc.items.length c2] 42)) (w := w.alloc (.cells #[.string key, .int .i64 v.k, .int .i64 v.n, .string v.s, .slice A v.items.length c, .slice B ls.length d] 45)) (by simp)) (.cells #[.int .i64 0, .int .i64 0, .string ⟨#[]⟩, .slice none 0 0] 42))
  have HZ0 := Ad.mk (blk_new2 (g := w.heap.size + 1 + 1) (o := (.cells #[.int .i64 0, .int .i64 0, .string ⟨#[]⟩, .slice none 0 0] 42)) (w := (w.alloc (.cells #[.string key, .int .i64 v.k, .int .i64 v.n, .string v.s, .slice A v.items.length c, .slice B ls.length d] 45)).alloc (.cells #[.int .i64 acc.k, .int .i64 acc.n, .string acc.s, .slice A2 acc.items.length c2] 42)) (by simp))
  clear hB0 n1 n2 n3 m1 m2 m3
  generalize ((w.alloc (.cells #[.string key, .int .i64 v.k, .int .i64 v.n, .string v.s, .slice A v.items.length c, .slice B ls.length d] 45)).alloc (.cells #[.int .i64 acc.k, .int .i64 acc.n, .string acc.s, .slice A2 acc.items.length c2] 42)).alloc (.cells #[.int .i64 0, .int .i64 0, .string ⟨#[]⟩, .slice none 0 0] 42) = W at HB0 HR0 HA0 HZ0 t1 ⊢
  have r1 : W.cell? ⟨w.heap.size, 1, none⟩ = some (.int .i64 v.k) := blk_cell HR0.out 1
  have r2 : W.cell? ⟨w.heap.size, 2, none⟩ = some (.int .i64 v.n) := blk_cell HR0.out 2
  have r3 : W.cell? ⟨w.heap.size, 3, none⟩ = some (.string v.s) := blk_cell HR0.out 3
  have r4 : W.cell? ⟨w.heap.size, 4, none⟩ = some (.slice A v.items.length c) := blk_cell HR0.out 4
  have a0 : W.cell? ⟨w.heap.size + 1, 0, none⟩ = some (.int .i64 acc.k) := blk_cell HA0.out 0
  have a1 : W.cell? ⟨w.heap.size + 1, 1, none⟩ = some (.int .i64 acc.n) := blk_cell HA0.out 1
  have a2 : W.cell? ⟨w.heap.size + 1, 2, none⟩ = some (.string acc.s) := blk_cell HA0.out 2
  have a3 : W.cell? ⟨w.heap.size + 1, 3, none⟩ = some (.slice A2 acc.items.length c2) := blk_cell HA0.out 3
  have lz := blk_lt HZ0.out
  have HVW := Ad.mk (HV.out.below HB0.out)
  have HAW := Ad.mk (HA.out.below HB0.out)
  have HQW : Ad (∀ b, Q b → b < W.heap.size) := ⟨fun b h => by have := HQ.out b h; have := HB0.out.size; omega⟩
  have HQD : Ad (∀ b, Q b → b < W.drew.heap.size) := ⟨HQW.out⟩
  have HVD := Ad.mk (HVW.out.below (Below.refl W.heap.size W).drew)
  clear t1 c0 c1 hbl
  go_region_held3 (fun w' => w'.cell? ⟨w.heap.size, 1, none⟩ = some (.int .i64 v.k) ∧ w'.cell? ⟨w.heap.size, 2, none⟩ = some (.int .i64 v.n) ∧ w'.cell? ⟨w.heap.size, 3, none⟩ = some (.string v.s) ∧ w'.cell? ⟨w.heap.size, 4, none⟩ = some (.slice A v.items.length c) ∧ w'.cell? ⟨w.heap.size + 1, 0, none⟩ = some (.int .i64 acc.k) ∧ w'.cell? ⟨w.heap.size + 1, 1, none⟩ = some (.int .i64 acc.n) ∧ w'.cell? ⟨w.heap.size + 1, 2, none⟩ = some (.string acc.s) ∧ w'.cell? ⟨w.heap.size + 1, 3, none⟩ = some (.slice A2 acc.items.length c2))
    (first | (with_reducible exact ⟨y1, y2, y3, y4, y5, y6, y7, y8⟩) | (with_reducible exact ⟨x1, x2, x3, x4, x5, x6, x7, x8⟩) | (with_reducible exact ⟨r1, r2, r3, r4, a0, a1, a2, a3⟩) | (exact ⟨cell_below (below_alloc (Below.refl _ _) _) y1, cell_below (below_alloc (Below.refl _ _) _) y2, cell_below (below_alloc (Below.refl _ _) _) y3, cell_below (below_alloc (Below.refl _ _) _) y4, cell_below (below_alloc (Below.refl _ _) _) y5, cell_below (below_alloc (Below.refl _ _) _) y6, cell_below (below_alloc (Below.refl _ _) _) y7, cell_below (below_alloc (Below.refl _ _) _) y8⟩) | go_keep)
    (first
    | (go_at_call 252; (with_reducible refine (fit_calls (fun b => b < w4.heap.size) A2 c2 acc _ ((HAW.out.below HB4.out).weak fun b hb _ => hb) (fun _ h => h)).mono ?_); rintro e5 w5 ⟨A5, c5, rfl, ha5, hb5⟩; have HA5 := Ad.mk ha5; have HB5 := Ad.mk hb5; have y1 := cell_below hb5 x1; have y2 := cell_below hb5 x2; have y3 := cell_below hb5 x3; have y4 := cell_below hb5 x4; have y5 := cell_below hb5 x5; have y6 := cell_below hb5 x6; have y7 := cell_below hb5 x7; have y8 := cell_below hb5 x8; clear ha5 hb5)
    | (go_at_call 252; (with_reducible refine (fit_calls Q A c v _ HVD.out HQD.out).mono ?_); rintro e4 w4 ⟨A4, c4, rfl, ha4, hb4⟩; have HA4 := Ad.mk ha4; have hb4' := below_then (Below.refl W.heap.size W).drew hb4; have HB4 := Ad.mk hb4'; have x1 := cell_below hb4' r1; have x2 := cell_below hb4' r2; have x3 := cell_below hb4' r3; have x4 := cell_below hb4' r4; have x5 := cell_below hb4' a0; have x6 := cell_below hb4' a1; have x7 := cell_below hb4' a2; have x8 := cell_below hb4' a3; clear ha4 hb4 hb4')
    | fail)
  have HEN := Ad.mk (show EnvR (fun b => b < w5.heap.size) (w5.alloc (.cells #[.int .i64 0, .int .i64 0, .string ⟨#[]⟩, .slice none 0 0, .int .i64 (fitV v).k, .int .i64 (fitV v).n, .string (fitV v).s, .slice A4 (fitV v).items.length c4, .int .i64 (fitV acc).k, .int .i64 (fitV acc).n, .string (fitV acc).s, .slice A5 (fitV acc).items.length c5, .int .i64 0, .int .i64 0, .string ⟨#[]⟩, .slice none 0 0] 359)) w5.heap.size ⟨Val.none, fitV v, fitV acc, Val.none⟩ from ⟨none, 0, A4, c4, A5, c5, none, 0, blk_new _ _, VA.none _ _ _ _, ((HA4.out.below HB5.out).weak (fun b hb _ => hb)).below (below_alloc (Below.refl _ _) _), (HA5.out.weak (fun b hb _ => hb)).below (below_alloc (Below.refl _ _) _), VA.none _ _ _ _⟩)
  have BW6 := Ad.mk (below_then (below_then (below_then HB0.out HB4.out) HB5.out) (below_alloc (Below.refl w5.heap.size w5) (.cells #[.int .i64 0, .int .i64 0, .string ⟨#[]⟩, .slice none 0 0, .int .i64 (fitV v).k, .int .i64 (fitV v).n, .string (fitV v).s, .slice A4 (fitV v).items.length c4, .int .i64 (fitV acc).k, .int .i64 (fitV acc).n, .string (fitV acc).s, .slice A5 (fitV acc).items.length c5, .int .i64 0, .int .i64 0, .string ⟨#[]⟩, .slice none 0 0] 359)))
  have BX6 := Ad.mk (below_then (below_then HB4.out HB5.out) (below_alloc (Below.refl w5.heap.size w5) (.cells #[.int .i64 0, .int .i64 0, .string ⟨#[]⟩, .slice none 0 0, .int .i64 (fitV v).k, .int .i64 (fitV v).n, .string (fitV v).s, .slice A4 (fitV v).items.length c4, .int .i64 (fitV acc).k, .int .i64 (fitV acc).n, .string (fitV acc).s, .slice A5 (fitV acc).items.length c5, .int .i64 0, .int .i64 0, .string ⟨#[]⟩, .slice none 0 0] 359)))
  have hle : w.heap.size + 1 + 1 < w5.heap.size := by have := HB4.out.size; have := HB5.out.size; omega
  clear y1 y2 y3 y4 y5 y6 y7 y8 x1 x2 x3 x4 x5 x6 x7 x8 r1 r2 r3 r4 a0 a1 a2 a3
  generalize w5.alloc (.cells #[.int .i64 0, .int .i64 0, .string ⟨#[]⟩, .slice none 0 0, .int .i64 (fitV v).k, .int .i64 (fitV v).n, .string (fitV v).s, .slice A4 (fitV v).items.length c4, .int .i64 (fitV acc).k, .int .i64 (fitV acc).n, .string (fitV acc).s, .slice A5 (fitV acc).items.length c5, .int .i64 0, .int .i64 0, .string ⟨#[]⟩, .slice none 0 0] 359) = W6 at HEN BW6 BX6 ⊢
  generalize w5.heap.size = e at HEN hle ⊢
  have HR6 := Ad.mk (blk_below HR0.out BX6.out)
  have HZ6 := Ad.mk (blk_below HZ0.out BX6.out)
  have k0 : W6.cell? ⟨w.heap.size, 0, none⟩ = some (.string key) := blk_cell HR6.out 0
  have k5 : W6.cell? ⟨w.heap.size, 5, none⟩ = some (.slice B ls.length d) := blk_cell HR6.out 5
  clear lz
  by_cases hk12 : key.size ≤ 12
  · have j1 : (key.size : Int) ≤ 12 := by omega
    have HKV : Ad (keyV key = Val.text key) := ⟨by unfold keyV; rw [if_pos hk12]⟩
    go_upto_region 6 with (go_at_call 88; refine (ofText_calls (fun _ => False) _ _ hks).mono ?_; rintro e7 w7 ⟨A7, c7, rfl, ha7, hb7⟩; obtain ⟨_, _, _, _, _, _, _, _, hblk, _⟩ := HEN.out.below hb7; have z0 := blk_cell hblk 0; have z1 := blk_cell hblk 1; have z2 := blk_cell hblk 2; have z3 := blk_cell hblk 3; have zf := (fun m => blk_frozen hblk m); simp at z0 z1 z2 z3; have zl := blk_lt hblk; have HB7 := Ad.mk hb7; clear ha7 hb7 hblk)
    have hen7 := (HEN.out.below HB7.out).key (x := Val.text key) (A := A7) (c := c7) (fun Q w => ⟨VL.nil _ _ _ _, by simp [Val.text, Val.n, I64], hks⟩)
    have hcc := ((((Chg.refl w7 (· = e)).set rfl 0 (.int .i64 (Val.text key).k)).set rfl 1 (.int .i64 (Val.text key).n)).set rfl 2 (.string (Val.text key).s)).set rfl 3 (.slice A7 (Val.text key).items.length c7)
    have hbw8 := below_chg (below_then BW6.out HB7.out) hcc (fun q hq => by have h : q = e := hq; omega)
    have hr8 := (hcc.block w.heap.size (Nat.lt_of_lt_of_le (blk_lt HR6.out) HB7.out.size) (by omega)).trans (blk_below HR6.out HB7.out)
    have hz8 := (hcc.block (w.heap.size + 1 + 1) (Nat.lt_of_lt_of_le (blk_lt HZ6.out) HB7.out.size) (by omega)).trans (blk_below HZ6.out HB7.out)
    clear z0 z1 z2 z3 zf zl k0 k5 hcc
    generalize (((w7.setCell ⟨e, 0, none⟩ (.int .i64 (Val.text key).k)).setCell ⟨e, 1, none⟩ (.int .i64 (Val.text key).n)).setCell ⟨e, 2, none⟩ (.string (Val.text key).s)).setCell ⟨e, 3, none⟩ (.slice A7 (Val.text key).items.length c7) = W8 at hen7 hbw8 hr8 hz8 ⊢
    have HEN8 := Ad.mk hen7
    have BW8 := Ad.mk hbw8
    have HZ8 := Ad.mk hz8
    have k5 : W8.cell? ⟨w.heap.size, 5, none⟩ = some (.slice B ls.length d) := blk_cell hr8 5
    have kl := blk_lt hr8
    clear hen7 hbw8 hr8 hz8
    by_cases hh : 0 < ls.length ∧ ls.length ≤ 3
    · have hh1 : (0 : Int) < (ls.length : Int) := by omega
      have hh2 : (ls.length : Int) ≤ 3 := by omega
      have HHV : Ad (hopsV ls = Val.int (ls.getD (ls.length - 1) 0)) := ⟨by unfold hopsV; rw [if_pos hh]⟩
      obtain ⟨ad, rfl, hli⟩ := (HL.out.below BW8.out).h (by omega)
      have hg0 := (hli (ls.length - 1) (by omega)).1
      have HI6 := Ad.mk (hli (ls.length - 1) (by omega)).2
      obtain ⟨m, hm⟩ : ∃ m, ls.length - 1 = m := ⟨_, rfl⟩
      have hm1 : ls.length = m + 1 := by omega
      rw [hm] at hg0 HI6 HHV
      have HM := Ad.mk hm1
      obtain ⟨x, hx⟩ : ∃ x, ls.getD m 0 = x := ⟨_, rfl⟩
      rw [hx] at hg0 HI6 HHV
      clear hli hm hx hh
      have qm : (ls.length : Int) - 1 = (m : Int) := by omega
      have q0 : (0 : Int) ≤ (m : Int) := by omega
      have q1 : (m : Int) < (ls.length : Int) := by omega
      have qw := Go.IntWalk.i64_in ((m : Int)) (by omega)
      clear hm1
      go_upto_region 9 with (go_at_call 177; refine (ofInt_calls (fun _ => False) _ _ HI6.out).mono ?_; rintro e17 w17 ⟨A17, c17, rfl, ha17, hb17⟩; obtain ⟨_, _, _, _, _, _, _, _, hblk, _⟩ := HEN8.out.below hb17; have z0 := blk_cell hblk 12; have z1 := blk_cell hblk 13; have z2 := blk_cell hblk 14; have z3 := blk_cell hblk 15; have zf := (fun m => blk_frozen hblk m); simp at z0 z1 z2 z3; have zl := blk_lt hblk; have HB17 := Ad.mk hb17; clear ha17 hb17 hblk)
      all_goals first | (exfalso; omega) | skip
      have hen9 := (HEN8.out.below HB17.out).hops (x := Val.int x) (A := A17) (c := c17) (fun Q w => ⟨VL.nil _ _ _ _, HI6.out, by simp [Val.int, Val.s, ByteArray.size]⟩)
      have hcc := ((((Chg.refl w17 (· = e)).set rfl 12 (.int .i64 (Val.int x).k)).set rfl 13 (.int .i64 (Val.int x).n)).set rfl 14 (.string (Val.int x).s)).set rfl 15 (.slice A17 (Val.int x).items.length c17)
      have hbw9 := below_chg (below_then BW8.out HB17.out) hcc (fun q hq => by have h : q = e := hq; omega)
      have hz9 := (hcc.block (w.heap.size + 1 + 1) (Nat.lt_of_lt_of_le (blk_lt HZ8.out) HB17.out.size) (by omega)).trans (blk_below HZ8.out HB17.out)
      clear z0 z1 z2 z3 zf zl hg0 hcc
      generalize (((w17.setCell ⟨e, 12, none⟩ (.int .i64 (Val.int x).k)).setCell ⟨e, 13, none⟩ (.int .i64 (Val.int x).n)).setCell ⟨e, 14, none⟩ (.string (Val.int x).s)).setCell ⟨e, 15, none⟩ (.slice A17 (Val.int x).items.length c17) = W9 at hen9 hbw9 hz9 ⊢
      have HEN9 := Ad.mk hen9
      have BW9 := Ad.mk hbw9
      have HZ9 := Ad.mk hz9
      clear hen9 hbw9 hz9
      have HLE9 : Ad (∀ b, b < e → b < W9.heap.size) := ⟨fun b h => by obtain ⟨_, _, _, _, _, _, _, _, hb, _⟩ := HEN9.out; have := blk_lt hb; omega⟩
      have HCF := Ad.mk (HCALL.out W9 e (envOf key v ls acc) (fun b => b < e) BW9.out (by have h := HEN9.out; rw [show (⟨Val.text key, fitV v, fitV acc, Val.int x⟩ : EnvV) = envOf key v ls acc from by unfold envOf; rw [HKV.out, HHV.out]] at h; exact h) HLE9.out (envOf_ok _ _ _ _))
      have hcode : W9.cell? ⟨b, 1, none⟩ = some (.func (.func kf) #[] cap) := cell_below BW9.out C1.out
      have hbl9 := World.block_lt_of_cell? _ _ hcode
      go_wp2_with (first
        | ((with_reducible refine HCF.out.mono ?_); rintro e9 w9 ⟨A9, c9, rfl, ha9, hb9⟩; have HA9 := Ad.mk ha9; have HB9 := Ad.mk hb9; clear ha9 hb9)
        | (go_at_call 253; refine (copied_calls _ _ (Nat.lt_succ_self _) (fun b => b < w9.heap.size) A9 c9 _ (HA9.out.weak fun b hb _ => hb) (fun _ h => h) HOK.out).mono ?_; rintro e10 w10 ⟨A10, c10, rfl, ha10, hb10⟩; have HA10 := Ad.mk ha10; have hzz := blk_below (blk_below HZ9.out HB9.out) hb10; have HZ10 := Ad.mk hzz; have g0 := blk_cell hzz 0; have g1 := blk_cell hzz 1; have g2 := blk_cell hzz 2; have g3 := blk_cell hzz 3; have gf := (fun m => blk_frozen hzz m); simp at g0 g1 g2 g3; have HB10 := Ad.mk (below_then BW9.out (below_then HB9.out hb10)); have hl9 := Nat.lt_of_lt_of_le (blk_lt HZ9.out) HB9.out.size; clear ha10 hb10 hzz)
        | fail)
      exact RetV.finW HA10.out rfl rfl rfl (blk_put (blk_put (blk_put (blk_put HZ10.out 0 _ rfl) 1 _ rfl) 2 _ rfl) 3 _ rfl) (((((Chg.refl _ (fun q => q = w.heap.size + 1 + 1)).set rfl 0 _).set rfl 1 _).set rfl 2 _).set rfl 3 _) HB10.out (by omega) (fun x hx hq => by rcases hq with h | h; exact h.elim; exact ⟨.inr (by omega), by omega⟩)
    · have HHV : Ad (hopsV ls = Val.none) := ⟨by unfold hopsV; rw [if_neg hh]⟩
      have hh0 : ¬ ((0 : Int) < (ls.length : Int)) ∨ ((0 : Int) < (ls.length : Int) ∧ ¬ (ls.length : Int) ≤ 3) := by omega
      rcases hh0 with hh1 | ⟨hh1, hh2⟩
      · go_upto_region 9 with (fail)
        all_goals first | (exfalso; omega) | skip
        have HLE8 : Ad (∀ b, b < e → b < W8.heap.size) := ⟨fun b h => by obtain ⟨_, _, _, _, _, _, _, _, hb, _⟩ := HEN8.out; have := blk_lt hb; omega⟩
        have HCF := Ad.mk (HCALL.out W8 e (envOf key v ls acc) (fun b => b < e) BW8.out (by have h := HEN8.out; rw [show (⟨Val.text key, fitV v, fitV acc, Val.none⟩ : EnvV) = envOf key v ls acc from by unfold envOf; rw [HKV.out, HHV.out]] at h; exact h) HLE8.out (envOf_ok _ _ _ _))
        have hcode : W8.cell? ⟨b, 1, none⟩ = some (.func (.func kf) #[] cap) := cell_below BW8.out C1.out
        have hbl9 := World.block_lt_of_cell? _ _ hcode
        go_wp2_with (first
          | ((with_reducible refine HCF.out.mono ?_); rintro e9 w9 ⟨A9, c9, rfl, ha9, hb9⟩; have HA9 := Ad.mk ha9; have HB9 := Ad.mk hb9; clear ha9 hb9)
          | (go_at_call 253; refine (copied_calls _ _ (Nat.lt_succ_self _) (fun b => b < w9.heap.size) A9 c9 _ (HA9.out.weak fun b hb _ => hb) (fun _ h => h) HOK.out).mono ?_; rintro e10 w10 ⟨A10, c10, rfl, ha10, hb10⟩; have HA10 := Ad.mk ha10; have hzz := blk_below (blk_below HZ8.out HB9.out) hb10; have HZ10 := Ad.mk hzz; have g0 := blk_cell hzz 0; have g1 := blk_cell hzz 1; have g2 := blk_cell hzz 2; have g3 := blk_cell hzz 3; have gf := (fun m => blk_frozen hzz m); simp at g0 g1 g2 g3; have HB10 := Ad.mk (below_then BW8.out (below_then HB9.out hb10)); have hl9 := Nat.lt_of_lt_of_le (blk_lt HZ8.out) HB9.out.size; clear ha10 hb10 hzz)
          | fail)
        exact RetV.finW HA10.out rfl rfl rfl (blk_put (blk_put (blk_put (blk_put HZ10.out 0 _ rfl) 1 _ rfl) 2 _ rfl) 3 _ rfl) (((((Chg.refl _ (fun q => q = w.heap.size + 1 + 1)).set rfl 0 _).set rfl 1 _).set rfl 2 _).set rfl 3 _) HB10.out (by omega) (fun x hx hq => by rcases hq with h | h; exact h.elim; exact ⟨.inr (by omega), by omega⟩)
      · go_upto_region 9 with (fail)
        all_goals first | (exfalso; omega) | skip
        have HLE8 : Ad (∀ b, b < e → b < W8.heap.size) := ⟨fun b h => by obtain ⟨_, _, _, _, _, _, _, _, hb, _⟩ := HEN8.out; have := blk_lt hb; omega⟩
        have HCF := Ad.mk (HCALL.out W8 e (envOf key v ls acc) (fun b => b < e) BW8.out (by have h := HEN8.out; rw [show (⟨Val.text key, fitV v, fitV acc, Val.none⟩ : EnvV) = envOf key v ls acc from by unfold envOf; rw [HKV.out, HHV.out]] at h; exact h) HLE8.out (envOf_ok _ _ _ _))
        have hcode : W8.cell? ⟨b, 1, none⟩ = some (.func (.func kf) #[] cap) := cell_below BW8.out C1.out
        have hbl9 := World.block_lt_of_cell? _ _ hcode
        go_wp2_with (first
          | ((with_reducible refine HCF.out.mono ?_); rintro e9 w9 ⟨A9, c9, rfl, ha9, hb9⟩; have HA9 := Ad.mk ha9; have HB9 := Ad.mk hb9; clear ha9 hb9)
          | (go_at_call 253; refine (copied_calls _ _ (Nat.lt_succ_self _) (fun b => b < w9.heap.size) A9 c9 _ (HA9.out.weak fun b hb _ => hb) (fun _ h => h) HOK.out).mono ?_; rintro e10 w10 ⟨A10, c10, rfl, ha10, hb10⟩; have HA10 := Ad.mk ha10; have hzz := blk_below (blk_below HZ8.out HB9.out) hb10; have HZ10 := Ad.mk hzz; have g0 := blk_cell hzz 0; have g1 := blk_cell hzz 1; have g2 := blk_cell hzz 2; have g3 := blk_cell hzz 3; have gf := (fun m => blk_frozen hzz m); simp at g0 g1 g2 g3; have HB10 := Ad.mk (below_then BW8.out (below_then HB9.out hb10)); have hl9 := Nat.lt_of_lt_of_le (blk_lt HZ8.out) HB9.out.size; clear ha10 hb10 hzz)
          | fail)
        exact RetV.finW HA10.out rfl rfl rfl (blk_put (blk_put (blk_put (blk_put HZ10.out 0 _ rfl) 1 _ rfl) 2 _ rfl) 3 _ rfl) (((((Chg.refl _ (fun q => q = w.heap.size + 1 + 1)).set rfl 0 _).set rfl 1 _).set rfl 2 _).set rfl 3 _) HB10.out (by omega) (fun x hx hq => by rcases hq with h | h; exact h.elim; exact ⟨.inr (by omega), by omega⟩)
  · have j1 : ¬ (key.size : Int) ≤ 12 := by omega
    have HKV : Ad (keyV key = Val.none) := ⟨by unfold keyV; rw [if_neg hk12]⟩
    have HEN6 := HEN
    go_upto_region 6 with (fail)
    by_cases hh : 0 < ls.length ∧ ls.length ≤ 3
    · have hh1 : (0 : Int) < (ls.length : Int) := by omega
      have hh2 : (ls.length : Int) ≤ 3 := by omega
      have HHV : Ad (hopsV ls = Val.int (ls.getD (ls.length - 1) 0)) := ⟨by unfold hopsV; rw [if_pos hh]⟩
      obtain ⟨ad, rfl, hli⟩ := (HL.out.below BW6.out).h (by omega)
      have hg0 := (hli (ls.length - 1) (by omega)).1
      have HI6 := Ad.mk (hli (ls.length - 1) (by omega)).2
      obtain ⟨m, hm⟩ : ∃ m, ls.length - 1 = m := ⟨_, rfl⟩
      have hm1 : ls.length = m + 1 := by omega
      rw [hm] at hg0 HI6 HHV
      have HM := Ad.mk hm1
      obtain ⟨x, hx⟩ : ∃ x, ls.getD m 0 = x := ⟨_, rfl⟩
      rw [hx] at hg0 HI6 HHV
      clear hli hm hx hh
      have qm : (ls.length : Int) - 1 = (m : Int) := by omega
      have q0 : (0 : Int) ≤ (m : Int) := by omega
      have q1 : (m : Int) < (ls.length : Int) := by omega
      have qw := Go.IntWalk.i64_in ((m : Int)) (by omega)
      clear hm1
      go_upto_region 9 with (go_at_call 177; refine (ofInt_calls (fun _ => False) _ _ HI6.out).mono ?_; rintro e17 w17 ⟨A17, c17, rfl, ha17, hb17⟩; obtain ⟨_, _, _, _, _, _, _, _, hblk, _⟩ := HEN6.out.below hb17; have z0 := blk_cell hblk 12; have z1 := blk_cell hblk 13; have z2 := blk_cell hblk 14; have z3 := blk_cell hblk 15; have zf := (fun m => blk_frozen hblk m); simp at z0 z1 z2 z3; have zl := blk_lt hblk; have HB17 := Ad.mk hb17; clear ha17 hb17 hblk)
      all_goals first | (exfalso; omega) | skip
      have hen9 := (HEN6.out.below HB17.out).hops (x := Val.int x) (A := A17) (c := c17) (fun Q w => ⟨VL.nil _ _ _ _, HI6.out, by simp [Val.int, Val.s, ByteArray.size]⟩)
      have hcc := ((((Chg.refl w17 (· = e)).set rfl 12 (.int .i64 (Val.int x).k)).set rfl 13 (.int .i64 (Val.int x).n)).set rfl 14 (.string (Val.int x).s)).set rfl 15 (.slice A17 (Val.int x).items.length c17)
      have hbw9 := below_chg (below_then BW6.out HB17.out) hcc (fun q hq => by have h : q = e := hq; omega)
      have hz9 := (hcc.block (w.heap.size + 1 + 1) (Nat.lt_of_lt_of_le (blk_lt HZ6.out) HB17.out.size) (by omega)).trans (blk_below HZ6.out HB17.out)
      clear z0 z1 z2 z3 zf zl hg0 hcc
      generalize (((w17.setCell ⟨e, 12, none⟩ (.int .i64 (Val.int x).k)).setCell ⟨e, 13, none⟩ (.int .i64 (Val.int x).n)).setCell ⟨e, 14, none⟩ (.string (Val.int x).s)).setCell ⟨e, 15, none⟩ (.slice A17 (Val.int x).items.length c17) = W9 at hen9 hbw9 hz9 ⊢
      have HEN9 := Ad.mk hen9
      have BW9 := Ad.mk hbw9
      have HZ9 := Ad.mk hz9
      clear hen9 hbw9 hz9
      have HLE9 : Ad (∀ b, b < e → b < W9.heap.size) := ⟨fun b h => by obtain ⟨_, _, _, _, _, _, _, _, hb, _⟩ := HEN9.out; have := blk_lt hb; omega⟩
      have HCF := Ad.mk (HCALL.out W9 e (envOf key v ls acc) (fun b => b < e) BW9.out (by have h := HEN9.out; rw [show (⟨Val.none, fitV v, fitV acc, Val.int x⟩ : EnvV) = envOf key v ls acc from by unfold envOf; rw [HKV.out, HHV.out]] at h; exact h) HLE9.out (envOf_ok _ _ _ _))
      have hcode : W9.cell? ⟨b, 1, none⟩ = some (.func (.func kf) #[] cap) := cell_below BW9.out C1.out
      have hbl9 := World.block_lt_of_cell? _ _ hcode
      go_wp2_with (first
        | ((with_reducible refine HCF.out.mono ?_); rintro e9 w9 ⟨A9, c9, rfl, ha9, hb9⟩; have HA9 := Ad.mk ha9; have HB9 := Ad.mk hb9; clear ha9 hb9)
        | (go_at_call 253; refine (copied_calls _ _ (Nat.lt_succ_self _) (fun b => b < w9.heap.size) A9 c9 _ (HA9.out.weak fun b hb _ => hb) (fun _ h => h) HOK.out).mono ?_; rintro e10 w10 ⟨A10, c10, rfl, ha10, hb10⟩; have HA10 := Ad.mk ha10; have hzz := blk_below (blk_below HZ9.out HB9.out) hb10; have HZ10 := Ad.mk hzz; have g0 := blk_cell hzz 0; have g1 := blk_cell hzz 1; have g2 := blk_cell hzz 2; have g3 := blk_cell hzz 3; have gf := (fun m => blk_frozen hzz m); simp at g0 g1 g2 g3; have HB10 := Ad.mk (below_then BW9.out (below_then HB9.out hb10)); have hl9 := Nat.lt_of_lt_of_le (blk_lt HZ9.out) HB9.out.size; clear ha10 hb10 hzz)
        | fail)
      exact RetV.finW HA10.out rfl rfl rfl (blk_put (blk_put (blk_put (blk_put HZ10.out 0 _ rfl) 1 _ rfl) 2 _ rfl) 3 _ rfl) (((((Chg.refl _ (fun q => q = w.heap.size + 1 + 1)).set rfl 0 _).set rfl 1 _).set rfl 2 _).set rfl 3 _) HB10.out (by omega) (fun x hx hq => by rcases hq with h | h; exact h.elim; exact ⟨.inr (by omega), by omega⟩)
    · have HHV : Ad (hopsV ls = Val.none) := ⟨by unfold hopsV; rw [if_neg hh]⟩
      have hh0 : ¬ ((0 : Int) < (ls.length : Int)) ∨ ((0 : Int) < (ls.length : Int) ∧ ¬ (ls.length : Int) ≤ 3) := by omega
      rcases hh0 with hh1 | ⟨hh1, hh2⟩
      · go_upto_region 9 with (fail)
        all_goals first | (exfalso; omega) | skip
        have HLE6 : Ad (∀ b, b < e → b < W6.heap.size) := ⟨fun b h => by obtain ⟨_, _, _, _, _, _, _, _, hb, _⟩ := HEN6.out; have := blk_lt hb; omega⟩
        have HCF := Ad.mk (HCALL.out W6 e (envOf key v ls acc) (fun b => b < e) BW6.out (by have h := HEN6.out; rw [show (⟨Val.none, fitV v, fitV acc, Val.none⟩ : EnvV) = envOf key v ls acc from by unfold envOf; rw [HKV.out, HHV.out]] at h; exact h) HLE6.out (envOf_ok _ _ _ _))
        have hcode : W6.cell? ⟨b, 1, none⟩ = some (.func (.func kf) #[] cap) := cell_below BW6.out C1.out
        have hbl9 := World.block_lt_of_cell? _ _ hcode
        go_wp2_with (first
          | ((with_reducible refine HCF.out.mono ?_); rintro e9 w9 ⟨A9, c9, rfl, ha9, hb9⟩; have HA9 := Ad.mk ha9; have HB9 := Ad.mk hb9; clear ha9 hb9)
          | (go_at_call 253; refine (copied_calls _ _ (Nat.lt_succ_self _) (fun b => b < w9.heap.size) A9 c9 _ (HA9.out.weak fun b hb _ => hb) (fun _ h => h) HOK.out).mono ?_; rintro e10 w10 ⟨A10, c10, rfl, ha10, hb10⟩; have HA10 := Ad.mk ha10; have hzz := blk_below (blk_below HZ6.out HB9.out) hb10; have HZ10 := Ad.mk hzz; have g0 := blk_cell hzz 0; have g1 := blk_cell hzz 1; have g2 := blk_cell hzz 2; have g3 := blk_cell hzz 3; have gf := (fun m => blk_frozen hzz m); simp at g0 g1 g2 g3; have HB10 := Ad.mk (below_then BW6.out (below_then HB9.out hb10)); have hl9 := Nat.lt_of_lt_of_le (blk_lt HZ6.out) HB9.out.size; clear ha10 hb10 hzz)
          | fail)
        exact RetV.finW HA10.out rfl rfl rfl (blk_put (blk_put (blk_put (blk_put HZ10.out 0 _ rfl) 1 _ rfl) 2 _ rfl) 3 _ rfl) (((((Chg.refl _ (fun q => q = w.heap.size + 1 + 1)).set rfl 0 _).set rfl 1 _).set rfl 2 _).set rfl 3 _) HB10.out (by omega) (fun x hx hq => by rcases hq with h | h; exact h.elim; exact ⟨.inr (by omega), by omega⟩)
      · go_upto_region 9 with (fail)
        all_goals first | (exfalso; omega) | skip
        have HLE6 : Ad (∀ b, b < e → b < W6.heap.size) := ⟨fun b h => by obtain ⟨_, _, _, _, _, _, _, _, hb, _⟩ := HEN6.out; have := blk_lt hb; omega⟩
        have HCF := Ad.mk (HCALL.out W6 e (envOf key v ls acc) (fun b => b < e) BW6.out (by have h := HEN6.out; rw [show (⟨Val.none, fitV v, fitV acc, Val.none⟩ : EnvV) = envOf key v ls acc from by unfold envOf; rw [HKV.out, HHV.out]] at h; exact h) HLE6.out (envOf_ok _ _ _ _))
        have hcode : W6.cell? ⟨b, 1, none⟩ = some (.func (.func kf) #[] cap) := cell_below BW6.out C1.out
        have hbl9 := World.block_lt_of_cell? _ _ hcode
        go_wp2_with (first
          | ((with_reducible refine HCF.out.mono ?_); rintro e9 w9 ⟨A9, c9, rfl, ha9, hb9⟩; have HA9 := Ad.mk ha9; have HB9 := Ad.mk hb9; clear ha9 hb9)
          | (go_at_call 253; refine (copied_calls _ _ (Nat.lt_succ_self _) (fun b => b < w9.heap.size) A9 c9 _ (HA9.out.weak fun b hb _ => hb) (fun _ h => h) HOK.out).mono ?_; rintro e10 w10 ⟨A10, c10, rfl, ha10, hb10⟩; have HA10 := Ad.mk ha10; have hzz := blk_below (blk_below HZ6.out HB9.out) hb10; have HZ10 := Ad.mk hzz; have g0 := blk_cell hzz 0; have g1 := blk_cell hzz 1; have g2 := blk_cell hzz 2; have g3 := blk_cell hzz 3; have gf := (fun m => blk_frozen hzz m); simp at g0 g1 g2 g3; have HB10 := Ad.mk (below_then BW6.out (below_then HB9.out hb10)); have hl9 := Nat.lt_of_lt_of_le (blk_lt HZ6.out) HB9.out.size; clear ha10 hb10 hzz)
          | fail)
        exact RetV.finW HA10.out rfl rfl rfl (blk_put (blk_put (blk_put (blk_put HZ10.out 0 _ rfl) 1 _ rfl) 2 _ rfl) 3 _ rfl) (((((Chg.refl _ (fun q => q = w.heap.size + 1 + 1)).set rfl 0 _).set rfl 1 _).set rfl 2 _).set rfl 3 _) HB10.out (by omega) (fun x hx hq => by rcases hq with h | h; exact h.elim; exact ⟨.inr (by omega), by omega⟩)
end Go.Proofs.YtahnelihohmjfaaGreatDoor.V
namespace Go.Proofs.YtahnelihohmjfaaGreatDoor.V
open Go.RowKit
set_option linter.unusedVariables false
set_option linter.unusedSimpArgs false
/-! ### the stage: values in new memory -/
theorem sizeOf_sub {l : List Val} {x : Val} (h : x ∈ l) : SizeOf.sizeOf x.items < SizeOf.sizeOf l := by
  have h1 := List.sizeOf_lt_of_mem h
  cases x with
  | mk k n s items => simp [Val.items] at h1 ⊢; omega
set_option maxHeartbeats 8000000 in
set_option maxRecDepth 100000 in
theorem copies_step (l : List Val) (ih : ∀ x ∈ l, ∀ (Q : Nat → Prop) (A : Option Addr) (c : Nat) (w : World), VL Q w A c x.items → (∀ b, Q b → b < w.heap.size) → Calls Tryz.prog 68 #[.slice A x.items.length c] w (RetRow (fun b => w.heap.size ≤ b) w x.items))
    (Q : Nat → Prop) (A : Option Addr) (c : Nat) (w : World) (hl : VL Q w A c l) (hQ : ∀ b, Q b → b < w.heap.size) (h6 : l.length ≤ 6) : Calls Tryz.prog 68 #[.slice A l.length c] w (RetRow (fun b => w.heap.size ≤ b) w l) := by
  have HIH := Ad.mk ih
  have HL := Ad.mk hl
  have HQ := Ad.mk hQ
  obtain ⟨i0, hi, hz0, hz1, hz2⟩ := info_parts info42
  have HI := Ad.mk (And.intro hi (And.intro hz0 (And.intro hz1 hz2)))
  clear ih hl hQ hi hz0 hz1 hz2
  go_enter Tryz.func68, Tryz.ntmps68
  go_wp2_with fail
  go_loopw [3, 8] (fun v3 v8 wr => ∃ i : Nat, i ≤ l.length ∧ v8 = .int .i64 i ∧ Ad (RowV (fun b => w.heap.size ≤ b) w.heap.size wr v3 (l.take i) ∧ Below w.heap.size w wr)) (fun _ v8 _ => l.length - (intOf v8).toNat)
  case atStart => exact ⟨0, Nat.zero_le _, rfl, ⟨by simpa using RowV.nil _ _ _, Below.refl _ _⟩⟩
  case round =>
    obtain ⟨i, hi, rfl, ⟨hrow, hbw⟩⟩ := hrel
    have HW := Ad.mk hbw
    have HR := Ad.mk hrow
    by_cases hlt : i < l.length
    · obtain ⟨ad, Be, de, rfl, f0, f1, f2, f3, hae⟩ := (HL.out.below hbw).at i hlt
      obtain ⟨x, hx⟩ : ∃ x, l.getD i Val.none = x := ⟨_, rfl⟩
      have hxm : x ∈ l := by rw [← hx, List.getD_eq_getElem?_getD, List.getElem?_eq_getElem hlt]; exact List.getElem_mem _
      rw [hx] at f0 f1 f2 f3 hae
      have HAE := Ad.mk hae
      have HXM := Ad.mk hxm
      have HX := Ad.mk hx
      obtain ⟨ps, hps, hown, hel⟩ := hrow.out
      have hLi : (l.take i).length = i := by simp; omega
      have HLi := Ad.mk hLi
      rw [hLi] at hown
      have HP := Ad.mk hps
      have HO := Ad.mk hown
      have HEL := Ad.mk hel
      have j0 : (0 : Int) ≤ (i : Int) := by omega
      have j1 : (i : Int) < (l.length : Int) := by omega
      have hws := hbw.size
      clear hrow hbw hx hxm hae hps hown hel hLi
      go_wp2_with (first
        | (go_at_call 68; go_must (refine (HIH.out x HXM.out (fun b => b < wr.heap.size) Be de _ (VL.below (below_alloc (Below.refl _ _) _) (HAE.out.l.weak (fun b hb _ => hb))) (fun b hb => by simp; omega)).mono ?_); rintro e3 w3 ⟨v3, rfl, hrow3, hb3⟩; obtain ⟨A3, c3, rfl, hvl3⟩ := hrow3.form; have hp3 := blk_below (blk_new wr (.cells #[.int .i64 x.k, .int .i64 x.n, .string x.s, .slice Be x.items.length de] 42)) hb3; have p0 : w3.cell? ⟨wr.heap.size, 0, none⟩ = some (.int .i64 x.k) := blk_cell hp3 0; have p1 : w3.cell? ⟨wr.heap.size, 1, none⟩ = some (.int .i64 x.n) := blk_cell hp3 1; have p2 : w3.cell? ⟨wr.heap.size, 2, none⟩ = some (.string x.s) := blk_cell hp3 2; have p3 : w3.cell? ⟨wr.heap.size, 3, none⟩ = some (.slice Be x.items.length de) := blk_cell hp3 3; have pf := (fun m => blk_frozen hp3 m); have pl := blk_lt hp3; have hcb := below_then (below_alloc (Below.refl _ wr) (.cells #[.int .i64 x.k, .int .i64 x.n, .string x.s, .slice Be x.items.length de] 42)) hb3; have HCH := Ad.mk ((Chg.of_below (S := (· = wr.heap.size)) hcb).set rfl 3 (.slice A3 x.items.length c3)); have HVL3 := Ad.mk hvl3; have HB3 := Ad.mk hcb; have hb3s := hb3.size; clear hrow3 hvl3 hb3 hp3 hcb)
        | (at_builtin; go_must (refine wpList_append_lies _ rfl _ _ 40 (by rfl) w.heap.size 42 i0 _ 4 56 Tryz.underlying40 HI.out.1 HI.out.2.1 HI.out.2.2.1 HI.out.2.2.2 rfl (by omega) u3 _ _ (by rfl) (own_chg HO.out (HCH.out.alloc _) (fun g hg hs => by have := (own_lt HO.out g hg).2; have hs' : g = wr.heap.size := hs; omega)) ⟨w3.heap.size, 0, none⟩ 1 1 (cellsV x (A3, c3)) (by rfl) rfl (World.news_of_block (blk_new2 (by simp))) (by simp [cellsV, Value.oneCell']) (by omega) (by unfold maxLen; omega) (by omega) (by simp; omega) _ rfl ?_); intro g cp w4 hown4 hgrow hat hlt4; have HOWN := Ad.mk hown4; have HGR := Ad.mk hgrow; have HAT := Ad.mk hat; clear hown4 hgrow hat)
        | fail)
      have hc5 := ((Chg.refl w3 (· = wr.heap.size)).set rfl 3 (.slice A3 x.items.length c3)).alloc (.cells (cellsV x (A3, c3)).toArray 42)
      have hva5 : VA (fun b => wr.heap.size + 1 ≤ b) ((w3.setCell ⟨wr.heap.size, 3, none⟩ (.slice A3 x.items.length c3)).alloc (.cells (cellsV x (A3, c3)).toArray 42)) A3 c3 x := ⟨(HVL3.out.weak (Q' := fun b => wr.heap.size + 1 ≤ b) (fun b _ hq => by simp at hq; omega)).chg hc5 (fun b _ hq he => by have h : b = wr.heap.size := he; omega) (fun _ _ h => h), HAE.out.n, HAE.out.s⟩
      have hsn := RowV.snoc HP.out (fun j hj => (HEL.out j hj).chg (HCH.out.alloc (.cells (cellsV x (A3, c3)).toArray 42)) (fun b hb _ e => by have e' : b = wr.heap.size := e; omega) (fun _ _ h => h)) hva5 (fun b _ hq => ⟨by omega, fun he => by have := (own_lt HO.out b he.symm).2; omega⟩) (by rw [HLi.out]; exact HOWN.out) HGR.out HAT.out (by rw [HLi.out]; omega)
      have hbe := below_chg (below_chg HW.out (HCH.out.alloc (.cells (cellsV x (A3, c3)).toArray 42)) (fun q hq => by have e' : q = wr.heap.size := hq; omega)) (⟨HGR.out.os, HGR.out.tape, HGR.out.output, HGR.out.size, fun i hi hn => HGR.out.block i hi hn⟩ : Chg _ w4 (fun b => some b = u3.ownBlock)) (fun q hq => (own_lt HO.out q hq.symm).1)
      have htk : l.take i ++ [x] = l.take (i + 1) := by rw [List.take_succ_eq_append_getElem hlt, ← HX.out, List.getD_eq_getElem?_getD, List.getElem?_eq_getElem hlt]; rfl
      rw [HLi.out, htk] at hsn
      go_roundw
      case rel => exact ⟨i + 1, by omega, by go_num, ⟨hsn, hbe⟩⟩
      case measure => simp [intOf]; omega
    · have hil : i = l.length := by omega
      subst hil
      clear hrow
      go_wp2_with fail
      go_ret
      have h := HR.out
      rw [List.take_length] at h
      exact ⟨_, rfl, h, HW.out⟩
theorem copies_calls : ∀ (n : Nat) (l : List Val), SizeOf.sizeOf l < n → (∀ x ∈ l, checkP x = 0) → l.length ≤ 6 → ∀ (Q : Nat → Prop) (A : Option Addr) (c : Nat) (w : World), VL Q w A c l → (∀ b, Q b → b < w.heap.size) → Calls Tryz.prog 68 #[.slice A l.length c] w (RetRow (fun b => w.heap.size ≤ b) w l)
  | 0, _, h => absurd h (Nat.not_lt_zero _)
  | n + 1, l, h => fun hv h6 Q A c w hl hQ => copies_step l (fun x hx Q A c w hl hQ => copies_calls n x.items (by have := sizeOf_sub hx; omega) (valid_items (hv x hx)) (valid_f (hv x hx)).l6 Q A c w hl hQ) Q A c w hl hQ h6
end Go.Proofs.YtahnelihohmjfaaGreatDoor.V
namespace Go.Proofs.YtahnelihohmjfaaGreatDoor.V
open Go.RowKit
set_option linter.unusedVariables false
set_option linter.unusedSimpArgs false
theorem info3 : (Tryz.prog.info? 3).map (fun i => (i.zero, i.size, i.bytes)) = some (some (.int .i64 0), 1, 8) := by kernel_rfl
/-- a row of numbers of the call's own -/
def RowN (base : Nat) (w : World) (v : Value) (ls : List Int) : Prop := w.ownsRow base 3 1 v ls.length (ls.map (Value.int .i64)) ∧ ∀ x ∈ ls, I64 x
theorem RowN.form {base : Nat} {w : World} {v : Value} {ls : List Int} (h : RowN base w v ls) (hm : ls.length ≤ 1000) : ∃ B d, v = .slice B ls.length d ∧ LI w B d ls := by
  rcases h.1.2 with ⟨rfl, h0⟩ | ⟨g, cap, cur, rfl, hg, hh, hn, hmm, hs, ht⟩
  · exact ⟨none, 0, by rw [h0], ⟨by omega, by omega, fun hp => absurd hp (by omega)⟩⟩
  · refine ⟨_, _, rfl, ⟨hn, by omega, fun hp => ⟨_, rfl, fun i hi => ⟨?_, ?_⟩⟩⟩⟩
    · have e1 : (ls.map (Value.int .i64))[i]? = some (.int .i64 (ls.getD i 0)) := by simp [List.getD_eq_getElem?_getD, hi]
      rw [← ht, List.getElem?_take, if_pos (by omega)] at e1
      have e2 := blk_cell hh i
      rw [← Array.getElem?_toList, e1] at e2
      rw [add_plain]
      exact e2
    · rw [List.getD_eq_getElem?_getD, List.getElem?_eq_getElem hi]
      exact h.2 _ (List.getElem_mem _)
theorem RowN.below {base : Nat} {w w' : World} {v : Value} {ls : List Int} (h : RowN base w v ls) (hb : Below w.heap.size w w') : RowN base w' v ls := ⟨own_chg h.1 (Chg.of_below (S := fun _ => False) hb) (fun _ _ h => h), h.2⟩
def RetN (w : World) (ls : List Int) (e : Ending) (w' : World) : Prop := ∃ v, e = .returned v ∧ RowN w.heap.size w' v ls ∧ Below w.heap.size w w'
set_option maxHeartbeats 4000000 in
theorem cloneI_calls (A : Option Addr) (c : Nat) (l : List Int) (w : World) (hl : LI w A c l) (hn : l.length ≤ 1000) :
    Calls Tryz.prog 69 #[.slice A l.length c] w (RetN w l) := by
  obtain ⟨i0, hi, hz0, hz1, hz2⟩ := info_parts info3
  have HI := Ad.mk (And.intro hi (And.intro hz0 (And.intro hz1 hz2)))
  clear hi hz0 hz1 hz2
  have hnil := Lib.run_eql_slice_nil (P := Tryz.prog)
  cases A with
  | none =>
    have hl0 : l = [] := by
      rcases Nat.eq_zero_or_pos l.length with h | h
      · exact List.eq_nil_of_length_eq_zero h
      · obtain ⟨ad, e, _⟩ := hl.h h
        cases e
    subst hl0
    clear hl
    go_enter Tryz.func69, Tryz.ntmps69
    go_wp2_with fail
    go_ret
    exact ⟨_, rfl, ⟨World.ownsRow_nil _ _ _ _, fun x h => absurd h (by simp)⟩, Below.refl _ _⟩
  | some ad =>
    cases l with
    | nil =>
      go_enter Tryz.func69, Tryz.ntmps69
      go_wp2_with fail
      go_ret
      exact ⟨_, rfl, ⟨⟨rfl, .inr ⟨w.heap.size, 0, #[], rfl, Nat.le_refl _, blk_new _ _, Nat.le_refl _, by unfold maxLen; omega, rfl, rfl⟩⟩, fun x h => absurd h (by simp)⟩, below_alloc (Below.refl _ _) _⟩
    | cons x r =>
      obtain ⟨l, hle⟩ : ∃ l, x :: r = l := ⟨_, rfl⟩
      have hpos : 0 < l.length := by rw [← hle]; simp
      rw [hle] at hn hl ⊢
      obtain ⟨ad', had, hcell⟩ := hl.h hpos
      injection had with had
      subst had
      have HC := Ad.mk hcell
      have hcl := hl.c
      clear hcell hle hl
      go_enter Tryz.func69, Tryz.ntmps69
      go_wp2_with (at_builtin; go_must (refine wpList_append_lies _ rfl _ _ 43 (by rfl) w.heap.size 3 i0 _ 1 8 Tryz.underlying43 HI.out.1 HI.out.2.1 HI.out.2.2.1 HI.out.2.2.2 rfl (by omega) (.slice (some ⟨w.heap.size, 0, none⟩) 0 0) 0 [] (by rfl) ⟨rfl, .inr ⟨w.heap.size, 0, #[], rfl, Nat.le_refl _, blk_new _ _, Nat.le_refl _, by unfold maxLen; omega, rfl, rfl⟩⟩ ad l.length c (l.map (Value.int .i64)) (by rfl) (by simp) (fun j u h => by obtain ⟨y, hy, rfl⟩ := List.getElem?_map .. ▸ h |> Option.map_eq_some_iff.1; have hj := (List.getElem?_eq_some_iff.1 hy).1; have := (HC.out j hj).1; rw [List.getD_eq_getElem?_getD, hy] at this; exact cell_below (below_alloc (Below.refl _ _) _) this) (by simp [Value.oneCell']) hpos (by unfold maxLen; omega) (by omega) (by simp) _ rfl ?_); intro g cp w2 hown2 hgrow hat hlt2)
      go_ret
      have hbw : Below w.heap.size w w2 := (below_alloc (Below.refl _ _) _).grown hgrow (by simp) (fun k hk => by simp [Value.ownBlock] at hk; omega)
      simp only [Nat.zero_add, List.nil_append] at hown2
      refine ⟨_, rfl, ⟨hown2, fun x hx => ?_⟩, hbw⟩
      obtain ⟨i, hi, rfl⟩ := List.mem_iff_getElem.1 hx
      have := (HC.out i hi).2
      rwa [List.getD_eq_getElem?_getD, List.getElem?_eq_getElem hi] at this
end Go.Proofs.YtahnelihohmjfaaGreatDoor.V
namespace Go.Proofs.YtahnelihohmjfaaGreatDoor.V
open Go.RowKit
set_option linter.unusedVariables false
set_option linter.unusedSimpArgs false
def recV (key : ByteArray) (v : Val) (A : Option Addr) (c : Nat) (B : Value) : Value := .agg #[.string key, .int .i64 v.k, .int .i64 v.n, .string v.s, .slice A v.items.length c, B]
/-- a record in new memory: its counters are a row of the call's own -/
def RetR (w : World) (key : ByteArray) (v : Val) (ls : List Int) (e : Ending) (w' : World) : Prop := ∃ A c B, e = .returned (.agg #[.string key, .int .i64 v.k, .int .i64 v.n, .string v.s, .slice A v.items.length c, B]) ∧ RowN w.heap.size w' B ls ∧ VA (fun b => w.heap.size ≤ b ∧ some b ≠ B.ownBlock) w' A c v ∧ Below w.heap.size w w'
theorem rec_fin {W : World} {b t : Nat} {c0 c1 c2 c3 c4 c5 : Value} {fn : Func} {A : Act} {R : Ending → World → Prop} (hfn : fn.results = #[.cell t 45]) (ha : A.tmps.getD t undef = .pointer (some ⟨b, 0, Option.none⟩)) (hd : A.defers = [])
    (h0 : W.heap[b]? = some (.cells #[c0, c1, c2, c3, c4, c5] 45 (0, 0))) (hR : R (.returned (.agg #[c0, c1, c2, c3, c4, c5])) W) : bodyPost Tryz.prog fn R .ret A W := by
  have g0 := blk_cell h0 0
  have g1 := blk_cell h0 1
  have g2 := blk_cell h0 2
  have g3 := blk_cell h0 3
  have g4 := blk_cell h0 4
  have g5 := blk_cell h0 5
  simp at g0 g1 g2 g3 g4 g5
  refine ⟨hd, .agg #[c0, c1, c2, c3, c4, c5], ?_, hR⟩
  rw [Array.getD_eq_getD_getElem?] at ha
  simp [results, hfn, ha, go_sem, g0, g1, g2, g3, g4, g5]
theorem RowN.base {base base' : Nat} {w : World} {v : Value} {ls : List Int} (h : RowN base w v ls) (hb : base' ≤ base) : RowN base' w v ls := by
  refine ⟨⟨h.1.1, ?_⟩, h.2⟩
  rcases h.1.2 with h4 | ⟨g, cap, cur, h4, h5, r⟩
  · exact .inl h4
  · exact .inr ⟨g, cap, cur, h4, Nat.le_trans hb h5, r⟩
set_option maxHeartbeats 8000000 in
set_option maxRecDepth 100000 in
theorem copiedRec_calls (key : ByteArray) (v : Val) (ls : List Int) (A B : Option Addr) (c d : Nat) (Q : Nat → Prop) (w : World) (hv : VA Q w A c v) (hQ : ∀ b, Q b → b < w.heap.size) (hok : checkP v = 0) (hl : LI w B d ls) (hln : ls.length ≤ 1000) :
    Calls Tryz.prog 44 #[.agg #[.string key, .int .i64 v.k, .int .i64 v.n, .string v.s, .slice A v.items.length c, .slice B ls.length d]] w (RetR w key v ls) := by
  have HV := Ad.mk hv
  have HQ := Ad.mk hQ
  have HOK := Ad.mk hok
  have HL := Ad.mk hl
  clear hv hQ hok hl
  go_enter Tryz.func44, Tryz.ntmps44
  go_wp2_with (first
    | (go_at_call 68; go_must (refine (copies_calls _ _ (Nat.lt_succ_self _) (valid_items HOK.out) (valid_f HOK.out).l6 Q A c _ (HV.out.l.below (below_alloc (below_alloc (Below.refl _ _) _) _)) (fun b hb => by have := HQ.out b hb; simp; omega)).mono ?_); rintro e1 w1 ⟨u1, rfl, hrow1, hb1⟩; obtain ⟨A1, c1, rfl, hvl1⟩ := hrow1.form; have hx1 := blk_below (blk_alloc (blk_new w (.cells #[.string key, .int .i64 v.k, .int .i64 v.n, .string v.s, .slice A v.items.length c, .slice B ls.length d] 45)) _) hb1; have hy1 := blk_below (blk_new2 (g := w.heap.size + 1) (by simp)) hb1; have s0 : w1.cell? ⟨w.heap.size, 0, none⟩ = some (.string key) := blk_cell hx1 0; have s1 : w1.cell? ⟨w.heap.size, 1, none⟩ = some (.int .i64 v.k) := blk_cell hx1 1; have s2 : w1.cell? ⟨w.heap.size, 2, none⟩ = some (.int .i64 v.n) := blk_cell hx1 2; have s3 : w1.cell? ⟨w.heap.size, 3, none⟩ = some (.string v.s) := blk_cell hx1 3; have s4 : w1.cell? ⟨w.heap.size, 4, none⟩ = some (.slice A v.items.length c) := blk_cell hx1 4; have s5 : w1.cell? ⟨w.heap.size, 5, none⟩ = some (.slice B ls.length d) := blk_cell hx1 5; have sf := (fun m => blk_frozen hx1 m); have sl := blk_lt hx1; have X1 := Ad.mk hx1; have Y1 := Ad.mk hy1; have HVL1 := Ad.mk hvl1; have hcs := (Chg.refl w1 (· = w.heap.size)).set rfl 4 (.slice A1 v.items.length c1); have HBS := Ad.mk (below_chg (below_then (below_alloc (below_alloc (Below.refl w.heap.size w) _) _) hb1) hcs (fun q hq => Nat.le_of_eq (Eq.symm hq))); have XS := Ad.mk (blk_put hx1 4 (.slice A1 v.items.length c1) rfl); have YS := Ad.mk ((hcs.block (w.heap.size + 1) (blk_lt hy1) (by omega)).trans hy1); have HVS := Ad.mk (hvl1.chg (Q' := fun b => w.heap.size + 1 < b) hcs (fun b _ hq he => by simp at hq; omega) (fun b _ hq => by simp at hq; omega)); have HB1 := Ad.mk hb1; clear hcs hrow1 hvl1 hb1 hx1 hy1)
    | (go_at_call 69; go_must (refine (cloneI_calls B d ls _ (HL.out.below HBS.out) hln).mono ?_); rintro e2 w2 ⟨u2, rfl, hrow2, hb2⟩; have hx2 := blk_below XS.out hb2; have hy2 := blk_below YS.out hb2; have t0 : w2.cell? ⟨w.heap.size, 0, none⟩ = some (.string key) := blk_cell hx2 0; have t1 : w2.cell? ⟨w.heap.size, 1, none⟩ = some (.int .i64 v.k) := blk_cell hx2 1; have t2 : w2.cell? ⟨w.heap.size, 2, none⟩ = some (.int .i64 v.n) := blk_cell hx2 2; have t3 : w2.cell? ⟨w.heap.size, 3, none⟩ = some (.string v.s) := blk_cell hx2 3; have t4 : w2.cell? ⟨w.heap.size, 4, none⟩ = some (.slice A1 v.items.length c1) := blk_cell hx2 4; have t5 : w2.cell? ⟨w.heap.size, 5, none⟩ = some (.slice B ls.length d) := blk_cell hx2 5; have tf := (fun m => blk_frozen hx2 m); have tl := blk_lt hx2; have y0 := blk_cell hy2 0; have y1 := blk_cell hy2 1; have y2 := blk_cell hy2 2; have y3 := blk_cell hy2 3; have y4 := blk_cell hy2 4; have y5 := blk_cell hy2 5; have yf := (fun m => blk_frozen hy2 m); have yl := blk_lt hy2; simp at y0 y1 y2 y3 y4 y5; have X2 := Ad.mk hx2; have Y2 := Ad.mk hy2; have HR2 := Ad.mk hrow2; have HB2 := Ad.mk hb2; obtain ⟨B2, d2, rfl, _⟩ := hrow2.form hln; clear hrow2 hb2 hx2 hy2)
    | fail)
  have hc3 := (((((((Chg.refl w2 (fun q => q = w.heap.size ∨ q = w.heap.size + 1)).set (.inl rfl) 5 (.slice B2 ls.length d2)).set (.inr rfl) 0 (.string key)).set (.inr rfl) 1 (.int .i64 v.k)).set (.inr rfl) 2 (.int .i64 v.n)).set (.inr rfl) 3 (.string v.s)).set (.inr rfl) 4 (.slice A1 v.items.length c1)).set (.inr rfl) 5 (.slice B2 ls.length d2)
  have hys := blk_lt YS.out
  have hws := HBS.out.size
  have hown := HR2.out.base (base' := w.heap.size) hws
  refine rec_fin rfl rfl rfl (blk_put (blk_put (blk_put (blk_put (blk_put (blk_put (blk_far Y2.out (a := ⟨w.heap.size, 5, none⟩) (by simp) (.slice B2 ls.length d2)) 0 _ rfl) 1 _ rfl) 2 _ rfl) 3 _ rfl) 4 _ rfl) 5 _ rfl) ⟨A1, c1, _, rfl, ⟨own_chg hown.1 hc3 (fun q hq hs => by have := (own_lt HR2.out.1 q hq).1; omega), hown.2⟩, ?_, below_chg (below_then HBS.out HB2.out) hc3 (fun q hq => by omega)⟩
  have hvl : VL (fun b => w.heap.size ≤ b ∧ some b ≠ (Value.slice B2 ls.length d2).ownBlock) _ A1 c1 v.items := (((HVS.out.weak (Q' := fun b => w.heap.size + 1 < b ∧ some b ≠ (Value.slice B2 ls.length d2).ownBlock) (fun b hb hq => ⟨hq, fun he => by have := (own_lt HR2.out.1 b he.symm).1; omega⟩)).below HB2.out).chg hc3 (fun b _ hq he => by omega) (fun b _ hq => ⟨by omega, hq.2⟩))
  exact ⟨hvl, HV.out.n, HV.out.s⟩
end Go.Proofs.YtahnelihohmjfaaGreatDoor.V
namespace Go.Proofs.YtahnelihohmjfaaGreatDoor.V
open Go.RowKit
set_option linter.unusedVariables false
set_option linter.unusedSimpArgs false
theorem info50 : (Tryz.prog.info? 50).map (fun i => (i.zero, i.size, i.bytes)) = some (some (.agg #[.int .i64 0, .string ⟨#[]⟩, .int .i64 0, .int .i64 0, .string ⟨#[]⟩, .slice none 0 0, .slice none 0 0]), 7, 104) := by kernel_rfl
/-- one record is sent -/
structure Sent (w w' : World) (b : Nat) (num : Int) (mm : Option Nat) (out : Int) (key : ByteArray) (v : Val) (ls : List Int) (g cap : Nat) (A : Option Addr) (c : Nat) (B : Value) : Prop where
  kb : w'.heap[b]? = some (.cells #[.int .i64 num, .map mm, .slice (some ⟨g, 0, none⟩) 1 cap] 116 (0, 0))
  own : w'.ownsRow w.heap.size 50 7 (.slice (some ⟨g, 0, none⟩) 1 cap) 1 [.int .i64 out, .string key, .int .i64 v.k, .int .i64 v.n, .string v.s, .slice A v.items.length c, B]
  row : RowN w.heap.size w' B ls
  va : VA (fun q => w.heap.size ≤ q ∧ some q ≠ B.ownBlock) w' A c v
  ch : Chg w w' (· = b)
set_option maxHeartbeats 8000000 in
set_option maxRecDepth 100000 in
theorem send_calls (b : Nat) (num : Int) (mm : Option Nat) (out : Int) (key : ByteArray) (v : Val) (ls : List Int) (A B : Option Addr) (c d : Nat) (Q : Nat → Prop) (w : World) (hb : w.heap[b]? = some (.cells #[.int .i64 num, .map mm, .slice none 0 0] 116 (0, 0))) (hv : VA Q w A c v) (hQ : ∀ b, Q b → b < w.heap.size) (hok : checkP v = 0) (hl : LI w B d ls) (hln : ls.length ≤ 1000) :
    Calls Tryz.prog 247 #[.pointer (some ⟨b, 0, none⟩), .int .i64 out, .agg #[.string key, .int .i64 v.k, .int .i64 v.n, .string v.s, .slice A v.items.length c, .slice B ls.length d]] w (fun e w' => e = .returned (.tuple #[]) ∧ ∃ g cap A c B, Sent w w' b num mm out key v ls g cap A c B) := by
  obtain ⟨i0, hi, hz0, hz1, hz2⟩ := info_parts info50
  have HI := Ad.mk (And.intro hi (And.intro hz0 (And.intro hz1 hz2)))
  have HEN := Ad.mk (enters Tryz.func44 (by kernel_rfl) (by kernel_rfl))
  have HV := Ad.mk hv
  have HQ := Ad.mk hQ
  have HOK := Ad.mk hok
  have HL := Ad.mk hl
  have HB := Ad.mk hb
  have hbl := blk_lt hb
  clear hi hz0 hz1 hz2 hv hQ hok hl hb
  go_enter Tryz.func247, Tryz.ntmps247
  go_upto_region 1 with (fail)
  have HBA := Ad.mk (below_alloc (Below.refl _ w) (.cells #[.string key, .int .i64 v.k, .int .i64 v.n, .string v.s, .slice A v.items.length c, .slice B ls.length d] 45))
  have HX := Ad.mk (blk_new w (.cells #[.string key, .int .i64 v.k, .int .i64 v.n, .string v.s, .slice A v.items.length c, .slice B ls.length d] 45))
  have hsz : (w.alloc (.cells #[.string key, .int .i64 v.k, .int .i64 v.n, .string v.s, .slice A v.items.length c, .slice B ls.length d] 45)).heap.size = w.heap.size + 1 := by simp
  generalize w.alloc (.cells #[.string key, .int .i64 v.k, .int .i64 v.n, .string v.s, .slice A v.items.length c, .slice B ls.length d] 45) = W at HBA HX hsz ⊢
  have HSZ := Ad.mk hsz
  have HBW := Ad.mk (blk_below HB.out HBA.out)
  have c2 : W.cell? ⟨b, 2, none⟩ = some (.slice none 0 0) := blk_cell HBW.out 2
  have x0 : W.cell? ⟨w.heap.size, 0, none⟩ = some (.string key) := blk_cell HX.out 0
  have x1 : W.cell? ⟨w.heap.size, 1, none⟩ = some (.int .i64 v.k) := blk_cell HX.out 1
  have x2 : W.cell? ⟨w.heap.size, 2, none⟩ = some (.int .i64 v.n) := blk_cell HX.out 2
  have x3 : W.cell? ⟨w.heap.size, 3, none⟩ = some (.string v.s) := blk_cell HX.out 3
  have x4 : W.cell? ⟨w.heap.size, 4, none⟩ = some (.slice A v.items.length c) := blk_cell HX.out 4
  have x5 : W.cell? ⟨w.heap.size, 5, none⟩ = some (.slice B ls.length d) := blk_cell HX.out 5
  have HBD := Ad.mk (below_then HBA.out (Below.refl W.heap.size W).drew)
  have HDD := Ad.mk (Below.refl W.heap.size W).drew
  have HQD : Ad (∀ b, Q b → b < W.drew.heap.size) := ⟨fun q h => by have := HQ.out q h; have : W.drew.heap.size = W.heap.size := rfl; omega⟩
  have hbW := blk_lt HBW.out
  clear hsz
  go_region_law (first
    | (refine step_calls rfl 44 _ _ rfl HEN.out _ (by rfl) ?_; (refine (copiedRec_calls key v ls A B c d Q _ (HV.out.below HBD.out) HQD.out HOK.out (HL.out.below HBD.out) hln).mono ?_); rintro e3 w3 ⟨A3, c3, B3, rfl, hr3, hva3, hb3⟩; have hb3' := below_then HDD.out hb3; have HR3 := Ad.mk hr3; have HVA3 := Ad.mk hva3; have HB3 := Ad.mk hb3'; obtain ⟨B3', d3, rfl, _⟩ := hr3.form hln; have hbb3 := blk_below HBW.out hb3'; have HBB3 := Ad.mk hbb3; have y2 : w3.cell? ⟨b, 2, none⟩ = some (.slice none 0 0) := blk_cell hbb3 2; have y3 := cell_below hb3' x0; have y4 := cell_below hb3' x1; have y5 := cell_below hb3' x2; have y6 := cell_below hb3' x3; have y7 := cell_below hb3' x4; have y8 := cell_below hb3' x5; have yf := (fun m => blk_frozen hbb3 m); have yl := blk_lt hbb3; clear hr3 hva3 hb3 hb3' hbb3)
    | ((refine step_append_lies _ rfl _ _ 37 (by rfl) w.heap.size 50 i0 _ 7 104 Tryz.underlying37 HI.out.1 HI.out.2.1 HI.out.2.2.1 HI.out.2.2.2 rfl (by omega) (.slice none 0 0) 0 [] (by rfl) (World.ownsRow_nil _ _ _ _) ⟨w3.heap.size, 0, none⟩ 1 1 [.int .i64 out, .string key, .int .i64 v.k, .int .i64 v.n, .string v.s, .slice A3 v.items.length c3, .slice B3' ls.length d3] (by rfl) rfl (World.news_of_block (blk_new _ _)) (by simp [Value.oneCell']) (by omega) (by unfold maxLen; omega) (by omega) (by have := HB3.out.size; have := HBA.out.size; simp; omega) _ rfl ?_); intro g cp w4 hown4 hgrow hat hlt4; have HOWN := Ad.mk hown4; have HGR := Ad.mk hgrow; have HAT := Ad.mk hat; have hb4 : Below w3.heap.size w3 w4 := ⟨hgrow.os, hgrow.tape, hgrow.output, (by have := hgrow.size; simp at this; omega), fun i hi => (hgrow.block i (by simp; omega) (by simp [Value.ownBlock])).trans ((below_alloc (Below.refl _ w3) _).block i hi)⟩; have HB4 := Ad.mk hb4; have hbb4 := blk_below HBB3.out hb4; have HBB4 := Ad.mk hbb4; have z2 : w4.cell? ⟨b, 2, none⟩ = some (.slice none 0 0) := blk_cell hbb4 2; have z3 := cell_below hb4 y3; have z4 := cell_below hb4 y4; have z5 := cell_below hb4 y5; have z6 := cell_below hb4 y6; have z7 := cell_below hb4 y7; have z8 := cell_below hb4 y8; have zf := (fun m => blk_frozen hbb4 m); have zl := blk_lt hbb4; have zw := Nat.lt_of_lt_of_le (blk_lt HX.out) (Nat.le_trans HB3.out.size hb4.size); have far : ∀ (x : Value) (o : Nat) (u : Value), w4.cell? ⟨w.heap.size, o, none⟩ = some u → (w4.setCell ⟨b, 2, none⟩ x).cell? ⟨w.heap.size, o, none⟩ = some u := (fun x o u h => ((ccell ((Chg.refl w4 (· = b)).set rfl 2 x)).1 w.heap.size o zw (by omega)).trans h); clear hown4 hgrow hat hb4 hbb4)
    | fail)
  all_goals
    go_wp2_with fail
    go_end0
    have hc := (Chg.refl w4 (· = b)).set rfl 2 (.slice (some ⟨g, 0, none⟩) 1 cp)
    have hws := HBD.out.size
    have hw3 := HB3.out.size
    have hsz := HSZ.out
    have hg : w3.heap.size ≤ g := by
      rcases HAT.out with h | h
      · simp [Value.ownBlock] at h
      · simp at h; omega
    refine ⟨rfl, g, cp, A3, c3, .slice B3' ls.length d3, blk_put HBB4.out 2 _ rfl, ?_, ?_, ?_, ((Chg.of_below (S := (· = b)) (below_then HBA.out HB3.out)).trans (Chg.of_below HB4.out)).trans hc⟩
    · exact own_chg (by simpa using HOWN.out) hc (fun q hq hs => by simp [Value.ownBlock] at hq; have h : q = b := hs; omega)
    · have h := (HR3.out.base (base' := w.heap.size) (by have : W.drew.heap.size = W.heap.size := rfl; omega)).below HB4.out
      exact ⟨own_chg h.1 hc (fun q hq hs => by have := (own_lt HR3.out.1 q hq).1; have h : q = b := hs; have : W.drew.heap.size = W.heap.size := rfl; omega), h.2⟩
    · exact (HVA3.out.below HB4.out).chg hc (fun q _ hq hs => by have h : q = b := hs; have := hq.1; have : W.drew.heap.size = W.heap.size := rfl; omega) (fun q _ hq => ⟨by have := hq.1; have : W.drew.heap.size = W.heap.size := rfl; omega, hq.2⟩)
end Go.Proofs.YtahnelihohmjfaaGreatDoor.V
namespace Go.Proofs.YtahnelihohmjfaaGreatDoor.V
open Go.RowKit
set_option linter.unusedVariables false
set_option linter.unusedSimpArgs false
/-- what an operator's work leaves: one record sent; the row of the counters that came in may have changed -/
def Worked (w : World) (b : Nat) (B0 : Value) (num : Int) (mm : Option Nat) (out : Int) (key : ByteArray) (v : Val) (ls : List Int) (e : Ending) (w' : World) : Prop :=
  e = .returned (.tuple #[]) ∧ ∃ g cap A c B, w'.heap[b]? = some (.cells #[.int .i64 num, .map mm, .slice (some ⟨g, 0, none⟩) 1 cap] 116 (0, 0)) ∧ w'.ownsRow w.heap.size 50 7 (.slice (some ⟨g, 0, none⟩) 1 cap) 1 [.int .i64 out, .string key, .int .i64 v.k, .int .i64 v.n, .string v.s, .slice A v.items.length c, B] ∧ RowN w.heap.size w' B ls ∧ VA (fun q => w.heap.size ≤ q ∧ some q ≠ B.ownBlock) w' A c v ∧ Chg w w' (fun q => q = b ∨ some q = B0.ownBlock)
/-- from a later world -/
theorem Worked.of {w w1 w' : World} {b : Nat} {B0 : Value} {num : Int} {mm : Option Nat} {out : Int} {key : ByteArray} {v : Val} {ls : List Int} {g cap c : Nat} {A : Option Addr} {B : Value} (h : Sent w1 w' b num mm out key v ls g cap A c B) (hc : Chg w w1 (fun q => q = b ∨ some q = B0.ownBlock)) : Worked w b B0 num mm out key v ls (.returned (.tuple #[])) w' := by
  have hs := hc.size
  refine ⟨rfl, g, cap, A, c, B, h.kb, ?_, h.row.base hs, h.va.weak (fun q _ hq => ⟨Nat.le_trans hs hq.1, hq.2⟩), hc.trans (h.ch.sub (fun q _ hq => .inl hq))⟩
  refine ⟨h.own.1, ?_⟩
  rcases h.own.2 with h4 | ⟨g', cap', cur, h4, h5, r⟩
  · exact .inl h4
  · exact .inr ⟨g', cap', cur, h4, Nat.le_trans hs h5, r⟩
set_option maxHeartbeats 8000000 in
set_option maxRecDepth 100000 in
theorem head_work (b : Nat) (num : Int) (mm : Option Nat) (port : Int) (key : ByteArray) (v : Val) (ls : List Int) (A B : Option Addr) (c d base : Nat) (Q : Nat → Prop) (w : World) (hb : w.heap[b]? = some (.cells #[.int .i64 num, .map mm, .slice none 0 0] 116 (0, 0))) (hv : VA Q w A c v) (hQ : ∀ q, Q q → q < w.heap.size ∧ some q ≠ (Value.slice B ls.length d).ownBlock) (hok : checkP v = 0) (hl : RowN base w (.slice B ls.length d) ls) (hbB : (Value.slice B ls.length d).ownBlock ≠ some b) (hbase : base ≤ w.heap.size) (hln : ls.length ≤ 100) :
    Calls Tryz.prog 265 #[.agg #[], .pointer (some ⟨b, 0, none⟩), .int .i64 port, .agg #[.string key, .int .i64 v.k, .int .i64 v.n, .string v.s, .slice A v.items.length c, .slice B ls.length d]] w (Worked w b (.slice B ls.length d) num mm 0 key v (if port = 0 ∧ ls.length < 3 then ls ++ [0] else ls)) := by
  obtain ⟨i0, hi, hz0, hz1, hz2⟩ := info_parts info3
  have HI := Ad.mk (And.intro hi (And.intro hz0 (And.intro hz1 hz2)))
  have HV := Ad.mk hv
  have HQ := Ad.mk hQ
  have HOK := Ad.mk hok
  have HL := Ad.mk hl
  have HB := Ad.mk hb
  have HNB := Ad.mk hbB
  have hbl := blk_lt hb
  obtain ⟨LS, hLS⟩ : ∃ LS, (if port = 0 ∧ ls.length < 3 then ls ++ [0] else ls) = LS := ⟨_, rfl⟩
  rw [hLS]
  have HLS := Ad.mk hLS
  clear hi hz0 hz1 hz2 hv hQ hok hl hb hbB hLS
  go_enter Tryz.func265, Tryz.ntmps265
  go_upto_region 1 with (fail)
  have HBA := Ad.mk (below_alloc (below_alloc (Below.refl w.heap.size w) (.cells #[] 161)) (.cells #[.string key, .int .i64 v.k, .int .i64 v.n, .string v.s, .slice A v.items.length c, .slice B ls.length d] 45))
  have HX := Ad.mk (blk_new2 (w := w.alloc (.cells #[] 161)) (o := (.cells #[.string key, .int .i64 v.k, .int .i64 v.n, .string v.s, .slice A v.items.length c, .slice B ls.length d] 45)) (g := w.heap.size + 1) (by simp))
  have hsz : ((w.alloc (.cells #[] 161)).alloc (.cells #[.string key, .int .i64 v.k, .int .i64 v.n, .string v.s, .slice A v.items.length c, .slice B ls.length d] 45)).heap.size = w.heap.size + 1 + 1 := by simp
  generalize (w.alloc (.cells #[] 161)).alloc (.cells #[.string key, .int .i64 v.k, .int .i64 v.n, .string v.s, .slice A v.items.length c, .slice B ls.length d] 45) = W at HBA HX hsz ⊢
  have HSZ := Ad.mk hsz
  have HBW := Ad.mk (blk_below HB.out HBA.out)
  have x0 : W.cell? ⟨w.heap.size + 1, 0, none⟩ = some (.string key) := blk_cell HX.out 0
  have x1 : W.cell? ⟨w.heap.size + 1, 1, none⟩ = some (.int .i64 v.k) := blk_cell HX.out 1
  have x2 : W.cell? ⟨w.heap.size + 1, 2, none⟩ = some (.int .i64 v.n) := blk_cell HX.out 2
  have x3 : W.cell? ⟨w.heap.size + 1, 3, none⟩ = some (.string v.s) := blk_cell HX.out 3
  have x4 : W.cell? ⟨w.heap.size + 1, 4, none⟩ = some (.slice A v.items.length c) := blk_cell HX.out 4
  have x5 : W.cell? ⟨w.heap.size + 1, 5, none⟩ = some (.slice B ls.length d) := blk_cell HX.out 5
  have xf := fun m => blk_frozen HX.out m
  have xl := blk_lt HX.out
  have HQL : Ad (∀ q, Q q → q < W.heap.size) := ⟨fun q h => by have := (HQ.out q h).1; omega⟩
  have HLI : Ad (LI W B d ls) := ⟨by
    obtain ⟨B', d', he, hli⟩ := (HL.out.below HBA.out).form (by omega)
    injection he with e1 e2 e3
    subst e1 e3
    exact hli⟩
  have hbW := blk_lt HBW.out
  clear hsz
  by_cases hp : port = 0 ∧ ls.length < 3
  · have hp0 := hp.1
    subst hp0
    have h3 := hp.2
    have j1 : (ls.length : Int) < 3 := by omega
    have HLE : Ad (LS = ls ++ [0]) := ⟨by rw [← HLS.out, if_pos hp]⟩
    clear h3 hp HLS
    go_wp2_with (first
      | (at_builtin; go_must (refine wpList_append_lies _ rfl _ _ 43 (by rfl) base 3 i0 _ 1 8 Tryz.underlying43 HI.out.1 HI.out.2.1 HI.out.2.2.1 HI.out.2.2.2 rfl (by omega) (.slice B ls.length d) ls.length (ls.map (Value.int .i64)) (by rfl) (own_chg HL.out.1 (Chg.of_below (S := fun _ => False) (below_then HBA.out (below_alloc (Below.refl _ _) _))) (fun _ _ h => h)) ⟨W.heap.size, 0, none⟩ 1 1 [.int .i64 0] (by rfl) rfl (World.news_of_block (blk_new _ _)) (by simp [Value.oneCell']) (by omega) (by unfold maxLen; omega) (by omega) (by simp; omega) _ rfl ?_); intro g2 cp w4 hown4 hgrow hat hlt4; have HOWN := Ad.mk hown4; have HGR := Ad.mk hgrow; have HAT := Ad.mk hat; have hc4 : Chg W w4 (fun q => some q = (Value.slice B ls.length d).ownBlock) := (Chg.of_below (below_alloc (Below.refl W.heap.size W) (.cells #[.int .i64 0] 3))).trans ⟨hgrow.os, hgrow.tape, hgrow.output, hgrow.size, fun i hi hn => hgrow.block i hi hn⟩; have HC4 := Ad.mk hc4; have hx4 := (hc4.block (w.heap.size + 1) xl (fun e => by have := (own_lt HL.out.1 _ e.symm).2; omega)).trans HX.out; have z0 : w4.cell? ⟨w.heap.size + 1, 0, none⟩ = some (.string key) := blk_cell hx4 0; have z1 : w4.cell? ⟨w.heap.size + 1, 1, none⟩ = some (.int .i64 v.k) := blk_cell hx4 1; have z2 : w4.cell? ⟨w.heap.size + 1, 2, none⟩ = some (.int .i64 v.n) := blk_cell hx4 2; have z3 : w4.cell? ⟨w.heap.size + 1, 3, none⟩ = some (.string v.s) := blk_cell hx4 3; have z4 : w4.cell? ⟨w.heap.size + 1, 4, none⟩ = some (.slice A v.items.length c) := blk_cell hx4 4; have z5 : w4.cell? ⟨w.heap.size + 1, 5, none⟩ = some (.slice B ls.length d) := blk_cell hx4 5; have zf := (fun m => blk_frozen hx4 m); have zl := blk_lt hx4; clear hown4 hgrow hat hc4 hx4)
      | fail)
    have hcp := (Chg.refl w4 (· = w.heap.size + 1)).set rfl 5 (.slice (some ⟨g2, 0, none⟩) (ls.length + 1) cp)
    have hc5 : Chg W _ (fun q => q = w.heap.size + 1 ∨ some q = (Value.slice B ls.length d).ownBlock) := (HC4.out.sub (fun q _ hq => .inr hq)).trans (hcp.sub (fun q _ hq => .inl hq))
    have hown := HL.out.1
    have hg2 : g2 ≠ w.heap.size + 1 := by
      have h1 := HSZ.out
      rcases HAT.out with h | h
      · have := (own_lt hown g2 h).2; omega
      · simp at h; omega
    have hb5 := (hc5.block b hbW (fun e => by rcases e with e | e; omega; exact HNB.out e.symm)).trans HBW.out
    have hva5 := (HV.out.below HBA.out).chg (Q' := Q) hc5 (fun q _ hq e => by have h := HQ.out q hq; rcases e with e | e; omega; exact h.2 e) (fun _ _ h => h)
    have hrow5 : RowN base _ (.slice (some ⟨g2, 0, none⟩) (ls.length + 1) cp) (ls ++ [0]) := ⟨own_chg (by simpa using HOWN.out) hcp (fun q hq hs => by simp [Value.ownBlock] at hq; have h : q = w.heap.size + 1 := hs; omega), fun x hx => by rcases List.mem_append.1 hx with h | h; exact HL.out.2 x h; simp at h; subst h; simp [I64]⟩
    have hlen : (ls ++ [0]).length = ls.length + 1 := by simp
    obtain ⟨B', d', he, hli⟩ := hrow5.form (by omega)
    rw [hlen] at he
    injection he with e1 e2 e3
    subst e1 e3
    have hsend := send_calls b num mm 0 key v (ls ++ [0]) A (some ⟨g2, 0, none⟩) c cp Q _ hb5 hva5 (fun q hq => Nat.lt_of_lt_of_le (HQL.out q hq) hc5.size) HOK.out hli (by omega)
    rw [hlen] at hsend
    have HC5 := Ad.mk hc5
    refine hsend.mono ?_
    rintro e5 w5 ⟨rfl, g5, cap5, A5, c5, B5, hs5⟩
    have HS5 := Ad.mk hs5
    clear hs5 hsend hli hrow5 hva5 hb5 hcp hc5
    go_wp2_with fail
    go_end0
    rw [HLE.out]
    exact Worked.of HS5.out ((Chg.of_below HBA.out).then_ HC5.out (fun q hq e => by rcases e with e | e; omega; exact .inr e))
  · have HLE : Ad (LS = ls) := ⟨by rw [← HLS.out, if_neg hp]⟩
    have hp' : ¬ port = 0 ∨ (port = 0 ∧ ¬ (ls.length : Int) < 3) := by
      by_cases h : port = 0
      · exact .inr ⟨h, fun h2 => hp ⟨h, by omega⟩⟩
      · exact .inl h
    rcases hp' with hp1 | ⟨rfl, hp1⟩
    all_goals
      have hsend := send_calls b num mm 0 key v ls A B c d Q W HBW.out (HV.out.below HBA.out) HQL.out HOK.out HLI.out (by omega)
      have HSEND := Ad.mk hsend
      clear hsend hp HLS
      go_wp2_with (go_at_call 247; refine HSEND.out.mono ?_; rintro e5 w5 ⟨rfl, g5, cap5, A5, c5, B5, hs5⟩; have HS5 := Ad.mk hs5; clear hs5)
      go_end0
      rw [HLE.out]
      exact Worked.of HS5.out (Chg.of_below HBA.out)
end Go.Proofs.YtahnelihohmjfaaGreatDoor.V
namespace Go.Proofs.YtahnelihohmjfaaGreatDoor.V
open Go.RowKit
set_option linter.unusedVariables false
set_option linter.unusedSimpArgs false
/-- does a record leave its loop? -/
def leaves (F : EnvV → Val) (most : Int) (key : ByteArray) (v : Val) (ls0 : List Int) (c : Int) : Bool := (decide (checkP (F (envOf key v (ls0 ++ [c]) Val.none)) = 0) && truthV (F (envOf key v (ls0 ++ [c]) Val.none))) || decide (most < c)
theorem own_less {w : World} {base g d : Nat} {ls0 : List Int} {x : Int} (h : w.ownsRow base 3 1 (.slice (some ⟨g, 0, none⟩) (ls0.length + 1) d) (ls0.length + 1) ((ls0 ++ [x]).map (Value.int .i64))) : w.ownsRow base 3 1 (.slice (some ⟨g, 0, none⟩) ls0.length d) ls0.length (ls0.map (Value.int .i64)) := by
  refine ⟨by simp, ?_⟩
  rcases h.2 with ⟨h1, _⟩ | ⟨g', cap, cur, h1, h2, h3, h4, h5, h6, h7⟩
  · cases h1
  · injection h1 with e1 e2 e3
    injection e1 with e1
    injection e1 with e1 _ _
    subst e1 e3
    refine .inr ⟨g, d, cur, rfl, h2, h3, by omega, h5, h6, ?_⟩
    have := congrArg (List.take ls0.length) h7
    rw [List.take_take] at this
    simpa [Nat.min_eq_left] using this
set_option maxHeartbeats 8000000 in
set_option maxRecDepth 100000 in
theorem tail_work (b cb : Nat) (t : ByteArray) (kf : Nat) (cap : Array Value) (F : EnvV → Val) (most : Int) (num : Int) (mm : Option Nat) (port : Int) (key : ByteArray) (v : Val) (ls0 : List Int) (x0 : Int) (A : Option Addr) (g d c base : Nat) (Q : Nat → Prop) (w : World)
    (wc : World) (hc : wc.heap[cb]? = some (.cells #[.string t, .func (.func kf) #[] cap] 151 (0, 0))) (hev : Ev wc (.func (.func kf) #[] cap) F) (hwc : Below wc.heap.size wc w) (hwb : wc.heap.size ≤ base)
    (hb : w.heap[b]? = some (.cells #[.int .i64 num, .map mm, .slice none 0 0] 116 (0, 0))) (hv : VA Q w A c v) (hQ : ∀ q, Q q → q < w.heap.size ∧ q ≠ g) (hok : checkP v = 0) (hl : RowN base w (.slice (some ⟨g, 0, none⟩) (ls0.length + 1) d) (ls0 ++ [x0])) (hbB : g ≠ b) (hbase : base ≤ w.heap.size) (hln : ls0.length ≤ 100) (hx0 : 0 ≤ x0 ∧ x0 ≤ 1000000) (hks : key.size ≤ 140737488351232) :
    Calls Tryz.prog 266 #[.agg #[.pointer (some ⟨cb, 0, none⟩), .int .i64 most], .pointer (some ⟨b, 0, none⟩), .int .i64 port, .agg #[.string key, .int .i64 v.k, .int .i64 v.n, .string v.s, .slice A v.items.length c, .slice (some ⟨g, 0, none⟩) (ls0.length + 1) d]] w
      (Worked w b (.slice (some ⟨g, 0, none⟩) (ls0.length + 1) d) num mm (if leaves F most key v ls0 (x0 + 1) then 1 else 0) key v (if leaves F most key v ls0 (x0 + 1) then ls0 else ls0 ++ [x0 + 1])) := by
  obtain ⟨i0, hi, hz0, hz1, hz2⟩ := info_parts info3
  have HI := Ad.mk (And.intro hi (And.intro hz0 (And.intro hz1 hz2)))
  have HC := Ad.mk hc
  have HEV := Ad.mk hev
  have HV := Ad.mk hv
  have HQ := Ad.mk hQ
  have HOK := Ad.mk hok
  have HL := Ad.mk hl
  have HB := Ad.mk hb
  have hbl := blk_lt hb
  have HWC := Ad.mk hwc
  have hcl : cb < w.heap.size := Nat.lt_of_lt_of_le (blk_lt hc) hwc.size
  obtain ⟨OUT, hOUT⟩ : ∃ o : Int, (if leaves F most key v ls0 (x0 + 1) then 1 else 0) = o := ⟨_, rfl⟩
  obtain ⟨LSX, hLSX⟩ : ∃ l, (if leaves F most key v ls0 (x0 + 1) then ls0 else ls0 ++ [x0 + 1]) = l := ⟨_, rfl⟩
  rw [hOUT, hLSX]
  have HOUT := Ad.mk hOUT
  have HLSX := Ad.mk hLSX
  clear hOUT hLSX
  have HG := Ad.mk (own_lt hl.1 g rfl)
  have hdd : ls0.length + 1 ≤ d := by
    rcases hl.1.2 with ⟨h1, _⟩ | ⟨g', cap', cur, h1, h2, h3, h4, _⟩
    · cases h1
    · injection h1 with _ _ e; subst e; simpa using h4
  clear hi hz0 hz1 hz2 hc hev hv hQ hok hl hb hwc
  go_enter Tryz.func266, Tryz.ntmps266
  go_upto_region 1 with (fail)
  have HBA := Ad.mk (below_alloc (below_alloc (Below.refl w.heap.size w) (.cells #[.pointer (some ⟨cb, 0, none⟩), .int .i64 most] 163)) (.cells #[.string key, .int .i64 v.k, .int .i64 v.n, .string v.s, .slice A v.items.length c, .slice (some ⟨g, 0, none⟩) (ls0.length + 1) d] 45))
  have HT0 := Ad.mk (blk_alloc (blk_new w (.cells #[.pointer (some ⟨cb, 0, none⟩), .int .i64 most] 163)) (.cells #[.string key, .int .i64 v.k, .int .i64 v.n, .string v.s, .slice A v.items.length c, .slice (some ⟨g, 0, none⟩) (ls0.length + 1) d] 45))
  have HX := Ad.mk (blk_new2 (w := w.alloc (.cells #[.pointer (some ⟨cb, 0, none⟩), .int .i64 most] 163)) (o := (.cells #[.string key, .int .i64 v.k, .int .i64 v.n, .string v.s, .slice A v.items.length c, .slice (some ⟨g, 0, none⟩) (ls0.length + 1) d] 45)) (g := w.heap.size + 1) (by simp))
  have hsz : ((w.alloc (.cells #[.pointer (some ⟨cb, 0, none⟩), .int .i64 most] 163)).alloc (.cells #[.string key, .int .i64 v.k, .int .i64 v.n, .string v.s, .slice A v.items.length c, .slice (some ⟨g, 0, none⟩) (ls0.length + 1) d] 45)).heap.size = w.heap.size + 1 + 1 := by simp
  generalize (w.alloc (.cells #[.pointer (some ⟨cb, 0, none⟩), .int .i64 most] 163)).alloc (.cells #[.string key, .int .i64 v.k, .int .i64 v.n, .string v.s, .slice A v.items.length c, .slice (some ⟨g, 0, none⟩) (ls0.length + 1) d] 45) = W at HBA HT0 HX hsz ⊢
  have HSZ := Ad.mk hsz
  have x5 : W.cell? ⟨w.heap.size + 1, 5, none⟩ = some (.slice (some ⟨g, 0, none⟩) (ls0.length + 1) d) := blk_cell HX.out 5
  have xf := fun m => blk_frozen HX.out m
  have xl := blk_lt HX.out
  have hLI : LI W (some ⟨g, 0, none⟩) d (ls0 ++ [x0]) := by
    obtain ⟨B', d', he, hli⟩ := (HL.out.below HBA.out).form (by simp; omega)
    injection he with e1 e2 e3
    subst e1 e3
    exact hli
  obtain ⟨ad, had, hcell⟩ := hLI.h (by simp)
  injection had with had
  subst had
  have g0 := (hcell ls0.length (by simp)).1
  rw [show (ls0 ++ [x0]).getD ls0.length 0 = x0 by simp [List.getD_eq_getElem?_getD], add_plain] at g0
  have HLI0 : Ad (LI W (some ⟨g, 0, none⟩) d ls0) := ⟨⟨by omega, by omega, fun hp => ⟨_, rfl, fun i hi => by
    have h := hcell i (by simp; omega)
    rw [show (ls0 ++ [x0]).getD i 0 = ls0.getD i 0 by simp [List.getD_eq_getElem?_getD, List.getElem?_append_left hi]] at h
    exact h⟩⟩⟩
  obtain ⟨n, hn⟩ : ∃ n, ls0.length = n := ⟨_, rfl⟩
  have HN := Ad.mk hn
  rw [hn] at x5 g0 hdd hln ⊢
  have q0 : (0 : Int) ≤ (n : Int) := by omega
  have q1 : (n : Int) < (n : Int) + 1 := by omega
  have q2 : (n : Int) ≤ (d : Int) := by omega
  have qw := Go.IntWalk.i64_in ((n : Int) + 1 - 1) (by omega)
  have qx := Go.IntWalk.i64_in (x0 + 1) (by omega)
  clear hsz hLI hcell hn
  have hol : w.ownsRow base 3 1 (.slice (some ⟨g, 0, none⟩) ls0.length d) ls0.length (ls0.map (Value.int .i64)) := by
    have h := HL.out.1
    rw [show (ls0 ++ [x0]).length = ls0.length + 1 by simp] at h
    exact own_less h
  rw [HN.out] at hol
  have HOL := Ad.mk hol
  clear hol
  have hcp1 := (Chg.refl W (· = w.heap.size + 1)).set rfl 5 (.slice (some ⟨g, 0, none⟩) n d)
  have HCP1 := Ad.mk hcp1
  have HX1 := Ad.mk (blk_put HX.out 5 (.slice (some ⟨g, 0, none⟩) n d) rfl)
  have hcln := cloneI_calls (some ⟨g, 0, none⟩) d ls0 (W.setCell ⟨w.heap.size + 1, 5, none⟩ (.slice (some ⟨g, 0, none⟩) n d)) ⟨HLI0.out.c, HLI0.out.m, fun hp => by
    obtain ⟨ad, e, h⟩ := HLI0.out.h hp
    injection e with e
    subst e
    exact ⟨_, rfl, fun i hi => ⟨by rw [add_plain]; have h1 := (h i hi).1; rw [add_plain] at h1; exact ((ccell hcp1).1 g i (by have := HG.out.2; have := HSZ.out; omega) (by have := HG.out.2; omega)).trans h1, (h i hi).2⟩⟩⟩ (by have := HN.out; omega)
  rw [HN.out] at hcln
  have HCLN := Ad.mk hcln
  clear hcln hcp1 HLI0
  go_upto_region 8 with (first
    | (go_at_call 69; go_must (refine HCLN.out.mono ?_); rintro e2 w2 ⟨u2, rfl, hr2, hb2⟩; have HR2 := Ad.mk hr2; have HB2 := Ad.mk hb2; have hx2 := blk_below HX1.out hb2; have y5 : w2.cell? ⟨w.heap.size + 1, 5, none⟩ = some (.slice (some ⟨g, 0, none⟩) n d) := blk_cell hx2 5; have yf := (fun m => blk_frozen hx2 m); have yl := blk_lt hx2; have hc2 := Ad.mk ((Chg.of_below (S := (· = w.heap.size + 1)) HBA.out).trans (HCP1.out.trans (Chg.of_below hb2))); obtain ⟨B2, d2, rfl, _⟩ := hr2.form (by have := HN.out; omega); rw [HN.out]; clear hr2 hb2 hx2)
    | (at_builtin; go_must (refine wpList_append_lies _ rfl _ _ 43 (by rfl) base 3 i0 _ 1 8 Tryz.underlying43 HI.out.1 HI.out.2.1 HI.out.2.2.1 HI.out.2.2.2 rfl (by omega) (.slice (some ⟨g, 0, none⟩) n d) n (ls0.map (Value.int .i64)) (by rfl) (own_chg HOL.out (hc2.out.alloc _) (fun q hq hs => by have := HG.out.2; simp [Value.ownBlock] at hq; have h : q = w.heap.size + 1 := hs; omega)) ⟨w2.heap.size, 0, none⟩ 1 1 [.int .i64 (x0 + 1)] (by rfl) rfl (World.news_of_block (blk_new _ _)) (by simp [Value.oneCell']) (by omega) (by unfold maxLen; omega) (by omega) (by have := hc2.out.size; simp; omega) _ rfl ?_); intro g2 cp w4 hown4 hgrow hat hlt4; have HOWN := Ad.mk hown4; have HAT := Ad.mk hat; have hc4 := Ad.mk ((Chg.of_below (S := (· = g)) (below_alloc (Below.refl w2.heap.size w2) (.cells #[.int .i64 (x0 + 1)] 3))).trans ⟨hgrow.os, hgrow.tape, hgrow.output, hgrow.size, fun i hi hn => hgrow.block i hi (fun e => hn (by simp [Value.ownBlock] at e; exact e))⟩); have hx4 := (hc4.out.block (w.heap.size + 1) yl (by have := HG.out.2; omega)).trans (blk_below HX1.out HB2.out); have z5 : w4.cell? ⟨w.heap.size + 1, 5, none⟩ = some (.slice (some ⟨g, 0, none⟩) n d) := blk_cell hx4 5; have zf := (fun m => blk_frozen hx4 m); have zl := blk_lt hx4; have HX4 := Ad.mk hx4; have HT4 := Ad.mk ((hc4.out.block w.heap.size (by omega) (by have := HG.out.2; omega)).trans (blk_below ((HCP1.out.block w.heap.size (by omega) (by omega)).trans HT0.out) HB2.out)); clear hown4 hgrow hat hx4)
    | fail)
  have hcp5 := (Chg.refl w4 (· = w.heap.size + 1)).set rfl 5 (.slice (some ⟨g2, 0, none⟩) (n + 1) cp)
  have hx5 := blk_put HX4.out 5 (.slice (some ⟨g2, 0, none⟩) (n + 1) cp) rfl
  have ht5 := (hcp5.block w.heap.size (blk_lt HT4.out) (by omega)).trans HT4.out
  have hg2 : g2 = g ∨ w.heap.size + 1 < g2 := by
    rcases HAT.out with h | h
    · simp [Value.ownBlock] at h; exact .inl h.symm
    · simp at h; exact .inr (by omega)
  have hrow5 : RowN base (w4.setCell ⟨w.heap.size + 1, 5, none⟩ (.slice (some ⟨g2, 0, none⟩) (n + 1) cp)) (.slice (some ⟨g2, 0, none⟩) (n + 1) cp) (ls0 ++ [x0 + 1]) := ⟨own_chg (by simpa [HN.out] using HOWN.out) hcp5 (fun q hq hs => by simp [Value.ownBlock] at hq; have h : q = w.heap.size + 1 := hs; have := HG.out.2; omega), fun x hx => by
    rcases List.mem_append.1 hx with h | h
    · exact HL.out.2 x (by simp [h])
    · simp at h; subst h; unfold I64; omega⟩
  have hcw5 : Chg w (w4.setCell ⟨w.heap.size + 1, 5, none⟩ (.slice (some ⟨g2, 0, none⟩) (n + 1) cp)) (· = g) := ((hc2.out.sub (S' := fun q => q = g ∨ q = w.heap.size + 1) (fun q _ h => .inr h)).trans ((hc4.out.sub (fun q _ h => .inl h)).trans (hcp5.sub (fun q _ h => .inr h)))).sub (fun q hq h => by rcases h with h | h; exact h; omega)
  have hr2 : RowN w.heap.size (w4.setCell ⟨w.heap.size + 1, 5, none⟩ (.slice (some ⟨g2, 0, none⟩) (n + 1) cp)) (.slice B2 n d2) ls0 := by
    have hs1 := HCP1.out.size
    have h := HR2.out.base (base' := w.heap.size) (by have := HSZ.out; omega)
    rw [HN.out] at h
    have h2 := HR2.out.1
    rw [HN.out] at h2
    refine ⟨own_chg (own_chg h.1 hc4.out (fun q hq hs => ?_)) hcp5 (fun q hq hs => ?_), h.2⟩
    · have h3 := (own_lt h2 q hq).1
      have h4 : q = g := hs
      have := HG.out.2
      have := HSZ.out
      omega
    · have h3 := (own_lt h2 q hq).1
      have h4 : q = w.heap.size + 1 := hs
      have := HSZ.out
      omega
  clear y5 yf yl z5 zf zl x5 xf xl g0
  generalize w4.setCell ⟨w.heap.size + 1, 5, none⟩ (.slice (some ⟨g2, 0, none⟩) (n + 1) cp) = W5 at hx5 ht5 hrow5 hcw5 hr2 ⊢
  have HX5 := Ad.mk hx5
  have HT5 := Ad.mk ht5
  have HR5 := Ad.mk hrow5
  have HR2' := Ad.mk hr2
  have HC5 := Ad.mk hcw5
  have hbc5 := below_chg HWC.out hcw5 (fun q hq => by have h : q = g := hq; have := HG.out.1; omega)
  have hva5 := HV.out.chg (Q' := Q) hcw5 (fun q _ hq h => (HQ.out q hq).2 h) (fun _ _ h => h)
  have HVA5 := Ad.mk hva5
  have hlen : (ls0 ++ [x0 + 1]).length = n + 1 := by simp [HN.out]
  have hli5 : LI W5 (some ⟨g2, 0, none⟩) cp (ls0 ++ [x0 + 1]) := by
    obtain ⟨B', d', he, hli⟩ := hrow5.form (by omega)
    rw [hlen] at he
    injection he with e1 e2 e3
    subst e1 e3
    exact hli
  have HLI5 := Ad.mk hli5
  have hrun := run_calls cb t kf cap F key v Val.none (ls0 ++ [x0 + 1]) A (some ⟨g2, 0, none⟩) none c cp 0 Q W5 (blk_below HC.out hbc5) (HEV.out.below hbc5) hva5 (VA.none _ _ _ _) (fun q hq => Nat.lt_of_lt_of_le (HQ.out q hq).1 hcw5.size) hli5 (fun x hx => hrow5.2 x hx) hks
  rw [hlen] at hrun
  have HRUN := Ad.mk hrun
  obtain ⟨V, hV⟩ : ∃ V, F (envOf key v (ls0 ++ [x0 + 1]) Val.none) = V := ⟨_, rfl⟩
  rw [hV] at HRUN
  have HVV := Ad.mk hV
  have hbb5 := (hcw5.block b hbl (fun h => hbB h.symm)).trans HB.out
  have HBB5 := Ad.mk hbb5
  have z0 : W5.cell? ⟨w.heap.size + 1, 0, none⟩ = some (.string key) := blk_cell hx5 0
  have z1 : W5.cell? ⟨w.heap.size + 1, 1, none⟩ = some (.int .i64 v.k) := blk_cell hx5 1
  have z2 : W5.cell? ⟨w.heap.size + 1, 2, none⟩ = some (.int .i64 v.n) := blk_cell hx5 2
  have z3 : W5.cell? ⟨w.heap.size + 1, 3, none⟩ = some (.string v.s) := blk_cell hx5 3
  have z4 : W5.cell? ⟨w.heap.size + 1, 4, none⟩ = some (.slice A v.items.length c) := blk_cell hx5 4
  have z5 : W5.cell? ⟨w.heap.size + 1, 5, none⟩ = some (.slice (some ⟨g2, 0, none⟩) (n + 1) cp) := blk_cell hx5 5
  have t0 : W5.cell? ⟨w.heap.size, 0, none⟩ = some (.pointer (some ⟨cb, 0, none⟩)) := blk_cell ht5 0
  obtain ⟨X1, hX1⟩ : ∃ X1, (decide (checkP V = 0) && truthV V) = X1 := ⟨_, rfl⟩
  have HX1' := Ad.mk hX1
  clear hx5 ht5 hrow5 hcw5 hr2 hbc5 hva5 hli5 hrun hV hX1 hbb5
  go_wp2_with (first
    | (go_at_call 251; go_must (refine HRUN.out.mono ?_); rintro e6 w6 ⟨A6, c6, rfl, ha6, hb6⟩; have HA6 := Ad.mk ha6; have HB6 := Ad.mk hb6; clear ha6 hb6)
    | (go_at_call 260; go_must (refine (true_calls _ A6 c6 V _ HA6.out.l).mono ?_); rw [HX1'.out]; rintro e7 w7 ⟨rfl, hb7⟩; have hb57 := below_then HB6.out hb7; have HB7 := Ad.mk hb57; have hx7 := blk_below HX5.out hb57; have ht7 := blk_below HT5.out hb57; have t1 : w7.cell? ⟨w.heap.size, 1, none⟩ = some (.int .i64 most) := blk_cell ht7 1; have s0 : w7.cell? ⟨w.heap.size + 1, 0, none⟩ = some (.string key) := blk_cell hx7 0; have s1 : w7.cell? ⟨w.heap.size + 1, 1, none⟩ = some (.int .i64 v.k) := blk_cell hx7 1; have s2 : w7.cell? ⟨w.heap.size + 1, 2, none⟩ = some (.int .i64 v.n) := blk_cell hx7 2; have s3 : w7.cell? ⟨w.heap.size + 1, 3, none⟩ = some (.string v.s) := blk_cell hx7 3; have s4 : w7.cell? ⟨w.heap.size + 1, 4, none⟩ = some (.slice A v.items.length c) := blk_cell hx7 4; have s5 : w7.cell? ⟨w.heap.size + 1, 5, none⟩ = some (.slice (some ⟨g2, 0, none⟩) (n + 1) cp) := blk_cell hx7 5; have sf := (fun m => blk_frozen hx7 m); have sl := blk_lt hx7; have HX7 := Ad.mk hx7; clear hb7 hb57 hx7 ht7)
    | fail)
  · have hlv : leaves F most key v ls0 (x0 + 1) = true := by
      unfold leaves
      rw [HVV.out, HX1'.out]
      first | (rw [show X1 = true by assumption]; rfl) | (rw [decide_eq_true (show most < x0 + 1 by assumption)]; cases X1 <;> rfl)
    have hO : OUT = 1 := by rw [← HOUT.out, if_pos hlv]
    have hLx : LSX = ls0 := by rw [← HLSX.out, if_pos hlv]
    have hcp8 := (Chg.refl w7 (· = w.heap.size + 1)).set rfl 5 (.slice B2 n d2)
    have hb8 := (hcp8.block b (Nat.lt_of_lt_of_le (blk_lt HBB5.out) HB7.out.size) (by omega)).trans (blk_below HBB5.out HB7.out)
    have hva8 := (HVA5.out.below HB7.out).chg (Q' := Q) hcp8 (fun q _ hq e => by have h : q = w.heap.size + 1 := e; have := (HQ.out q hq).1; omega) (fun _ _ h => h)
    have hs1 := HCP1.out.size
    have h2 := HR2.out.1
    rw [HN.out] at h2
    have hr8 : RowN w.heap.size (w7.setCell ⟨w.heap.size + 1, 5, none⟩ (.slice B2 n d2)) (.slice B2 n d2) ls0 := ⟨own_chg (HR2'.out.below HB7.out).1 hcp8 (fun q hq hs => by have h : q = w.heap.size + 1 := hs; have := (own_lt h2 q hq).1; have := HSZ.out; omega), HR2'.out.2⟩
    obtain ⟨B', d', he, hli⟩ := hr8.form (by have := HN.out; omega)
    rw [HN.out] at he
    injection he with e1 e2 e3
    subst e1 e3
    have hsend := send_calls b num mm 1 key v ls0 A B2 c d2 Q _ hb8 hva8 (fun q hq => by have h1 := (HQ.out q hq).1; have h2 := HC5.out.size; have h3 := HB7.out.size; have h4 := hcp8.size; omega) HOK.out hli (by have := HN.out; omega)
    rw [HN.out] at hsend
    have hcw8 : Chg w (w7.setCell ⟨w.heap.size + 1, 5, none⟩ (.slice B2 n d2)) (fun q => q = b ∨ some q = (Value.slice (some ⟨g, 0, none⟩) (ls0.length + 1) d).ownBlock) := ((HC5.out.trans (Chg.of_below HB7.out)).then_ hcp8 (fun q hq e => by have h : q = w.heap.size + 1 := e; omega)).sub (fun q _ hq => .inr (by have h : q = g := hq; rw [h]; rfl))
    have HCW8 := Ad.mk hcw8
    refine hsend.mono ?_
    rintro e9 w9 ⟨rfl, g9, cap9, A9, c9, B9, hs9⟩
    have HS9 := Ad.mk hs9
    clear hs9 hsend hli hr8 hva8 hb8 hcp8 hcw8
    go_wp2_with fail
    go_end0
    rw [hO, hLx]
    exact Worked.of HS9.out HCW8.out
  · have hlv : leaves F most key v ls0 (x0 + 1) = true := by
      unfold leaves
      rw [HVV.out, HX1'.out]
      first | (rw [show X1 = true by assumption]; rfl) | (rw [decide_eq_true (show most < x0 + 1 by assumption)]; cases X1 <;> rfl)
    have hO : OUT = 1 := by rw [← HOUT.out, if_pos hlv]
    have hLx : LSX = ls0 := by rw [← HLSX.out, if_pos hlv]
    have hcp8 := (Chg.refl w7 (· = w.heap.size + 1)).set rfl 5 (.slice B2 n d2)
    have hb8 := (hcp8.block b (Nat.lt_of_lt_of_le (blk_lt HBB5.out) HB7.out.size) (by omega)).trans (blk_below HBB5.out HB7.out)
    have hva8 := (HVA5.out.below HB7.out).chg (Q' := Q) hcp8 (fun q _ hq e => by have h : q = w.heap.size + 1 := e; have := (HQ.out q hq).1; omega) (fun _ _ h => h)
    have hs1 := HCP1.out.size
    have h2 := HR2.out.1
    rw [HN.out] at h2
    have hr8 : RowN w.heap.size (w7.setCell ⟨w.heap.size + 1, 5, none⟩ (.slice B2 n d2)) (.slice B2 n d2) ls0 := ⟨own_chg (HR2'.out.below HB7.out).1 hcp8 (fun q hq hs => by have h : q = w.heap.size + 1 := hs; have := (own_lt h2 q hq).1; have := HSZ.out; omega), HR2'.out.2⟩
    obtain ⟨B', d', he, hli⟩ := hr8.form (by have := HN.out; omega)
    rw [HN.out] at he
    injection he with e1 e2 e3
    subst e1 e3
    have hsend := send_calls b num mm 1 key v ls0 A B2 c d2 Q _ hb8 hva8 (fun q hq => by have h1 := (HQ.out q hq).1; have h2 := HC5.out.size; have h3 := HB7.out.size; have h4 := hcp8.size; omega) HOK.out hli (by have := HN.out; omega)
    rw [HN.out] at hsend
    have hcw8 : Chg w (w7.setCell ⟨w.heap.size + 1, 5, none⟩ (.slice B2 n d2)) (fun q => q = b ∨ some q = (Value.slice (some ⟨g, 0, none⟩) (ls0.length + 1) d).ownBlock) := ((HC5.out.trans (Chg.of_below HB7.out)).then_ hcp8 (fun q hq e => by have h : q = w.heap.size + 1 := e; omega)).sub (fun q _ hq => .inr (by have h : q = g := hq; rw [h]; rfl))
    have HCW8 := Ad.mk hcw8
    refine hsend.mono ?_
    rintro e9 w9 ⟨rfl, g9, cap9, A9, c9, B9, hs9⟩
    have HS9 := Ad.mk hs9
    clear hs9 hsend hli hr8 hva8 hb8 hcp8 hcw8
    go_wp2_with fail
    go_end0
    rw [hO, hLx]
    exact Worked.of HS9.out HCW8.out
  · have hlv : ¬ leaves F most key v ls0 (x0 + 1) = true := by
      unfold leaves
      rw [HVV.out, HX1'.out, show X1 = false by assumption, decide_eq_false (show ¬ most < x0 + 1 by omega)]
      decide
    have hO : OUT = 0 := by rw [← HOUT.out, if_neg hlv]
    have hLx : LSX = ls0 ++ [x0 + 1] := by rw [← HLSX.out, if_neg hlv]
    have hsend := send_calls b num mm 0 key v (ls0 ++ [x0 + 1]) A (some ⟨g2, 0, none⟩) c cp Q w7 (blk_below HBB5.out HB7.out) (HVA5.out.below HB7.out) (fun q hq => by have h1 := (HQ.out q hq).1; have h2 := HC5.out.size; have h3 := HB7.out.size; omega) HOK.out (HLI5.out.below HB7.out) (by rw [hlen]; omega)
    rw [hlen] at hsend
    have hcw8 : Chg w w7 (fun q => q = b ∨ some q = (Value.slice (some ⟨g, 0, none⟩) (ls0.length + 1) d).ownBlock) := (HC5.out.trans (Chg.of_below HB7.out)).sub (fun q _ hq => .inr (by have h : q = g := hq; rw [h]; rfl))
    have HCW8 := Ad.mk hcw8
    refine hsend.mono ?_
    rintro e9 w9 ⟨rfl, g9, cap9, A9, c9, B9, hs9⟩
    have HS9 := Ad.mk hs9
    clear hs9 hsend hcw8
    go_wp2_with fail
    go_end0
    rw [hO, hLx]
    exact Worked.of HS9.out HCW8.out
end Go.Proofs.YtahnelihohmjfaaGreatDoor.V
namespace Go.Proofs.YtahnelihohmjfaaGreatDoor.V
open Go.RowKit
set_option linter.unusedVariables false
set_option linter.unusedSimpArgs false
/-! ### the empty state -/
set_option maxHeartbeats 4000000 in
set_option maxRecDepth 100000 in
theorem checkState0 (w : World) : Calls Tryz.prog 41 #[.agg #[.int .i64 0, .slice none 0 0]] w (Ret w (.int .i64 0)) := by
  go_enter Tryz.func41, Tryz.ntmps41
  go_wp2_with fail
  go_loopw [23] (fun v23 wr => v23 = .int .i64 0 ∧ Ad (Below w.heap.size w wr)) (fun _ _ => 0)
  case atStart => exact ⟨rfl, ⟨below_alloc (Below.refl _ _) _⟩⟩
  case round =>
    obtain ⟨rfl, HB⟩ := hrel
    go_wp2_with fail
    go_ret
    exact ⟨rfl, HB.out⟩
theorem to_161_101 (v : Value) (w : World) : (Instr.typeAssert (.iface 161 v) 96 101 true).run Tryz.prog w = .ok (.tuple #[.agg #[], .bool false]) w := by kernel_rfl
theorem to_161_102 (v : Value) (w : World) : (Instr.typeAssert (.iface 161 v) 96 102 true).run Tryz.prog w = .ok (.tuple #[.agg #[], .bool false]) w := by kernel_rfl
theorem to_161_104 (v : Value) (w : World) : (Instr.typeAssert (.iface 161 v) 96 104 true).run Tryz.prog w = .ok (.tuple #[.agg #[.pointer none, .pointer none], .bool false]) w := by kernel_rfl
theorem to_161_105 (v : Value) (w : World) : (Instr.typeAssert (.iface 161 v) 96 105 true).run Tryz.prog w = .ok (.tuple #[.agg #[], .bool false]) w := by kernel_rfl
theorem to_161_107 (v : Value) (w : World) : (Instr.typeAssert (.iface 161 v) 96 107 true).run Tryz.prog w = .ok (.tuple #[.agg #[.int .i64 0], .bool false]) w := by kernel_rfl
theorem to_161_108 (v : Value) (w : World) : (Instr.typeAssert (.iface 161 v) 96 108 true).run Tryz.prog w = .ok (.tuple #[.agg #[], .bool false]) w := by kernel_rfl
theorem to_163_101 (v : Value) (w : World) : (Instr.typeAssert (.iface 163 v) 96 101 true).run Tryz.prog w = .ok (.tuple #[.agg #[], .bool false]) w := by kernel_rfl
theorem to_163_102 (v : Value) (w : World) : (Instr.typeAssert (.iface 163 v) 96 102 true).run Tryz.prog w = .ok (.tuple #[.agg #[], .bool false]) w := by kernel_rfl
theorem to_163_104 (v : Value) (w : World) : (Instr.typeAssert (.iface 163 v) 96 104 true).run Tryz.prog w = .ok (.tuple #[.agg #[.pointer none, .pointer none], .bool false]) w := by kernel_rfl
theorem to_163_105 (v : Value) (w : World) : (Instr.typeAssert (.iface 163 v) 96 105 true).run Tryz.prog w = .ok (.tuple #[.agg #[], .bool false]) w := by kernel_rfl
theorem to_163_107 (v : Value) (w : World) : (Instr.typeAssert (.iface 163 v) 96 107 true).run Tryz.prog w = .ok (.tuple #[.agg #[.int .i64 0], .bool false]) w := by kernel_rfl
theorem to_163_108 (v : Value) (w : World) : (Instr.typeAssert (.iface 163 v) 96 108 true).run Tryz.prog w = .ok (.tuple #[.agg #[], .bool false]) w := by kernel_rfl
/-- the operator is a head or a tail -/
def OpHT (op : Value) : Prop := op = .iface 161 (.agg #[]) ∨ ∃ c most, op = .iface 163 (.agg #[.pointer (some ⟨c, 0, none⟩), .int .i64 most])
set_option maxHeartbeats 4000000 in
set_option maxRecDepth 100000 in
theorem legal0 (b : Nat) (op : Value) (src : Bool) (ins : Int) (w : World) (hop : OpHT op) (hb : w.heap[b]? = some (.cells #[op, .bool src, .int .i64 ins] 99 (0, 0))) : Calls Tryz.prog 11 #[.pointer (some ⟨b, 0, none⟩), .agg #[.int .i64 0, .slice none 0 0]] w (Ret w (.int .i64 0)) := by
  have HB := Ad.mk hb
  have hbl := blk_lt hb
  have HX := Ad.mk (blk_new w (.cells #[.int .i64 0, .slice none 0 0] 35))
  have HBA := Ad.mk (below_alloc (Below.refl w.heap.size w) (.cells #[.int .i64 0, .slice none 0 0] 35))
  clear hb
  rcases hop with rfl | ⟨c, most, rfl⟩
  all_goals
    have f1 := to_161_101
    have f2 := to_161_102
    have f3 := to_161_104
    have f4 := to_161_105
    have f5 := to_161_107
    have f6 := to_161_108
    have h1 := to_163_101
    have h2 := to_163_102
    have h3 := to_163_104
    have h4 := to_163_105
    have h5 := to_163_107
    have h6 := to_163_108
    go_enter Tryz.func11, Tryz.ntmps11
    go_wp2_with (go_at_call 41; refine (checkState0 _).mono ?_; rintro e1 w1 ⟨rfl, hb1⟩; have hbc := below_then HBA.out hb1; have HB1 := Ad.mk hbc; have hx1 := blk_below HX.out hb1; have x0 : w1.cell? ⟨w.heap.size, 0, none⟩ = some (.int .i64 0) := blk_cell hx1 0; have x1 : w1.cell? ⟨w.heap.size, 1, none⟩ = some (.slice none 0 0) := blk_cell hx1 1; have c0 := blk_cell (blk_below HB.out hbc) 0; have hbl1 := blk_lt (blk_below HB.out hbc); simp at c0; clear hb1 hbc hx1)
    go_ret
    exact ⟨rfl, HB1.out⟩
end Go.Proofs.YtahnelihohmjfaaGreatDoor.V
