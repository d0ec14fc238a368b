/- A part of the walk (V13, V14, V15, V16). -/
import Derived.Test.YtahnelihohmjfaaGreatDoorL2
import Derived.Deep.DeepMust
namespace Go.Proofs.YtahnelihohmjfaaGreatDoor.V
open Go.RowKit
set_option linter.unusedVariables false
set_option linter.unusedSimpArgs false
/-- a list of function values -/
structure FnL (w : World) (A : Option Addr) (c : Nat) (fs : List Value) : Prop where
  c : fs.length ≤ c
  m : fs.length ≤ 1000
  h : 0 < fs.length → ∃ ad, A = some ad ∧ ∀ i, i < fs.length → w.cell? (ad.add i) = some (fs.getD i undef)
theorem FnL.below {w w' : World} (hb : Below w.heap.size w w') {A : Option Addr} {c : Nat} {l : List Value} (h : FnL w A c l) : FnL w' A c l :=
  ⟨h.c, h.m, fun hp => let ⟨ad, e, hc⟩ := h.h hp; ⟨ad, e, fun i hi => cell_below hb (hc i hi)⟩⟩
/-- a list of values: its rows lie in blocks of Q or new ones -/
def RetL (Q : Nat → Prop) (w : World) (l : List Val) (e : Ending) (w' : World) : Prop := ∃ A c, e = .returned (.slice A l.length c) ∧ VL (fun b => Q b ∨ w.heap.size ≤ b) w' A c l ∧ Below w.heap.size w w'
theorem take_snoc_map {α β : Type} (l : List α) (f : α → β) (d : α) {i : Nat} (hi : i < l.length) : (l.take (i + 1)).map f = (l.take i).map f ++ [f (l.getD i d)] := by
  rw [List.take_succ_eq_append_getElem hi, List.map_append, List.getD_eq_getElem?_getD, List.getElem?_eq_getElem hi]; rfl
def AllLoop (Q : Nat → Prop) (w : World) (Fs : List (EnvV → Val)) (E : EnvV) (v4 v9 : Value) (wr : World) : Prop :=
  ∃ i : Nat, i ≤ Fs.length ∧ v9 = .int .i64 i ∧ RowV (fun b => Q b ∨ w.heap.size ≤ b) w.heap.size wr v4 ((Fs.take i).map (· E)) ∧ Below w.heap.size w wr
set_option maxHeartbeats 8000000 in
set_option maxRecDepth 100000 in
theorem all1_calls (w0 w : World) (b : Nat) (A : Option Addr) (c : Nat) (fs : List Value) (Fs : List (EnvV → Val)) (hlen : fs.length = Fs.length) (hb0 : w0.heap[b]? = some (.cells #[.slice A fs.length c] 363 (0, 0))) (hfs : FnL w0 A c fs) (hF : ∀ i, i < fs.length → Ev w0 (fs.getD i undef) (Fs.getD i fun _ => Val.none))
    (a : Nat) (E : EnvV) (Q : Nat → Prop) (hb : Below w0.heap.size w0 w) (hE : EnvR Q w a E) (hQ : ∀ b, Q b → b < w.heap.size) (hok : E.ok) :
    Calls Tryz.prog 288 #[.pointer (some ⟨a, 0, none⟩), .pointer (some ⟨b, 0, none⟩)] w (RetL Q w (Fs.map (· E))) := by
  have c0 := blk_cell (blk_below hb0 hb) 0
  have HL := Ad.mk (hfs.below hb)
  have HF := Ad.mk hF
  have HE := Ad.mk hE
  have HQ := Ad.mk hQ
  have HB := Ad.mk hb
  have HN := Ad.mk hlen
  have hm := hfs.m
  obtain ⟨i0, hi, hz0, hz1, hz2⟩ := info_parts info42
  have HI := Ad.mk (And.intro hi (And.intro hz0 (And.intro hz1 hz2)))
  clear hb0 hfs hF hE hQ hb hlen hi hz0 hz1 hz2
  go_enter Tryz.func288, Tryz.ntmps288
  go_wp2_with fail
  go_loopw [4, 9] (fun v4 v9 wr => AllLoop Q w Fs E v4 v9 wr) (fun _ v9 _ => fs.length - (intOf v9).toNat)
  case atStart => exact ⟨0, Nat.zero_le _, rfl, by simpa using RowV.nil _ _ _, Below.refl _ _⟩
  case round =>
    obtain ⟨i, hi, rfl, hrow, hbw⟩ := hrel
    have HR := Ad.mk hrow
    have HW := Ad.mk hbw
    have hle : i ≤ fs.length := by rw [HN.out]; exact hi
    have hs := hbw.size
    clear hrow hbw hi
    by_cases hlt : i < fs.length
    · obtain ⟨ad, rfl, hc⟩ := HL.out.h (by omega)
      have g0 := cell_below HW.out (hc i hlt)
      have hev := (HF.out i hlt).below (below_then HB.out HW.out)
      obtain ⟨k, cap, hq, hk, hcall⟩ := hev.calls
      rw [hq] at g0
      obtain ⟨x, hx⟩ : ∃ x, (Fs.getD i fun _ => Val.none) E = x := ⟨_, rfl⟩
      have hcall' := fun w' h1 h2 h3 => hcall w' a E Q h1 h2 h3 hok
      simp only [hx] at hcall'
      have HC := Ad.mk hcall'
      obtain ⟨ps, hps, hown, hel⟩ := HR.out.out
      have hLi : ((Fs.take i).map (· E)).length = i := by simp; have := HN.out; omega
      have HLi := Ad.mk hLi
      rw [hLi] at hown
      have HP := Ad.mk hps
      have HO := Ad.mk hown
      have HEL := Ad.mk hel
      have HX := Ad.mk hx
      have j0 : (0 : Int) ≤ (i : Int) := by omega
      have j1 : (i : Int) < (fs.length : Int) := by omega
      clear hc hev hq hcall hcall' hps hown hel hx hLi
      go_wp2_with (first
        | ((with_reducible refine (HC.out _ (Below.refl _ _) (HE.out.below HW.out) (fun b h => by have := HQ.out b h; omega)).mono ?_); rintro e1 w1 ⟨A1, d1, rfl, ha1, hb1⟩; have HA1 := Ad.mk ha1; have HB1 := Ad.mk hb1; clear ha1 hb1)
        | (at_builtin; go_must (refine wpList_append_lies _ rfl _ _ 40 (by rfl) w.heap.size 42 i0 _ 4 56 Tryz.underlying40 HI.out.1 HI.out.2.1 HI.out.2.2.1 HI.out.2.2.2 rfl (by omega) u4 _ _ (by rfl) (own_chg HO.out (Chg.of_below (S := fun _ => False) (below_then HB1.out (below_alloc (Below.refl _ _) _))) (fun _ _ h => h)) ⟨w1.heap.size, 0, none⟩ 1 1 (cellsV x (A1, d1)) (by rfl) rfl (World.news_of_block (blk_new _ _)) (by simp [cellsV, Value.oneCell']) (by omega) (by unfold maxLen; omega) (by omega) (by have := HB1.out.size; simp; omega) _ rfl ?_); intro g cp w2 hown2 hgrow hat hlt2))
      go_roundw
      case rel =>
        have hsn := RowV.snoc HP.out (fun j hj => (HEL.out j hj).below (below_then HB1.out (below_alloc (Below.refl _ _) _))) (HA1.out.below (below_alloc (Below.refl _ _) _)) (fun b _ hq => ⟨by rcases hq with hq | hq; exact .inl hq; exact .inr (by omega), fun he => by have := own_lt HO.out b he.symm; rcases hq with hq | hq; have := HQ.out b hq; omega; omega⟩) (by rw [HLi.out]; exact hown2) hgrow hat (by rw [HLi.out]; omega)
        rw [HLi.out, ← HX.out, ← take_snoc_map Fs (· E) _ (by have := HN.out; omega)] at hsn
        exact ⟨i + 1, by have := HN.out; omega, by go_num, hsn, (below_then HW.out (below_then HB1.out (below_alloc (Below.refl _ _) _))).grown hgrow (by have := HB1.out.size; simp; omega) (fun k hk => (own_lt HO.out k hk).1)⟩
      case measure => simp [intOf]; omega
    · go_wp2_with fail
      go_ret
      obtain ⟨A, c, rfl, hv⟩ := HR.out.form
      rw [List.take_of_length_le (by have := HN.out; omega)] at hv ⊢
      exact ⟨A, c, rfl, hv.weak fun b _ h => by rcases h with (h | h) | h; exact .inl h; exact .inr h; exact .inr h, HW.out⟩
end Go.Proofs.YtahnelihohmjfaaGreatDoor.V
namespace Go.Proofs.YtahnelihohmjfaaGreatDoor.V
open Go.RowKit
set_option linter.unusedVariables false
set_option linter.unusedSimpArgs false
/-- a function value that comes to a list of values -/
structure EvL (w : World) (f : Value) (Fs : List (EnvV → Val)) : Prop where
  calls : ∃ k cap, f = .func (.func k) #[] cap ∧ (∀ args w, (callFunc k args).run Tryz.prog w = .ok (.enter k args) w) ∧ ∀ (w' : World) (a : Nat) (E : EnvV) (Q : Nat → Prop), Below w.heap.size w w' → EnvR Q w' a E → (∀ b, Q b → b < w'.heap.size) → E.ok → Calls Tryz.prog k (#[.pointer (some ⟨a, 0, none⟩)] ++ cap) w' (RetL Q w' (Fs.map (· E)))
  ok : ∀ (E : EnvV), E.ok → ∀ F ∈ Fs, checkP (F E) = 0
theorem EvL.below {w w' : World} {f : Value} {F : List (EnvV → Val)} (h : EvL w f F) (hb : Below w.heap.size w w') : EvL w' f F := by
  obtain ⟨k, cap, rfl, h1, h2⟩ := h.calls
  exact ⟨⟨k, cap, rfl, h1, fun w2 a E Q hb2 => h2 w2 a E Q (below_then hb hb2)⟩, h.ok⟩
set_option maxHeartbeats 4000000 in
theorem list1_calls (b : Nat) (f : Value) (Fs : List (EnvV → Val)) (w0 w : World) (hf : w0.heap[b]? = some (.cells #[f] 361 (0, 0))) (hF : EvL w0 f Fs) (a : Nat) (E : EnvV) (Q : Nat → Prop) (hb : Below w0.heap.size w0 w) (hE : EnvR Q w a E) (hQ : ∀ b, Q b → b < w.heap.size) (hok : E.ok) :
    Calls Tryz.prog 287 #[.pointer (some ⟨a, 0, none⟩), .pointer (some ⟨b, 0, none⟩)] w (RetV Q w (fitV (Val.list (Fs.map (· E))))) := by
  obtain ⟨k, cap, rfl, hk, hcall⟩ := (hF.below hb).calls
  have HC := Ad.mk hcall
  have c1 := cell_below (below_alloc (Below.refl _ w) (.cells #[.int .i64 0, .int .i64 0, .string ⟨#[]⟩, .slice none 0 0] 42)) (blk_cell (blk_below hf hb) 0)
  have HE := Ad.mk hE
  have HQ := Ad.mk hQ
  obtain ⟨vs, hvs⟩ : ∃ vs, Fs.map (· E) = vs := ⟨_, rfl⟩
  have hcall' := fun w' h1 h2 h3 => hcall w' a E Q h1 h2 h3 hok
  simp only [hvs] at hcall'
  rw [hvs]
  have HC := Ad.mk hcall'
  clear hf hF hb hcall hE hQ hcall' hvs
  go_enter Tryz.func287, Tryz.ntmps287
  go_wp2_with (first
    | ((with_reducible refine (HC.out _ (below_alloc (Below.refl _ _) _) (HE.out.below (below_alloc (Below.refl _ _) _)) (fun b h => by have := HQ.out b h; simp; omega)).mono ?_); rintro e1 w1 ⟨A1, c1, rfl, ha1, hb1⟩; obtain ⟨k1, z1, y1, HB1⟩ := kcell (w.heap.size + 1) hb1 (by simp); have HA1 := Ad.mk ha1; clear ha1 hb1)
    | (go_at_call 183; refine (ofList_calls (fun b => (Q b ∨ w.heap.size + 1 ≤ b) ∧ b < w1.heap.size) A1 c1 vs _ (HA1.out.weak fun b hb hq => ⟨by simpa using hq, hb⟩)).mono ?_; rintro e2 w2 ⟨A2, c2, rfl, ha2, hb2⟩; obtain ⟨k2, z2, y2, HB2⟩ := kcell (w.heap.size + 1) hb2 y1; have HA2 := Ad.mk ha2; clear ha2 hb2)
    | (go_at_call 252; refine (fit_calls (fun b => (Q b ∨ w.heap.size + 1 ≤ b) ∧ b < w2.heap.size) A2 c2 (Val.list vs) _ (HA2.out.weak fun b hb hq => by rcases hq with hq | hq; exact ⟨hq.1, hb⟩; exact ⟨.inr (by omega), hb⟩) (fun b hq => hq.2)).mono ?_; rintro e3 w3 ⟨A3, c3, rfl, ha3, hb3⟩; obtain ⟨k3, z3, y3, HB3⟩ := kcell (w.heap.size + 1) hb3 y2; have HA3 := Ad.mk ha3; clear ha3 hb3))
  have HZ := below_then (below_then HB1.out HB2.out) HB3.out
  exact RetV.fin HA3.out rfl rfl rfl (blk_below (blk_new2 rfl) HZ) rfl (below_then (below_alloc (Below.refl _ _) _) HZ) (Nat.le_refl _) (fun x hx hq => by have := y2; rcases hq with ⟨hq | hq, _⟩ | hq; exact ⟨.inl hq, by have := HQ.out x hq; omega⟩; exact ⟨.inr (by omega), by omega⟩; exact ⟨.inr (by omega), by omega⟩)
theorem ksz {w1 : World} {n : Nat} (h : n ≤ w1.heap.size) : (∀ b, b < n → b < w1.heap.size) ∧ (∀ b, b < n → ¬ b = w1.heap.size) ∧ (∀ b, b < n → ¬ w1.heap.size = b) := ⟨fun b hb => by omega, fun b hb => by omega, fun b hb => by omega⟩
/-- a result that lies in its variable, in whatever world -/
theorem RetV.finW {Q Q1 : Nat → Prop} {w w1 W : World} {b t : Nat} {v : Val} {A : Option Addr} {c : Nat} {fn : Func} {a : Act} (hva : VA Q1 w1 A c v) (hfn : fn.results = #[.cell t 42]) (ha : a.tmps.getD t undef = .pointer (some ⟨b, 0, Option.none⟩)) (hd : a.defers = [])
    (hblk : W.heap[b]? = some (.cells #[.int .i64 v.k, .int .i64 v.n, .string v.s, .slice A v.items.length c] 42 (0, 0))) (hc : Chg w1 W (fun q => q = b)) (hb : Below w.heap.size w w1) (hwb : w.heap.size ≤ b) (hQ : ∀ x, x < w1.heap.size → Q1 x → (Q x ∨ w.heap.size ≤ x) ∧ x ≠ b) :
    bodyPost Tryz.prog fn (RetV Q w v) .ret a W := by
  have g0 := blk_cell hblk 0
  have g1 := blk_cell hblk 1
  have g2 := blk_cell hblk 2
  have g3 := blk_cell hblk 3
  simp at g0 g1 g2 g3
  refine ⟨hd, .agg #[.int .i64 v.k, .int .i64 v.n, .string v.s, .slice A v.items.length c], ?_, ?_⟩
  · rw [Array.getD_eq_getD_getElem?] at ha
    simp [results, hfn, ha, go_sem, g0, g1, g2, g3]
  · exact ⟨A, c, rfl, hva.chg hc (fun x hx hq => (hQ x hx hq).2) (fun x hx hq => (hQ x hx hq).1), below_chg hb hc (fun q hq => by omega)⟩
/-- the same, a block having been made between the call and the stores -/
theorem RetV.fin1 {Q Q1 : Nat → Prop} {w w1 : World} {b t : Nat} {v : Val} {A : Option Addr} {c : Nat} {cs : Array Value} {fn : Func} {a : Act} {o : Obj} (hva : VA Q1 w1 A c v) (hfn : fn.results = #[.cell t 42]) (ha : a.tmps.getD t undef = .pointer (some ⟨b, 0, Option.none⟩)) (hd : a.defers = [])
    (hblk : w1.heap[b]? = some (.cells cs 42 (0, 0))) (h4 : cs.size = 4) (hb : Below w.heap.size w w1) (hwb : w.heap.size ≤ b) (hQ : ∀ x, x < w1.heap.size → Q1 x → (Q x ∨ w.heap.size ≤ x) ∧ x ≠ b) :
    bodyPost Tryz.prog fn (RetV Q w v) .ret a (((((w1.setCell ⟨b, 0, Option.none⟩ (.int .i64 v.k)).setCell ⟨b, 1, Option.none⟩ (.int .i64 v.n)).setCell ⟨b, 2, Option.none⟩ (.string v.s)).setCell ⟨b, 3, Option.none⟩ (.slice A v.items.length c)).alloc o) := by
  obtain ⟨cs⟩ := cs
  obtain ⟨c0, c1, c2, c3, rfl⟩ : ∃ c0 c1 c2 c3, cs = [c0, c1, c2, c3] := by
    match cs, h4 with
    | [c0, c1, c2, c3], _ => exact ⟨c0, c1, c2, c3, rfl⟩
  exact RetV.finW hva hfn ha hd (blk_alloc (blk_put (blk_put (blk_put (blk_put hblk 0 _ rfl) 1 _ rfl) 2 _ rfl) 3 _ rfl) o) ((((((Chg.refl w1 (fun q => q = b)).set rfl 0 _).set rfl 1 _).set rfl 2 _).set rfl 3 _).alloc o) hb hwb hQ
theorem wrap_neg {n : Int} (h : ¬ n = -9223372036854775808) (hn : I64 n) : wrap64 (-n) = -n := IntWalk.wrap64_in _ ⟨by unfold I64 at hn; omega, by unfold I64 at hn; omega⟩
theorem i64_neg {n : Int} (h : ¬ n = -9223372036854775808) (hn : I64 n) : I64 (-n) := by unfold I64 at *; omega
set_option maxHeartbeats 4000000 in
theorem neg_calls (b : Nat) (f : Value) (F : EnvV → Val) (w0 w : World) (hf : w0.heap[b]? = some (.cells #[f] 148 (0, 0))) (hF : Ev w0 f F) (a : Nat) (E : EnvV) (Q : Nat → Prop) (hb : Below w0.heap.size w0 w) (hE : EnvR Q w a E) (hQ : ∀ b, Q b → b < w.heap.size) (hok : E.ok) :
    Calls Tryz.prog 277 #[.pointer (some ⟨a, 0, none⟩), .pointer (some ⟨b, 0, none⟩)] w (RetV Q w (negV (F E))) := by
  obtain ⟨k, cap, rfl, hk, hcall⟩ := (hF.below hb).calls
  have c1 := cell_below (below_alloc (Below.refl _ w) (.cells #[.int .i64 0, .int .i64 0, .string ⟨#[]⟩, .slice none 0 0] 42)) (blk_cell (blk_below hf hb) 0)
  have HE := Ad.mk hE
  have HQ := Ad.mk hQ
  obtain ⟨R, hR⟩ : ∃ R, negV (F E) = R := ⟨_, rfl⟩
  rw [hR]
  have hcall' := fun w' h1 h2 h3 => hcall w' a E Q h1 h2 h3 hok
  obtain ⟨v, hv⟩ : ∃ v, F E = v := ⟨_, rfl⟩
  simp only [hv] at hcall'
  rw [hv] at hR
  have HC := Ad.mk hcall'
  have HR := Ad.mk hR
  clear hf hF hb hcall hE hQ hcall' hv hR
  by_cases hmin : v.n = -9223372036854775808
  · have hmb : (v.n == -9223372036854775808) = true := by simp [hmin]
    have HM := Ad.mk hmin
    clear hmin
    go_enter Tryz.func277, Tryz.ntmps277
    go_wp2_with (first
      | ((with_reducible refine (HC.out _ (below_alloc (Below.refl _ _) _) (HE.out.below (below_alloc (Below.refl _ _) _)) (fun b h => by have := HQ.out b h; simp; omega)).mono ?_); rintro e1 w1 ⟨A1, c1, rfl, ha1, hb1⟩; obtain ⟨k1, z1, y1, HB1⟩ := kcell (w.heap.size + 1) hb1 (by simp); obtain ⟨s1, s2, s3⟩ := ksz y1; clear ha1 hb1)
      | fail)
    all_goals
      have hx : R = Val.none := by rw [← HR.out]; simp [negV, HM.out]
      have HZ := HB1.out
      rw [hx]
      exact RetV.fin1 (VA.none (fun _ => False) _ Option.none 0) rfl rfl rfl (blk_below (blk_new2 rfl) HZ) rfl (below_then (below_alloc (Below.refl _ _) _) HZ) (Nat.le_refl _) (fun x hx hq => hq.elim)
  · have hmb : (v.n == -9223372036854775808) = false := by simp [hmin]
    have HM := Ad.mk hmin
    clear hmin
    go_enter Tryz.func277, Tryz.ntmps277
    go_wp2_with (first
      | ((with_reducible refine (HC.out _ (below_alloc (Below.refl _ _) _) (HE.out.below (below_alloc (Below.refl _ _) _)) (fun b h => by have := HQ.out b h; simp; omega)).mono ?_); rintro e1 w1 ⟨A1, c1, rfl, ha1, hb1⟩; obtain ⟨k1, z1, y1, HB1⟩ := kcell (w.heap.size + 1) hb1 (by simp); obtain ⟨s1, s2, s3⟩ := ksz y1; have HNN := Ad.mk ha1.n; clear ha1 hb1)
      | (go_at_call 177; rw [wrap_neg HM.out HNN.out]; refine (ofInt_calls (fun _ => False) _ _ (i64_neg HM.out HNN.out)).mono ?_; rintro e2 w2 ⟨A2, c2, rfl, ha2, hb2⟩; obtain ⟨k2, z2, y2, HB2⟩ := kcell (w.heap.size + 1) hb2 (by simp; omega); have HA2 := Ad.mk ha2; clear ha2 hb2))
    · have hx : R = Val.none := by rw [← HR.out]; simp [negV, *]
      have HZ := HB1.out
      rw [hx]
      exact RetV.fin1 (VA.none (fun _ => False) _ Option.none 0) rfl rfl rfl (blk_below (blk_new2 rfl) HZ) rfl (below_then (below_alloc (Below.refl _ _) _) HZ) (Nat.le_refl _) (fun x hx hq => hq.elim)
    · have hx : R = Val.int (-v.n) := by rw [← HR.out]; unfold negV; rw [if_neg (fun h => h.elim (fun h => h ‹v.k = 1›) HM.out)]
      have HZ := below_then (below_then HB1.out (below_alloc (Below.refl _ _) _)) HB2.out
      rw [hx]
      exact RetV.fin HA2.out rfl rfl rfl (blk_below (blk_new2 rfl) HZ) rfl (below_then (below_alloc (Below.refl _ _) _) HZ) (Nat.le_refl _) (fun x hx hq => by have := y1; simp at hq; omega)
end Go.Proofs.YtahnelihohmjfaaGreatDoor.V
namespace Go.Proofs.YtahnelihohmjfaaGreatDoor.V
open Go.RowKit
set_option linter.unusedVariables false
set_option linter.unusedSimpArgs false
/-! ### what valid values are -/
structure ValF (v : Val) : Prop where
  k0 : 0 ≤ v.k
  k3 : v.k ≤ 3
  n : v.k ≠ 1 → v.n = 0
  t : v.k ≠ 2 → v.s.toList = []
  l : v.k ≠ 3 → v.items = []
  s24 : v.s.size ≤ 24
  l6 : v.items.length ≤ 6
theorem headE_ok {p d k n : Int} {s : ByteArray} {m : Nat} (h : headE p d k n s m = 0) : p ≤ 12 ∧ 0 ≤ k ∧ k ≤ 3 ∧ (k ≠ 1 → n = 0) ∧ (k ≠ 2 → s.toList = []) ∧ (k ≠ 3 → m = 0) ∧ ¬ (k = 3 ∧ 3 ≤ d) ∧ s.size ≤ 24 ∧ m ≤ 6 := by
  unfold headE at h
  split at h
  · omega
  split at h
  · omega
  split at h
  · omega
  rename_i h1 h2 h3
  split at h
  · omega
  split at h
  · omega
  split at h
  · omega
  rename_i h4 h5 h6
  refine ⟨by omega, by omega, by omega, fun hk => ?_, fun hk => ?_, fun hk => ?_, h4, by omega, by omega⟩
  · by_cases hn : n = 0
    · exact hn
    · exact absurd (.inl ⟨hn, hk⟩) h3
  · by_cases hn : s.toList = []
    · exact hn
    · exact absurd (.inr (.inl ⟨hn, hk⟩)) h3
  · by_cases hn : m = 0
    · exact hn
    · exact absurd (.inr (.inr ⟨by omega, hk⟩)) h3
theorem headE_mono {p p' d d' k n : Int} {s : ByteArray} {m : Nat} (h : headE p d k n s m = 0) (hp : p' ≤ p) (hd : d' ≤ d) : headE p' d' k n s m = 0 := by
  obtain ⟨h1, h2, h3, h4, h5, h6, h7, h8, h9⟩ := headE_ok h
  unfold headE
  rw [if_neg (by omega), if_neg (by omega), if_neg (by rintro (⟨a, b⟩ | ⟨a, b⟩ | ⟨a, b⟩); exact a (h4 b); exact a (h5 b); have := h6 b; omega), if_neg (by omega), if_neg (by omega), if_neg (by omega)]
theorem part_mono : ∀ (N : Nat) (v : Val), SizeOf.sizeOf v ≤ N → ∀ p p' d d' : Int, p' ≤ p → d' ≤ d → (partV d p v).1 = 0 → (partV d' p' v).1 = 0 ∧ (partV d' p' v).2 - p' = (partV d p v).2 - p := by
  intro N
  induction N with
  | zero => intro v hN; cases v; simp at hN
  | succ N ih =>
    intro v hN p p' d d' hp hd h
    obtain ⟨k, n, s, l⟩ := v
    rw [partV_eq] at h ⊢
    by_cases hh : headE (p + 1) d k n s l.length = 0
    · rw [if_pos hh] at h
      rw [if_pos (headE_mono (p' := p' + 1) (d' := d') hh (by omega) hd), partV_eq, if_pos hh]
      have hl : ∀ x ∈ l, SizeOf.sizeOf x ≤ N := fun x hx => by
        have := List.sizeOf_lt_of_mem hx
        simp at hN; omega
      clear hN hh
      have key : ∀ (l : List Val), (∀ x ∈ l, SizeOf.sizeOf x ≤ N) → ∀ p p' d d' : Int, p' ≤ p → d' ≤ d → (partL d p l).1 = 0 → (partL d' p' l).1 = 0 ∧ (partL d' p' l).2 - p' = (partL d p l).2 - p := by
        intro l
        induction l with
        | nil => intro _ p p' d d' _ _ _; simp [partL]
        | cons x r ihl =>
          intro hl p p' d d' hp hd h
          rw [partL_cons] at h
          by_cases hx : (partV d p x).1 = 0
          · rw [if_pos hx] at h
            obtain ⟨e1, e2⟩ := ih x (hl x (by simp)) p p' d d' hp hd hx
            obtain ⟨f1, f2⟩ := ihl (fun y hy => hl y (by simp [hy])) (partV d p x).2 (partV d' p' x).2 d d' (by omega) hd h
            rw [partL_cons, if_pos e1, partL_cons, if_pos hx]
            exact ⟨f1, by omega⟩
          · rw [if_neg hx] at h
            exact absurd h hx
      obtain ⟨f1, f2⟩ := key l hl (p + 1) (p' + 1) (d + 1) (d' + 1) (by omega) (by omega) h
      exact ⟨f1, by omega⟩
    · rw [if_neg hh] at h
      exact absurd h hh
theorem valid_f {v : Val} (h : checkP v = 0) : ValF v := by
  obtain ⟨k, n, s, l⟩ := v
  unfold checkP at h
  rw [partV_eq] at h
  by_cases hh : headE (0 + 1) 0 k n s l.length = 0
  · obtain ⟨h1, h2, h3, h4, h5, h6, h7, h8, h9⟩ := headE_ok hh
    exact ⟨h2, h3, h4, h5, fun hk => List.eq_nil_of_length_eq_zero (h6 hk), h8, h9⟩
  · rw [if_neg hh] at h
    exact absurd h hh
theorem valid_items {v : Val} (h : checkP v = 0) : ∀ x ∈ v.items, checkP x = 0 := by
  obtain ⟨k, n, s, l⟩ := v
  unfold checkP at h
  rw [partV_eq] at h
  by_cases hh : headE (0 + 1) 0 k n s l.length = 0
  · rw [if_pos hh] at h
    have key : ∀ (l : List Val) (p : Int), 0 ≤ p → (partL (0 + 1) p l).1 = 0 → ∀ x ∈ l, checkP x = 0 := by
      intro l
      induction l with
      | nil => intro p _ _ x hx; simp at hx
      | cons y r ih =>
        intro p hp h x hx
        rw [partL_cons] at h
        by_cases hy : (partV (0 + 1) p y).1 = 0
        · rw [if_pos hy] at h
          have hm := part_mono _ y (Nat.le_refl _) p 0 (0 + 1) 0 hp (by omega) hy
          rcases List.mem_cons.1 hx with rfl | hx
          · exact hm.1
          · have hge : ∀ (N : Nat) (v : Val), SizeOf.sizeOf v ≤ N → ∀ d p : Int, p ≤ (partV d p v).2 := by
              intro N
              induction N with
              | zero => intro v hN; cases v; simp at hN
              | succ N ihN =>
                intro v hN d p
                obtain ⟨k, n, s, l⟩ := v
                rw [partV_eq]
                split
                · have hl : ∀ x ∈ l, SizeOf.sizeOf x ≤ N := fun x hx => by
                    have := List.sizeOf_lt_of_mem hx
                    simp at hN; omega
                  have kk : ∀ (l : List Val), (∀ x ∈ l, SizeOf.sizeOf x ≤ N) → ∀ d p : Int, p ≤ (partL d p l).2 := by
                    intro l
                    induction l with
                    | nil => intro _ d p; simp [partL]
                    | cons x r ihl =>
                      intro hl d p
                      rw [partL_cons]
                      have e1 := ihN x (hl x (by simp)) d p
                      split
                      · have e2 := ihl (fun y hy => hl y (by simp [hy])) d (partV d p x).2
                        omega
                      · exact e1
                  have := kk l hl (d + 1) (p + 1)
                  omega
                · show p ≤ p + 1; omega
            exact ih _ (by have := hge _ y (Nat.le_refl _) (0 + 1) p; omega) h x hx
        · rw [if_neg hy] at h
          exact absurd h hy
    exact key l (0 + 1) (by omega) h
  · rw [if_neg hh] at h
    exact absurd h hh
theorem fit_ok (v : Val) : checkP (fitV v) = 0 := by
  unfold fitV
  split
  · assumption
  · simp [Val.none, checkP, partV, partL, headE, ByteArray.size]
/-! ### the calls of the language -/
structure DoOK (k n : Nat) (D : List Val → Val) : Prop where
  calls : ∀ (w : World) (A : Option Addr) (c : Nat) (vs : List Val) (Q : Nat → Prop), vs.length = n → VL Q w A c vs → (∀ b, Q b → b < w.heap.size) → (∀ v ∈ vs, checkP v = 0) → Calls Tryz.prog k #[.slice A vs.length c] w (RetV Q w (D vs))
def box0 : Obj := .cells #[.int .i64 0, .int .i64 0, .string ⟨#[]⟩, .slice none 0 0] 42 (0, 0)
theorem arg0 {w : World} {A : Option Addr} {c : Nat} {vs : List Val} {Q : Nat → Prop} (hl : VL Q w A c vs) (h : 0 < vs.length) (o : Obj) : ∃ ad B d, A = some ad ∧ (w.alloc o).cell? ad = some (.int .i64 (vs.getD 0 Val.none).k) ∧
    (w.alloc o).cell? ⟨ad.block, ad.off + 1, none⟩ = some (.int .i64 (vs.getD 0 Val.none).n) ∧ (w.alloc o).cell? ⟨ad.block, ad.off + 2, none⟩ = some (.string (vs.getD 0 Val.none).s) ∧
    (w.alloc o).cell? ⟨ad.block, ad.off + 3, none⟩ = some (.slice B (vs.getD 0 Val.none).items.length d) ∧ VA Q w B d (vs.getD 0 Val.none) := by
  obtain ⟨ad, B, d, rfl, g0, g1, g2, g3, ha⟩ := hl.at 0 h
  have e : ad.add (0 * 4) = ad := by simp [Addr.add]
  rw [e] at g0 g1 g2 g3
  have hb := below_alloc (Below.refl w.heap.size w) o
  exact ⟨ad, B, d, rfl, cell_below hb g0, cell_below hb g1, cell_below hb g2, cell_below hb g3, ha⟩
theorem arg_at {w : World} {ad : Addr} {c : Nat} {vs : List Val} {Q : Nat → Prop} (hl : VL Q w (some ad) c vs) (i j : Nat) (hj : j = i * 4) (hi : 0 < i) (h : i < vs.length) (o : Obj) : ∃ B d, (w.alloc o).cell? ⟨ad.block, ad.off + j, none⟩ = some (.int .i64 (vs.getD i Val.none).k) ∧
    (w.alloc o).cell? ⟨ad.block, ad.off + j + 1, none⟩ = some (.int .i64 (vs.getD i Val.none).n) ∧ (w.alloc o).cell? ⟨ad.block, ad.off + j + 2, none⟩ = some (.string (vs.getD i Val.none).s) ∧
    (w.alloc o).cell? ⟨ad.block, ad.off + j + 3, none⟩ = some (.slice B (vs.getD i Val.none).items.length d) ∧ VA Q w B d (vs.getD i Val.none) := by
  obtain ⟨ad', B, d, e, g0, g1, g2, g3, ha⟩ := hl.at i h
  cases e
  subst hj
  have e : ad.add (i * 4) = ⟨ad.block, ad.off + i * 4, none⟩ := by unfold Addr.add; rw [if_neg (by omega)]
  rw [e] at g0 g1 g2 g3
  have hb := below_alloc (Below.refl w.heap.size w) o
  exact ⟨B, d, cell_below hb g0, cell_below hb g1, cell_below hb g2, cell_below hb g3, ha⟩
theorem newQ {Q : Nat → Prop} {m n : Nat} {o : Obj} {w : World} (h : (w.alloc o).heap.size = m) : ∀ x, x < n → (False ∨ m ≤ x) → (Q x ∨ w.heap.size ≤ x) ∧ x ≠ w.heap.size := fun x _ hq => by
  rcases hq with hq | hq
  · exact hq.elim
  · simp at h; exact ⟨.inr (by omega), by omega⟩
def lenV (vs : List Val) : Val := bif (vs.getD 0 Val.none).k == 2 then Val.int (vs.getD 0 Val.none).s.size else bif (vs.getD 0 Val.none).k == 3 then Val.int (vs.getD 0 Val.none).items.length else Val.none
set_option maxHeartbeats 4000000 in
theorem doLen_ok : DoOK 156 1 lenV := ⟨fun w A c vs Q hn hl hQ hv => by
  obtain ⟨ad, B, d, rfl, g0, g1, g2, g3, ha⟩ := arg0 hl (by omega) (.cells #[.int .i64 0, .int .i64 0, .string ⟨#[]⟩, .slice none 0 0] 42)
  obtain ⟨R, hR⟩ : ∃ R, lenV vs = R := ⟨_, rfl⟩
  rw [hR]
  unfold lenV at hR
  obtain ⟨x, hx⟩ : ∃ x, vs.getD 0 Val.none = x := ⟨_, rfl⟩
  rw [hx] at hR g0 g1 g2 g3 ha
  have HR := Ad.mk hR
  have h1 := ha.s
  have h2 := ha.l.out.2.1
  rw [hn]
  clear hR hx hl hQ hv hn ha
  go_enter Tryz.func156, Tryz.ntmps156
  go_wp2_with (go_at_call 177; refine (ofInt_calls (fun _ => False) _ _ (by unfold I64; omega)).mono ?_; rintro e2 w2 ⟨A2, c2, rfl, ha2, hb2⟩; obtain ⟨k2, z2, y2, HB2⟩ := kcell (w.heap.size + 1) hb2 (by simp); have HA2 := Ad.mk ha2; clear ha2 hb2)
  · have e : R = Val.int x.s.size := by rw [← HR.out]; simp only [‹(x.k == 2) = true›, cond_true]
    rw [e]
    exact RetV.fin HA2.out rfl rfl rfl (blk_below (blk_new2 rfl) HB2.out) rfl (below_then (below_alloc (Below.refl _ _) _) HB2.out) (Nat.le_refl _) (newQ rfl)
  · have e : R = Val.int x.items.length := by rw [← HR.out]; simp only [‹(x.k == 2) = false›, ‹(x.k == 3) = true›, cond_true, cond_false]
    rw [e]
    exact RetV.fin HA2.out rfl rfl rfl (blk_below (blk_new2 rfl) HB2.out) rfl (below_then (below_alloc (Below.refl _ _) _) HB2.out) (Nat.le_refl _) (newQ rfl)
  · have e : R = Val.none := by rw [← HR.out]; simp only [‹(x.k == 2) = false›, ‹(x.k == 3) = false›, cond_true, cond_false]
    rw [e]
    exact RetV.fin0 (VA.none (fun _ => False) w Option.none 0) rfl rfl rfl rfl (Below.refl _ _) (fun _ _ h => h.elim)⟩
end Go.Proofs.YtahnelihohmjfaaGreatDoor.V
namespace Go.Proofs.YtahnelihohmjfaaGreatDoor.V
open Go.RowKit
set_option linter.unusedVariables false
set_option linter.unusedSimpArgs false
def kindV (vs : List Val) : Val := Val.int (vs.getD 0 Val.none).k
set_option maxHeartbeats 8000000 in
set_option maxRecDepth 100000 in
theorem doKind_ok : DoOK 157 1 kindV := ⟨fun w A c vs Q hn hl hQ hv => by
  obtain ⟨ad, B0, d0, rfl, g00, g01, g02, g03, ha0⟩ := arg0 hl (by omega) (.cells #[.int .i64 0, .int .i64 0, .string ⟨#[]⟩, .slice none 0 0] 42)
  obtain ⟨R, hR⟩ : ∃ R, kindV vs = R := ⟨_, rfl⟩
  rw [hR]
  unfold kindV at hR
  have hm0 : vs.getD 0 Val.none ∈ vs := by rw [List.getD_eq_getElem?_getD, List.getElem?_eq_getElem (by omega)]; exact List.getElem_mem _
  have hv0 := hv _ hm0
  obtain ⟨x0, hx0⟩ : ∃ x, vs.getD 0 Val.none = x := ⟨_, rfl⟩
  rw [hx0] at hR g00 g01 g02 g03 ha0 hv0
  have HA0 := Ad.mk ha0
  have HV0 := Ad.mk hv0
  have HR := Ad.mk hR
  have HQ := Ad.mk hQ
  have hk0 := (valid_f hv0).k0
  have hk3 := (valid_f hv0).k3
  rw [hn]
  clear hR hl hQ hv hn hm0 hv0 hx0 ha0
  go_enter Tryz.func157, Tryz.ntmps157
  go_wp2_with (go_at_call 177; refine (ofInt_calls (fun _ => False) _ _ (by unfold I64; omega)).mono ?_; rintro e2 w2 ⟨A2, c2, rfl, ha2, hb2⟩; obtain ⟨k2, z2, y2, HB2⟩ := kcell (w.heap.size + 1) hb2 (by simp); have HA2 := Ad.mk ha2; clear ha2 hb2)
  rw [← HR.out]
  exact RetV.fin HA2.out rfl rfl rfl (blk_below (blk_new2 rfl) HB2.out) rfl (below_then (below_alloc (Below.refl _ _) _) HB2.out) (Nat.le_refl _) (newQ rfl)⟩
def placeV (i : Int) (n : Nat) : Int := if i < 0 then (if i + n < 0 ∨ n < i + n then -1 else i + n) else (if n < i then -1 else i)
set_option maxHeartbeats 2000000 in
theorem place_calls (i : Int) (n : Nat) (w : World) (hi : I64 i) (hn : n ≤ 140737488355328) : Calls Tryz.prog 186 #[.int .i64 i, .int .i64 n] w (Ret w (.int .i64 (placeV i n))) := by
  obtain ⟨R, hR⟩ : ∃ R, placeV i n = R := ⟨_, rfl⟩
  rw [hR]
  have HR := Ad.mk hR
  have h1 := hi.1
  have h2 := hi.2
  clear hR hi
  go_enter Tryz.func186, Tryz.ntmps186
  go_wp2_with fail
  all_goals
    go_ret
    refine ⟨?_, Below.refl _ _⟩
    rw [← HR.out]
    refine congrArg (fun z => Ending.returned (.int .i64 z)) ?_
    show _ = placeV i n
    unfold placeV
    first | (rw [if_pos (by omega), if_pos (by omega)]; done) | (rw [if_pos (by omega), if_neg (by omega)]; done) | (rw [if_neg (by omega), if_pos (by omega)]; done) | (rw [if_neg (by omega), if_neg (by omega)]; done)
def minV (vs : List Val) : Val := bif decide (cmpV (vs.getD 0 Val.none) (vs.getD 1 Val.none) ≤ 0) then vs.getD 0 Val.none else vs.getD 1 Val.none
set_option maxHeartbeats 8000000 in
set_option maxRecDepth 100000 in
theorem doMin_ok : DoOK 166 2 minV := ⟨fun w A c vs Q hn hl hQ hv => by
  obtain ⟨ad, B0, d0, rfl, g00, g01, g02, g03, ha0⟩ := arg0 hl (by omega) (.cells #[.int .i64 0, .int .i64 0, .string ⟨#[]⟩, .slice none 0 0] 42)
  obtain ⟨B1, d1, g10, g11, g12, g13, ha1⟩ := arg_at hl 1 4 rfl (by omega) (by omega) (.cells #[.int .i64 0, .int .i64 0, .string ⟨#[]⟩, .slice none 0 0] 42)
  obtain ⟨R, hR⟩ : ∃ R, minV vs = R := ⟨_, rfl⟩
  rw [hR]
  unfold minV at hR
  have hm0 : vs.getD 0 Val.none ∈ vs := by rw [List.getD_eq_getElem?_getD, List.getElem?_eq_getElem (by omega)]; exact List.getElem_mem _
  have hv0 := hv _ hm0
  obtain ⟨x0, hx0⟩ : ∃ x, vs.getD 0 Val.none = x := ⟨_, rfl⟩
  rw [hx0] at hR g00 g01 g02 g03 ha0 hv0
  have HA0 := Ad.mk ha0
  have HV0 := Ad.mk hv0
  have hm1 : vs.getD 1 Val.none ∈ vs := by rw [List.getD_eq_getElem?_getD, List.getElem?_eq_getElem (by omega)]; exact List.getElem_mem _
  have hv1 := hv _ hm1
  obtain ⟨x1, hx1⟩ : ∃ x, vs.getD 1 Val.none = x := ⟨_, rfl⟩
  rw [hx1] at hR g10 g11 g12 g13 ha1 hv1
  have HA1 := Ad.mk ha1
  have HV1 := Ad.mk hv1
  have HR := Ad.mk hR
  have HQ := Ad.mk hQ
  obtain ⟨r, hr⟩ : ∃ r, cmpV x0 x1 = r := ⟨_, rfl⟩
  rw [hr] at hR
  have Hr := Ad.mk hr
  clear hr
  have HR := Ad.mk hR
  rw [hn]
  clear hR hl hQ hv hn hm0 hv0 hx0 ha0 hm1 hv1 hx1 ha1
  go_enter Tryz.func166, Tryz.ntmps166
  go_wp2_with fail
  go_region_held3 (fun w' => w'.cell? ad = some (.int .i64 x0.k) ∧ w'.cell? ⟨ad.block, ad.off + 1, none⟩ = some (.int .i64 x0.n) ∧ w'.cell? ⟨ad.block, ad.off + 2, none⟩ = some (.string x0.s) ∧ w'.cell? ⟨ad.block, ad.off + 3, none⟩ = some (.slice B0 x0.items.length d0) ∧ w'.cell? ⟨ad.block, ad.off + 4, none⟩ = some (.int .i64 x1.k) ∧ w'.cell? ⟨ad.block, ad.off + 4 + 1, none⟩ = some (.int .i64 x1.n) ∧ w'.cell? ⟨ad.block, ad.off + 4 + 2, none⟩ = some (.string x1.s) ∧ w'.cell? ⟨ad.block, ad.off + 4 + 3, none⟩ = some (.slice B1 x1.items.length d1)) (first | go_keep | ((repeat' refine And.intro ?_ ?_) <;> exact cell_below hb1 (by assumption))) ((go_at_call 182; refine (compare_calls Q Q B0 B1 d0 d1 x0 x1 _ (by exact HA0.out.below (below_alloc (Below.refl _ _) _).drew) (by exact HA1.out.below (below_alloc (Below.refl _ _) _).drew)).mono ?_; rintro e1 w1 ⟨rfl, hb1⟩; rw [Hr.out]))
  have HB1 := Ad.mk (below_then (Below.refl _ _).drew hb1)
  obtain ⟨k1, z1, y1, HB1'⟩ := kcell (w.heap.size + 1) hb1 (by simp)
  clear hb1 g00 g01 g02 g03 g10 g11 g12 g13
  go_wp2_with fail
  · have e : R = x0 := by rw [← HR.out, decide_eq_true (by omega)]; rfl
    rw [e]
    exact RetV.fin ((HA0.out.below (below_alloc (Below.refl _ _) _)).below HB1.out) rfl rfl rfl (blk_below (blk_new2 rfl) HB1.out) rfl (below_then (below_alloc (Below.refl _ _) _) HB1.out) (Nat.le_refl _) (fun x _ hq => ⟨.inl hq, by have := HQ.out x hq; omega⟩)
  · have e : R = x1 := by rw [← HR.out, decide_eq_false (by omega)]; rfl
    rw [e]
    exact RetV.fin ((HA1.out.below (below_alloc (Below.refl _ _) _)).below HB1.out) rfl rfl rfl (blk_below (blk_new2 rfl) HB1.out) rfl (below_then (below_alloc (Below.refl _ _) _) HB1.out) (Nat.le_refl _) (fun x _ hq => ⟨.inl hq, by have := HQ.out x hq; omega⟩)⟩
def maxV (vs : List Val) : Val := bif decide (0 ≤ cmpV (vs.getD 0 Val.none) (vs.getD 1 Val.none)) then vs.getD 0 Val.none else vs.getD 1 Val.none
set_option maxHeartbeats 8000000 in
set_option maxRecDepth 100000 in
theorem doMax_ok : DoOK 167 2 maxV := ⟨fun w A c vs Q hn hl hQ hv => by
  obtain ⟨ad, B0, d0, rfl, g00, g01, g02, g03, ha0⟩ := arg0 hl (by omega) (.cells #[.int .i64 0, .int .i64 0, .string ⟨#[]⟩, .slice none 0 0] 42)
  obtain ⟨B1, d1, g10, g11, g12, g13, ha1⟩ := arg_at hl 1 4 rfl (by omega) (by omega) (.cells #[.int .i64 0, .int .i64 0, .string ⟨#[]⟩, .slice none 0 0] 42)
  obtain ⟨R, hR⟩ : ∃ R, maxV vs = R := ⟨_, rfl⟩
  rw [hR]
  unfold maxV at hR
  have hm0 : vs.getD 0 Val.none ∈ vs := by rw [List.getD_eq_getElem?_getD, List.getElem?_eq_getElem (by omega)]; exact List.getElem_mem _
  have hv0 := hv _ hm0
  obtain ⟨x0, hx0⟩ : ∃ x, vs.getD 0 Val.none = x := ⟨_, rfl⟩
  rw [hx0] at hR g00 g01 g02 g03 ha0 hv0
  have HA0 := Ad.mk ha0
  have HV0 := Ad.mk hv0
  have hm1 : vs.getD 1 Val.none ∈ vs := by rw [List.getD_eq_getElem?_getD, List.getElem?_eq_getElem (by omega)]; exact List.getElem_mem _
  have hv1 := hv _ hm1
  obtain ⟨x1, hx1⟩ : ∃ x, vs.getD 1 Val.none = x := ⟨_, rfl⟩
  rw [hx1] at hR g10 g11 g12 g13 ha1 hv1
  have HA1 := Ad.mk ha1
  have HV1 := Ad.mk hv1
  have HR := Ad.mk hR
  have HQ := Ad.mk hQ
  obtain ⟨r, hr⟩ : ∃ r, cmpV x0 x1 = r := ⟨_, rfl⟩
  rw [hr] at hR
  have Hr := Ad.mk hr
  clear hr
  have HR := Ad.mk hR
  rw [hn]
  clear hR hl hQ hv hn hm0 hv0 hx0 ha0 hm1 hv1 hx1 ha1
  go_enter Tryz.func167, Tryz.ntmps167
  go_wp2_with fail
  go_region_held3 (fun w' => w'.cell? ad = some (.int .i64 x0.k) ∧ w'.cell? ⟨ad.block, ad.off + 1, none⟩ = some (.int .i64 x0.n) ∧ w'.cell? ⟨ad.block, ad.off + 2, none⟩ = some (.string x0.s) ∧ w'.cell? ⟨ad.block, ad.off + 3, none⟩ = some (.slice B0 x0.items.length d0) ∧ w'.cell? ⟨ad.block, ad.off + 4, none⟩ = some (.int .i64 x1.k) ∧ w'.cell? ⟨ad.block, ad.off + 4 + 1, none⟩ = some (.int .i64 x1.n) ∧ w'.cell? ⟨ad.block, ad.off + 4 + 2, none⟩ = some (.string x1.s) ∧ w'.cell? ⟨ad.block, ad.off + 4 + 3, none⟩ = some (.slice B1 x1.items.length d1)) (first | go_keep | ((repeat' refine And.intro ?_ ?_) <;> exact cell_below hb1 (by assumption))) ((go_at_call 182; refine (compare_calls Q Q B0 B1 d0 d1 x0 x1 _ (by exact HA0.out.below (below_alloc (Below.refl _ _) _).drew) (by exact HA1.out.below (below_alloc (Below.refl _ _) _).drew)).mono ?_; rintro e1 w1 ⟨rfl, hb1⟩; rw [Hr.out]))
  have HB1 := Ad.mk (below_then (Below.refl _ _).drew hb1)
  obtain ⟨k1, z1, y1, HB1'⟩ := kcell (w.heap.size + 1) hb1 (by simp)
  clear hb1 g00 g01 g02 g03 g10 g11 g12 g13
  go_wp2_with fail
  · have e : R = x0 := by rw [← HR.out, decide_eq_true (by omega)]; rfl
    rw [e]
    exact RetV.fin ((HA0.out.below (below_alloc (Below.refl _ _) _)).below HB1.out) rfl rfl rfl (blk_below (blk_new2 rfl) HB1.out) rfl (below_then (below_alloc (Below.refl _ _) _) HB1.out) (Nat.le_refl _) (fun x _ hq => ⟨.inl hq, by have := HQ.out x hq; omega⟩)
  · have e : R = x1 := by rw [← HR.out, decide_eq_false (by omega)]; rfl
    rw [e]
    exact RetV.fin ((HA1.out.below (below_alloc (Below.refl _ _) _)).below HB1.out) rfl rfl rfl (blk_below (blk_new2 rfl) HB1.out) rfl (below_then (below_alloc (Below.refl _ _) _) HB1.out) (Nat.le_refl _) (fun x _ hq => ⟨.inl hq, by have := HQ.out x hq; omega⟩)⟩
end Go.Proofs.YtahnelihohmjfaaGreatDoor.V
