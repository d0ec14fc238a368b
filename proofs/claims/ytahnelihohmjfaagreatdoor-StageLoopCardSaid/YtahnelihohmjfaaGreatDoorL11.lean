/- A part of the walk (V44, V38). -/
import Derived.Test.YtahnelihohmjfaaGreatDoorL10
import Derived.WideLaws
namespace Go.Proofs.YtahnelihohmjfaaGreatDoor.V
open Go.RowKit
set_option linter.unusedVariables false
set_option linter.unusedSimpArgs false
theorem store_func (a : Addr) (f : Fn) (x y : Array Value) (m : Mode) (w : World) : (store a (.func f x y) m).run Tryz.prog w = stored Tryz.prog w a (.func f x y) m := run_store Tryz.prog w a _ m rfl
theorem store_nilFunc (a : Addr) (m : Mode) (w : World) : (store a .nilFunc m).run Tryz.prog w = stored Tryz.prog w a .nilFunc m := run_store Tryz.prog w a _ m rfl
def FindR (w : World) (e : Ending) (w' : World) : Prop := ∃ s n f b, e = .returned (.tuple #[.agg #[.string s, .int .i64 n, f], .bool b]) ∧ Below w.heap.size w w' ∧ (∀ (a : Addr) (m : Mode) (w : World), (store a f m).run Tryz.prog w = stored Tryz.prog w a f m) ∧ (b = true → BiOK s n f)
theorem bi_fin {W : World} {b : Nat} {n : Int} {s : ByteArray} {f : Value} {bb : Bool} {fn : Func} {A : Act} {R : Ending → World → Prop} (hfn : fn.results = #[.cell 2 222, .tmp 3]) (ha : A.tmps.getD 2 undef = .pointer (some ⟨b, 0, Option.none⟩)) (hr : A.tmps.getD 3 undef = .bool bb) (hd : A.defers = [])
    (h0 : W.heap[b]? = some (.cells #[.string s, .int .i64 n, f] 222 (0, 0))) (hR : R (.returned (.tuple #[.agg #[.string s, .int .i64 n, f], .bool bb])) W) :
    bodyPost Tryz.prog fn R .ret A W := by
  have g0 := blk_cell h0 0
  have g1 := blk_cell h0 1
  have g2 := blk_cell h0 2
  simp at g0 g1 g2
  refine ⟨hd, .tuple #[.agg #[.string s, .int .i64 n, f], .bool bb], ?_, hR⟩
  rw [Array.getD_eq_getD_getElem?] at ha hr
  simp [results, hfn, ha, hr, go_sem, g0, g1, g2]
set_option maxHeartbeats 8000000 in
set_option maxRecDepth 100000 in
theorem find_calls (s : ByteArray) (w : World) : Calls Tryz.prog 133 #[.string s] w (FindR w) := by
  go_enter Tryz.func133, Tryz.ntmps133
  go_wp2_with (go_at_call 145; refine (builtins_calls _).mono ?_; rintro e1 w1 ⟨rfl, hw1⟩; have HW1 := Ad.mk hw1; clear hw1)
  have hbb := blk_new (w.alloc (.cells #[.string ⟨#[]⟩, .int .i64 0, .nilFunc] 222)) (.cells (biN.flatMap biC).toArray 222 (0, 0))
  have hbr := blk_alloc (blk_new w (.cells #[.string ⟨#[]⟩, .int .i64 0, .nilFunc] 222)) (.cells (biN.flatMap biC).toArray 222 (0, 0))
  have hb0 : Below w.heap.size w ((w.alloc (.cells #[.string ⟨#[]⟩, .int .i64 0, .nilFunc] 222)).alloc (.cells (biN.flatMap biC).toArray 222 (0, 0))) := below_alloc (below_alloc (Below.refl _ _) _) _
  rw [← HW1.out] at hbb hbr hb0
  have HBB := Ad.mk hbb
  have HBR := Ad.mk hbr
  have HB0 := Ad.mk hb0
  clear hbb hbr hb0
  go_loopw [5, 8] (fun v5 v8 wr => ∃ i : Nat, i ≤ 14 ∧ v8 = .int .i64 i ∧ Below w1.heap.size w1 wr) (fun _ v8 _ => 14 - (intOf v8).toNat)
  case atStart => exact ⟨0, by omega, rfl, Below.refl _ _⟩
  case round =>
    obtain ⟨i, hi, rfl, hbw⟩ := hrel
    have HBW := Ad.mk hbw
    have hbb := blk_below HBB.out hbw
    have hbr := blk_below HBR.out hbw
    have r0 := blk_cell hbr 0
    have r1 := blk_cell hbr 1
    have r2 := blk_cell hbr 2
    have rf := fun j => blk_frozen hbr j
    have rl := blk_lt hbr
    have rl2 : ¬ w.heap.size = wr.heap.size := by omega
    have rl3 : ¬ wr.heap.size = w.heap.size := by omega
    clear hbw
    by_cases hlt : i < 14
    · have j0 : (0 : Int) ≤ (i : Int) := by omega
      have j1 : (i : Int) < 14 := by omega
      obtain ⟨x, hx⟩ : ∃ x, biN.getD i default = x := ⟨_, rfl⟩
      have hxm : x ∈ biN := by rw [← hx, List.getD_eq_getElem?_getD, List.getElem?_eq_getElem (by exact hlt)]; exact List.getElem_mem _
      have hok := bi_ok x hxm
      obtain ⟨b0, b1, b2⟩ := bi_cells i hlt
      rw [hx] at b0 b1 b2
      have g0 := (blk_cell hbb (i * 3)).trans b0
      have g1 := (blk_cell hbb (i * 3 + 1)).trans b1
      have g2 := (blk_cell hbb (i * 3 + 2)).trans b2
      have HOK := Ad.mk hok
      clear b0 b1 b2 hbb hbr hx hxm hok
      rw [show (w.alloc (.cells #[.string ⟨#[]⟩, .int .i64 0, .nilFunc] 222)).heap.size = w.heap.size + 1 by simp] at g0 g1 g2
      have hst := store_func
      go_wp2_with fail
      · have hb3 := blk_put (blk_put (blk_put (blk_below HBR.out HBW.out) 0 (.string x.1) rfl) 1 (.int .i64 x.2.1) rfl) 2 (.func (.func x.2.2) #[] #[]) rfl
        have hc3 := (((Chg.refl wr (· = w.heap.size)).set rfl 0 (.string x.1)).set rfl 1 (.int .i64 x.2.1)).set rfl 2 (.func (.func x.2.2) #[] #[])
        exact bi_fin (b := w.heap.size) rfl rfl rfl rfl (blk_alloc hb3 _) ⟨_, _, _, _, rfl, below_then (below_chg (below_then HB0.out HBW.out) hc3 (fun q hq => Nat.le_of_eq hq.symm)) (below_alloc (Below.refl _ _) _), fun a m w => store_func a _ _ _ m w, fun _ => HOK.out⟩
      · exact ⟨⟨i + 1, by omega, by go_num, below_then HBW.out (below_alloc (Below.refl _ _) _)⟩, by simp [intOf]; omega⟩
    · clear hbb hbr
      have hst := store_nilFunc
      go_wp2_with fail
      have hb3 := blk_put (blk_put (blk_put (blk_below HBR.out HBW.out) 0 (.string ⟨#[]⟩) rfl) 1 (.int .i64 0) rfl) 2 .nilFunc rfl
      have hc3 := (((Chg.refl wr (· = w.heap.size)).set rfl 0 (.string ⟨#[]⟩)).set rfl 1 (.int .i64 0)).set rfl 2 .nilFunc
      exact bi_fin (b := w.heap.size) rfl rfl rfl rfl hb3 ⟨_, _, _, _, rfl, below_chg (below_then HB0.out HBW.out) hc3 (fun q hq => Nat.le_of_eq hq.symm), fun a m w => store_nilFunc a m w, fun h => by cases h⟩
end Go.Proofs.YtahnelihohmjfaaGreatDoor.V
namespace Go.Proofs.YtahnelihohmjfaaGreatDoor.V
open Go.RowKit
set_option linter.unusedVariables false
set_option linter.unusedSimpArgs false
/-! ### nodes are made ready -/
/-- what 'ready' leaves: a function value of the language, however the blocks of X change afterwards -/
def ReadyR (X : Nat → Prop) (w : World) (e : Ending) (w' : World) : Prop := ∃ f F, e = .returned f ∧ (∀ w2, Chg w' w2 X → Ev w2 f F) ∧ Below w.heap.size w w'
/-- a node whose 'ready', in every later world, comes to a function value of the language -/
def RdyOK (Q : Nat → Prop) (w : World) (v : Value) : Prop := ∃ T q k, v = .iface T q ∧ (∀ w, (method 464 T q "eddy/expr.ready").run Tryz.prog w = .ok (k, q) w) ∧ (∀ args w, (callFunc k args).run Tryz.prog w = .ok (.enter k args) w) ∧ ∀ X N0 w', Chg w w' X → (∀ b, X b → (Q b → w.heap.size ≤ b) ∧ N0 ≤ b ∧ b < w'.heap.size) → GVb w' N0 → Calls Tryz.prog k #[q] w' (ReadyR X w')
theorem chg_new {w w2 : World} {o : Obj} {X : Nat → Prop} (hc : Chg (w.alloc o) w2 X) (hX : ∀ b, X b → b < w.heap.size) : w2.heap[w.heap.size]? = some o := (hc.block _ (by simp) (fun h => absurd (hX _ h) (by omega))).trans (blk_new w o)
theorem chg_old {w w2 : World} {b : Nat} {o o' : Obj} {X : Nat → Prop} (hc : Chg (w.alloc o') w2 X) (hb : w.heap[b]? = some o) (hX : ¬ X b) : w2.heap[b]? = some o := (hc.block b (by have := blk_lt hb; simp; omega) hX).trans (blk_alloc hb _)
theorem chg_cut {w w2 : World} {o : Obj} {X : Nat → Prop} (hc : Chg (w.alloc o) w2 X) : Chg w w2 X := (Chg.of_below (below_alloc (Below.refl _ _) _)).trans hc
theorem valid_int (n : Int) : checkP (Val.int n) = 0 := by simp [Val.int, checkP, partV, partL, headE, ByteArray.size]
theorem valid_text (s : ByteArray) (h : s.size ≤ 24) : checkP (Val.text s) = 0 := by
  have : ¬ 24 < s.size := by omega
  simp [Val.text, checkP, partV, partL, headE, this]
theorem valid_bool (b : Bool) : checkP (Val.bool b) = 0 := valid_int _
theorem valid_none : checkP Val.none = 0 := by simp [Val.none, checkP, partV, partL, headE, ByteArray.size]
theorem valid_word (s : ByteArray) {E : EnvV} (h : E.ok) : checkP (wordV s E) = 0 := by
  unfold wordV
  obtain ⟨h1, h2, h3, h4⟩ := h
  repeat' split
  all_goals first | assumption | exact valid_none
theorem valid_neg (v : Val) : checkP (negV v) = 0 := by
  unfold negV
  split
  · exact valid_none
  · exact valid_int _
theorem valid_cond {c a b : Val} (ha : checkP a = 0) (hb : checkP b = 0) : checkP (condV c a b) = 0 := by
  unfold condV
  split <;> assumption
theorem store_func' (a : Addr) (f : Fn) (x y : Array Value) (m : Mode) (w : World) : (store a (.func f x y) m).run Tryz.prog w = stored Tryz.prog w a (.func f x y) m := run_store Tryz.prog w a _ m rfl
set_option maxHeartbeats 4000000 in
theorem number_ready (b : Nat) (n : Int) (w : World) (hb : w.heap[b]? = some (.cells #[.int .i64 n] 195 (0, 0))) (hn : I64 n) (X : Nat → Prop) (hX : ¬ X b) (hXs : ∀ b, X b → b < w.heap.size) : Calls Tryz.prog 269 #[.pointer (some ⟨b, 0, none⟩)] w (ReadyR X w) := by
  go_enter Tryz.func269, Tryz.ntmps269
  have hmf : ∀ (fn : Fn) (first cap : Array Value) (w : World), (Instr.makeFunc fn first cap).run Tryz.prog w = .ok (.func fn first cap) w := fun _ _ _ _ => rfl
  go_wp2_with fail
  go_ret
  have hB := below_alloc (Below.refl _ w) (.cells #[.pointer (some ⟨b, 0, none⟩)] 192)
  exact ⟨_, fun _ => Val.int n, rfl, fun w2 hc2 => ⟨⟨_, _, rfl, enters Tryz.func270 (by kernel_rfl) (by kernel_rfl), fun w' a E Q hb' hE hQ hok => number_calls w.heap.size b n w2 w' (chg_new hc2 hXs) (chg_old hc2 hb hX) hn a Q hb'⟩, fun E _ => valid_int n⟩, hB⟩
set_option maxHeartbeats 4000000 in
theorem quote_ready (b : Nat) (s : ByteArray) (w : World) (hb : w.heap[b]? = some (.cells #[.string s] 201 (0, 0))) (hn : s.size ≤ 24) (X : Nat → Prop) (hX : ¬ X b) (hXs : ∀ b, X b → b < w.heap.size) : Calls Tryz.prog 271 #[.pointer (some ⟨b, 0, none⟩)] w (ReadyR X w) := by
  go_enter Tryz.func271, Tryz.ntmps271
  have hmf : ∀ (fn : Fn) (first cap : Array Value) (w : World), (Instr.makeFunc fn first cap).run Tryz.prog w = .ok (.func fn first cap) w := fun _ _ _ _ => rfl
  go_wp2_with fail
  go_ret
  have hB := below_alloc (Below.refl _ w) (.cells #[.pointer (some ⟨b, 0, none⟩)] 196)
  exact ⟨_, fun _ => Val.text s, rfl, fun w2 hc2 => ⟨⟨_, _, rfl, enters Tryz.func272 (by kernel_rfl) (by kernel_rfl), fun w' a E Q hb' hE hQ hok => quote_calls w.heap.size b s w2 w' (chg_new hc2 hXs) (chg_old hc2 hb hX) hn a Q hb'⟩, fun E _ => valid_text s hn⟩, hB⟩
set_option maxHeartbeats 4000000 in
theorem word_ready (b : Nat) (s : ByteArray) (w : World) (hb : w.heap[b]? = some (.cells #[.string s] 204 (0, 0))) (X : Nat → Prop) (hX : ¬ X b) (hXs : ∀ b, X b → b < w.heap.size) : Calls Tryz.prog 273 #[.pointer (some ⟨b, 0, none⟩)] w (ReadyR X w) := by
  go_enter Tryz.func273, Tryz.ntmps273
  have hmf : ∀ (fn : Fn) (first cap : Array Value) (w : World), (Instr.makeFunc fn first cap).run Tryz.prog w = .ok (.func fn first cap) w := fun _ _ _ _ => rfl
  go_wp2_with fail
  go_ret
  have hB := below_alloc (Below.refl _ w) (.cells #[.pointer (some ⟨b, 0, none⟩)] 202)
  exact ⟨_, wordV s, rfl, fun w2 hc2 => ⟨⟨_, _, rfl, enters Tryz.func274 (by kernel_rfl) (by kernel_rfl), fun w' a E Q hb' hE hQ hok => word_calls w.heap.size b s w2 w' (chg_new hc2 hXs) (chg_old hc2 hb hX) a E Q hb' hE hQ⟩, fun E hE => valid_word s hE⟩, hB⟩
set_option maxHeartbeats 4000000 in
set_option maxRecDepth 100000 in
theorem unary_ready (b : Nat) (op : ByteArray) (a : Value) (w : World) (hb : w.heap[b]? = some (.cells #[.string op, a] 207 (0, 0))) (Q : Nat → Prop) (wN : World) (ha : RdyOK Q wN a) (X : Nat → Prop) (N0 : Nat) (hcX : Chg wN w X) (hX : ∀ b, X b → (Q b → wN.heap.size ≤ b) ∧ N0 ≤ b ∧ b < w.heap.size) (hG : GVb w N0) : Calls Tryz.prog 275 #[.pointer (some ⟨b, 0, none⟩)] w (ReadyR X w) := by
  obtain ⟨T, q, k, rfl, hm, hk, hc⟩ := ha
  have c0 := blk_cell hb 0
  have c1 := blk_cell hb 1
  simp at c0 c1
  have hl := blk_lt hb
  have HC := Ad.mk (hc X N0 w hcX hX hG)
  have HXS : Ad (∀ b, X b → b < w.heap.size) := ⟨fun b h => (hX b h).2.2⟩
  have HB := Ad.mk hb
  have hmf : ∀ (fn : Fn) (first cap : Array Value) (w : World), (Instr.makeFunc fn first cap).run Tryz.prog w = .ok (.func fn first cap) w := fun _ _ _ _ => rfl
  clear hb hc hcX hX hG
  go_enter Tryz.func275, Tryz.ntmps275
  have hst := store_func'
  go_wp2_with ((with_reducible refine (HC.out).mono ?_); rintro e1 w1 ⟨f, F, rfl, hev, hb1⟩; have HB1 := Ad.mk hb1; have HEV := Ad.mk hev; have HXS1 : Ad (∀ b, X b → b < w1.heap.size) := (⟨fun b h => Nat.lt_of_lt_of_le (HXS.out b h) hb1.size⟩); replace c0 := cell_below hb1 c0; have l1 := Nat.lt_of_lt_of_le hl hb1.size; obtain ⟨kf, cap, rfl, _⟩ := (hev w1 (Chg.refl _ _)).calls; clear hb1 hev c1)
  · go_ret
    exact ⟨_, fun E => Val.bool (!truthV (F E)), rfl, fun w2 hc2 => ⟨⟨_, _, rfl, enters Tryz.func276 (by kernel_rfl) (by kernel_rfl), fun w' a E Q hb' hE hQ hok => not_calls w1.heap.size _ F w2 w' (chg_new hc2 HXS1.out) (HEV.out w2 (chg_cut hc2)) a E Q hb' hE hQ hok⟩, fun E _ => valid_bool _⟩, below_then HB1.out (below_alloc (Below.refl _ _) _)⟩
  · go_ret
    exact ⟨_, fun E => negV (F E), rfl, fun w2 hc2 => ⟨⟨_, _, rfl, enters Tryz.func277 (by kernel_rfl) (by kernel_rfl), fun w' a E Q hb' hE hQ hok => neg_calls w1.heap.size _ F w2 w' (chg_new hc2 HXS1.out) (HEV.out w2 (chg_cut hc2)) a E Q hb' hE hQ hok⟩, fun E _ => valid_neg _⟩, below_then HB1.out (below_alloc (Below.refl _ _) _)⟩
end Go.Proofs.YtahnelihohmjfaaGreatDoor.V
