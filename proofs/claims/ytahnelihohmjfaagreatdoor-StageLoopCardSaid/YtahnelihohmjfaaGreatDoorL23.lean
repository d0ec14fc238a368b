/- A part of the walk (V93, V94, V95, V96, V97, V98, V99, V100, V101). -/
import Derived.Test.YtahnelihohmjfaaGreatDoorL22
import Derived.Test.YtahnelihohmjfaaGreatDoorShelf
import Derived.Maps.RangeRun
import Derived.BigQuiet
import Derived.Deep.CutBlock
namespace Go.Proofs.YtahnelihohmjfaaGreatDoor.V
open Go.RowKit
set_option linter.unusedVariables false
set_option linter.unusedSimpArgs false
/-! ### a keeper of the empty state, and back -/
theorem u114 : Tryz.prog.underlying 114 = some (.map 9 40) := by kernel_rfl
theorem range0 (m : Nat) (w : World) (h : w.heap[m]? = some (.map #[] 0)) : (Instr.range 114 (.map (some m))).run Tryz.prog w = .ok (.pointer (some ⟨w.heap.size, 0, none⟩)) (w.alloc (.mapIter (some m) 0 #[] 0)) := by
  simp [Instr.range, Result.andThen, run_underlying u114, MapKept.run_getObj_map h, go_sem]
theorem next0 (m r : Nat) (ty : TypeId) (w : World) (h : w.heap[m]? = some (.map #[] 0)) (hr : w.heap[r]? = some (.mapIter (some m) 0 #[] 0)) : (Instr.next (.pointer (some ⟨r, 0, none⟩)) false ty).run Tryz.prog w = .ok (.tuple #[.bool false]) w := by
  rcases Go.run_next_at (P := Tryz.prog) w ty r m 0 0 #[] #[] 0 hr h (by simp) (by omega) with ⟨_, h2⟩ | ⟨e, he, _⟩
  · exact h2
  · simp [Go.leftOf] at he
theorem three_worlds (w : World) (o1 o2 o3 : Obj) : (((w.alloc o1).alloc o2).alloc o3).heap[w.heap.size + 2]? = some o3 ∧ (((w.alloc o1).alloc o2).alloc o3).heap[w.heap.size + 1]? = some o2 ∧ Below w.heap.size w (((w.alloc o1).alloc o2).alloc o3) := by
  have e1 : (w.alloc o1).heap.size = w.heap.size + 1 := Array.size_push _
  have e2 : ((w.alloc o1).alloc o2).heap.size = w.heap.size + 2 := (Array.size_push _).trans (congrArg (· + 1) e1)
  refine ⟨blk_new2 e2, blk_below (blk_new2 e1) (below_alloc (Below.refl _ _) _), below_alloc (below_alloc (below_alloc (Below.refl _ _) _) _) _⟩
theorem state_fin {W : World} {b t : Nat} {c0 c1 : Value} {fn : Func} {A : Act} {R : Ending → World → Prop} (hfn : fn.results = #[.cell t 35]) (ha : A.tmps.getD t undef = .pointer (some ⟨b, 0, Option.none⟩)) (hd : A.defers = [])
    (h0 : W.heap[b]? = some (.cells #[c0, c1] 35 (0, 0))) (hR : R (.returned (.agg #[c0, c1])) W) : bodyPost Tryz.prog fn R .ret A W := by
  have g0 := blk_cell h0 0
  have g1 := blk_cell h0 1
  simp at g0 g1
  refine ⟨hd, .agg #[c0, c1], ?_, hR⟩
  rw [Array.getD_eq_getD_getElem?] at ha
  simp [results, hfn, ha, go_sem, g0, g1]
set_option maxHeartbeats 4000000 in
set_option maxRecDepth 100000 in
theorem taken0 (w : World) : Calls Tryz.prog 43 #[.agg #[.int .i64 0, .slice none 0 0]] w (fun e w' => e = .returned (.pointer (some ⟨w.heap.size + 2, 0, none⟩)) ∧ w'.heap[w.heap.size + 2]? = some (.cells #[.int .i64 0, .map (some (w.heap.size + 1)), .slice none 0 0] 116 (0, 0)) ∧ w'.heap[w.heap.size + 1]? = some (.map #[] 0) ∧ Below w.heap.size w w') := by
  have hmk : ∀ w : World, (Instr.makeMap 114 none).run Tryz.prog w = .ok (.map (some w.heap.size)) (w.alloc (.map #[] 0)) := fun w => rfl
  go_enter Tryz.func43, Tryz.ntmps43
  go_wp2_with fail
  go_loopw [14] (fun v14 wr => v14 = .int .i64 0 ∧ Ad (wr.heap[w.heap.size + 2]? = some (.cells #[.int .i64 0, .map (some (w.heap.size + 1)), .slice none 0 0] 116 (0, 0)) ∧ wr.heap[w.heap.size + 1]? = some (.map #[] 0) ∧ Below w.heap.size w wr)) (fun _ _ => 0)
  case atStart => exact ⟨rfl, ⟨three_worlds w _ _ _⟩⟩
  case round =>
    obtain ⟨rfl, HB⟩ := hrel
    go_wp2_with fail
    go_ret
    exact ⟨rfl, HB.out⟩
set_option maxHeartbeats 4000000 in
set_option maxRecDepth 100000 in
theorem told0 (b m g cap : Nat) (w : World) (hb : w.heap[b]? = some (.cells #[.int .i64 0, .map (some m), .slice (some ⟨g, 0, none⟩) 1 cap] 116 (0, 0))) (hm : w.heap[m]? = some (.map #[] 0)) : Calls Tryz.prog 45 #[.pointer (some ⟨b, 0, none⟩)] w (fun e w' => e = .returned (.agg #[.int .i64 0, .slice none 0 0]) ∧ Below w.heap.size w w') := by
  have HB := Ad.mk hb
  have HM := Ad.mk hm
  have hbl := blk_lt hb
  have hml := blk_lt hm
  have y0 := blk_cell hb 0
  have y1 := blk_cell hb 1
  simp at y0 y1
  clear hb hm
  have hbe : Below w.heap.size w ((w.alloc (.cells #[.int .i64 0, .slice none 0 0] 35)).alloc (.cells #[.int .i64 0, .slice none 0 0] 35)) := below_alloc (below_alloc (Below.refl _ _) _) _
  have hr := range0 m ((w.alloc (.cells #[.int .i64 0, .slice none 0 0] 35)).alloc (.cells #[.int .i64 0, .slice none 0 0] 35)) (blk_below HM.out hbe)
  obtain ⟨k0, k1, k2⟩ := three_worlds w (.cells #[.int .i64 0, .slice none 0 0] 35) (.cells #[.int .i64 0, .slice none 0 0] 35) (.mapIter (some m) 0 #[] 0)
  have hn := next0 m (w.heap.size + 2) 0 _ (blk_below HM.out k2) k0
  have ka : (((w.alloc (.cells #[.int .i64 0, .slice none 0 0] 35)).alloc (.cells #[.int .i64 0, .slice none 0 0] 35)).alloc (.mapIter (some m) 0 #[] 0)).heap[w.heap.size]? = some (.cells #[.int .i64 0, .slice none 0 0] 35 (0, 0)) := blk_below (blk_new _ _) (below_alloc (below_alloc (Below.refl _ _) _) _)
  have K := Ad.mk (And.intro k1 (And.intro k2 ka))
  have hsz : (((w.alloc (.cells #[.int .i64 0, .slice none 0 0] 35)).alloc (.cells #[.int .i64 0, .slice none 0 0] 35)).alloc (.mapIter (some m) 0 #[] 0)).heap.size = w.heap.size + 3 := (Array.size_push _).trans (congrArg (· + 1) ((Array.size_push _).trans (congrArg (· + 1) (Array.size_push _))))
  clear k0 k1 k2 hbe ka
  go_enter Tryz.func45, Tryz.ntmps45
  go_upto_region 4 with fail
  generalize ((w.alloc (.cells #[.int .i64 0, .slice none 0 0] 35)).alloc (.cells #[.int .i64 0, .slice none 0 0] 35)).alloc (.mapIter (some m) 0 #[] 0) = W at *
  have hn : (Instr.next (.pointer (some ⟨w.heap.size + 1 + 1, 0, none⟩)) false 0).run Tryz.prog W = .ok (.tuple #[.bool false]) W := hn
  go_loopw [4] (fun v4 wr => v4 = .slice none 0 0 ∧ Ad (wr = W)) (fun _ _ => 0)
  case atStart => exact ⟨rfl, ⟨rfl⟩⟩
  case round =>
    obtain ⟨rfl, ⟨hw⟩⟩ := hrel
    subst wr
    go_wp2_with (go_at_call 70; refine (Tryz.slices_Sort_string_none none 0 _).mono ?_; rintro e1 w1 ⟨rfl, hw⟩; subst w1)
    go_loopw [30] (fun v30 wr => v30 = .int .i64 0 ∧ Ad (wr = W)) (fun _ _ => 0)
    case atStart => exact ⟨rfl, ⟨rfl⟩⟩
    case round =>
      obtain ⟨rfl, ⟨hw⟩⟩ := hrel
      subst wr
      have x0 := blk_cell K.out.1 0
      have x1 := blk_cell K.out.1 1
      simp at x0 x1
      have xl := blk_lt K.out.1
      have z0 := blk_cell K.out.2.2 0
      have z1 := blk_cell K.out.2.2 1
      simp at z0 z1
      have zf := (fun m => blk_frozen K.out.2.2 m)
      have zl := blk_lt K.out.2.2
      go_wp2_with fail
      have hch := ((Chg.refl W (· = w.heap.size)).set rfl 0 (.int .i64 0)).set rfl 1 (.slice none 0 0)
      exact state_fin (b := w.heap.size) (t := 2) rfl (by rfl) rfl (blk_put (blk_put K.out.2.2 0 _ rfl) 1 _ rfl) ⟨rfl, below_chg K.out.2.1 hch (fun q hq => Nat.le_of_eq hq.symm)⟩
end Go.Proofs.YtahnelihohmjfaaGreatDoor.V
namespace Go.Proofs.YtahnelihohmjfaaGreatDoor.V
open Go.RowKit
set_option linter.unusedVariables false
set_option linter.unusedSimpArgs false
/-! ### a step from the empty state -/
def WorkOK (base : Nat) (k : FuncId) (q : Value) (port : Int) (out : Int) (key : ByteArray) (v : Val) (ls ls' : List Int) (wk : World) : Prop :=
  ∀ (w2 : World) (b : Nat) (mm : Option Nat) (A : Option Addr) (c : Nat) (B : Value) (Q : Nat → Prop), w2.heap[b]? = some (.cells #[.int .i64 0, .map mm, .slice none 0 0] 116 (0, 0)) → VA Q w2 A c v → (∀ x, Q x → x < w2.heap.size ∧ some x ≠ B.ownBlock) → RowN base w2 B ls → B.ownBlock ≠ some b → base ≤ w2.heap.size → Below wk.heap.size wk w2 → Calls Tryz.prog k #[q, .pointer (some ⟨b, 0, none⟩), .int .i64 port, .agg #[.string key, .int .i64 v.k, .int .i64 v.n, .string v.s, .slice A v.items.length c, B]] w2 (Worked w2 b B 0 mm out key v ls')
/-- what a step from the empty state answers: one record goes out -/
def Stepped (w : World) (out : Int) (key : ByteArray) (v : Val) (ls : List Int) (e : Ending) (w' : World) : Prop :=
  ∃ g cap A c B, e = .returned (.tuple #[.agg #[.int .i64 0, .slice none 0 0], .slice (some ⟨g, 0, none⟩) 1 cap, .int .i64 0]) ∧ w'.ownsRow w.heap.size 50 7 (.slice (some ⟨g, 0, none⟩) 1 cap) 1 [.int .i64 out, .string key, .int .i64 v.k, .int .i64 v.n, .string v.s, .slice A v.items.length c, B] ∧ RowN w.heap.size w' B ls ∧ VA (fun q => w.heap.size ≤ q) w' A c v ∧ Below w.heap.size w w'
theorem OpHT.no101 {op : Value} (h : OpHT op) (w : World) : (Instr.typeAssert op 96 101 true).run Tryz.prog w = .ok (.tuple #[.agg #[], .bool false]) w := by
  rcases h with rfl | ⟨c, most, rfl⟩
  · exact to_161_101 _ _
  · exact to_163_101 _ _
theorem OpHT.no102 {op : Value} (h : OpHT op) (w : World) : (Instr.typeAssert op 96 102 true).run Tryz.prog w = .ok (.tuple #[.agg #[], .bool false]) w := by
  rcases h with rfl | ⟨c, most, rfl⟩
  · exact to_161_102 _ _
  · exact to_163_102 _ _
theorem own_base {base base' : Nat} {w : World} {e : TypeId} {size : Nat} {v : Value} {n : Nat} {xs : List Value} (h : w.ownsRow base e size v n xs) (hb : base' ≤ base) : w.ownsRow base' e size v n xs := by
  refine ⟨h.1, ?_⟩
  rcases h.2 with h4 | ⟨g', cap', cur, h4, h5, r⟩
  · exact .inl h4
  · exact .inr ⟨g', cap', cur, h4, Nat.le_trans hb h5, r⟩
theorem step_fin {W : World} {b t s1 s2 : Nat} {c0 c1 c2 c3 : Value} {fn : Func} {A : Act} {R : Ending → World → Prop} (hfn : fn.results = #[.cell t 35, .tmp s1, .tmp s2]) (ha : A.tmps.getD t undef = .pointer (some ⟨b, 0, Option.none⟩)) (h1 : A.tmps.getD s1 undef = c2) (h2 : A.tmps.getD s2 undef = c3) (hd : A.defers = [])
    (h0 : W.heap[b]? = some (.cells #[c0, c1] 35 (0, 0))) (hR : R (.returned (.tuple #[.agg #[c0, c1], c2, c3])) W) : bodyPost Tryz.prog fn R .ret A W := by
  have g0 := blk_cell h0 0
  have g1 := blk_cell h0 1
  simp at g0 g1
  refine ⟨hd, .tuple #[.agg #[c0, c1], c2, c3], ?_, hR⟩
  rw [Array.getD_eq_getD_getElem?] at ha h1 h2
  simp [results, hfn, ha, h1, h2, go_sem, g0, g1]
set_option maxHeartbeats 8000000 in
set_option maxRecDepth 100000 in
theorem step0 (b : Nat) (T : TypeId) (q : Value) (k : FuncId) (ins port out : Int) (key : ByteArray) (v : Val) (ls ls' : List Int) (A B : Option Addr) (c d : Nat) (Q : Nat → Prop) (w : World)
    (hb : w.heap[b]? = some (.cells #[.iface T q, .bool false, .int .i64 ins] 99 (0, 0))) (hop : OpHT (.iface T q)) (hdis : ∀ w, (method 464 T q "eddy/stage.work").run Tryz.prog w = .ok (k, q) w) (hk : ∀ args w, (callFunc k args).run Tryz.prog w = .ok (.enter k args) w)
    (hwork : WorkOK w.heap.size k q port out key v ls ls' w) (hp0 : 0 ≤ port) (hp1 : port < ins) (hck : ckR key v ls = 0) (hok : checkP v = 0) (hln : ls.length ≤ 1000) (hv : VA Q w A c v) (hQ : ∀ x, Q x → x < w.heap.size) (hl : LI w B d ls) :
    Calls Tryz.prog 12 #[.pointer (some ⟨b, 0, none⟩), .agg #[.int .i64 0, .slice none 0 0], .int .i64 port, .agg #[.string key, .int .i64 v.k, .int .i64 v.n, .string v.s, .slice A v.items.length c, .slice B ls.length d]] w (Stepped w out key v ls') := by
  have HB := Ad.mk hb
  have HW := Ad.mk hwork
  have HV := Ad.mk hv
  have HQ := Ad.mk hQ
  have HL := Ad.mk hl
  have HK := Ad.mk hck
  have HO := Ad.mk hok
  have HLN := Ad.mk hln
  have HOP := Ad.mk hop
  have hbl := blk_lt hb
  have b0 := blk_cell hb 0
  have b1 := blk_cell hb 1
  have b2 := blk_cell hb 2
  simp at b0 b1 b2
  have q0 : ¬ port < 0 := by omega
  have q1 : ¬ ins ≤ port := by omega
  have HB3 := Ad.mk (below_alloc (below_alloc (below_alloc (Below.refl w.heap.size w) (.cells #[.int .i64 0, .slice none 0 0] 35)) (.cells #[.string key, .int .i64 v.k, .int .i64 v.n, .string v.s, .slice A v.items.length c, .slice B ls.length d] 45)) (.cells #[.int .i64 0, .slice none 0 0] 35))
  obtain ⟨k0, k1, _⟩ := three_worlds w (.cells #[.int .i64 0, .slice none 0 0] 35) (.cells #[.string key, .int .i64 v.k, .int .i64 v.n, .string v.s, .slice A v.items.length c, .slice B ls.length d] 45) (.cells #[.int .i64 0, .slice none 0 0] 35)
  have ka : (((w.alloc (.cells #[.int .i64 0, .slice none 0 0] 35)).alloc (.cells #[.string key, .int .i64 v.k, .int .i64 v.n, .string v.s, .slice A v.items.length c, .slice B ls.length d] 45)).alloc (.cells #[.int .i64 0, .slice none 0 0] 35)).heap[w.heap.size]? = some (.cells #[.int .i64 0, .slice none 0 0] 35 (0, 0)) := blk_below (blk_new _ _) (below_alloc (below_alloc (Below.refl _ _) _) _)
  have hsz : (((w.alloc (.cells #[.int .i64 0, .slice none 0 0] 35)).alloc (.cells #[.string key, .int .i64 v.k, .int .i64 v.n, .string v.s, .slice A v.items.length c, .slice B ls.length d] 45)).alloc (.cells #[.int .i64 0, .slice none 0 0] 35)).heap.size = w.heap.size + 3 := (Array.size_push _).trans (congrArg (· + 1) ((Array.size_push _).trans (congrArg (· + 1) (Array.size_push _))))
  have KZ := Ad.mk k0
  have KR := Ad.mk k1
  have KX := Ad.mk ka
  clear k0 k1 ka hb hwork hv hQ hl hck hok hln hop
  go_enter Tryz.func12, Tryz.ntmps12
  go_upto_region 1 with fail
  generalize ((w.alloc (.cells #[.int .i64 0, .slice none 0 0] 35)).alloc (.cells #[.string key, .int .i64 v.k, .int .i64 v.n, .string v.s, .slice A v.items.length c, .slice B ls.length d] 45)).alloc (.cells #[.int .i64 0, .slice none 0 0] 35) = W at *
  have b0 := blk_cell (blk_below HB.out HB3.out) 0
  have b1 := blk_cell (blk_below HB.out HB3.out) 1
  have b2 := blk_cell (blk_below HB.out HB3.out) 2
  have x0 := blk_cell KX.out 0
  have x1 := blk_cell KX.out 1
  have r0 := blk_cell KR.out 0
  have r1 := blk_cell KR.out 1
  have r2 := blk_cell KR.out 2
  have r3 := blk_cell KR.out 3
  have r4 := blk_cell KR.out 4
  have r5 := blk_cell KR.out 5
  simp at b0 b1 b2 x0 x1 r0 r1 r2 r3 r4 r5
  have hW1 : w.heap.size < W.heap.size := by omega
  have hW2 : w.heap.size + 1 < W.heap.size := by omega
  have hbW : b < W.heap.size := by omega
  clear hsz
  go_upto_region 11 with (first
    | (go_at_call 14; refine (checkRecord_calls Q key v ls A B c d _ (HV.out.l.below HB3.out) (HL.out.below HB3.out)).mono ?_; rw [HK.out]; rintro e1 w1 ⟨rfl, hb1⟩; obtain ⟨n1, m1, y1, HB1⟩ := kcell W.heap.size hb1 (Nat.le_refl _); clear hb1)
    | (go_at_call 11; refine (legal0 b _ _ _ _ HOP.out (blk_below (blk_below HB.out HB3.out) HB1.out)).mono ?_; rintro e2 w2 ⟨rfl, hb2⟩; obtain ⟨n2, m2, y2, HB2⟩ := kcell W.heap.size hb2 y1; clear hb2)
    | (go_at_call 43; refine (taken0 _).mono ?_; rintro e3 w3 ⟨rfl, hk3, hm3, hb3⟩; obtain ⟨n3, m3, y3, HB3'⟩ := kcell W.heap.size hb3 y2; have HK3 := Ad.mk hk3; have HM3 := Ad.mk hm3; clear hb3 hk3 hm3)
    | fail)
  have t1 := HOP.out.no101
  have t2 := HOP.out.no102
  obtain ⟨kb, hkb⟩ : ∃ kb, w2.heap.size + 2 = kb := ⟨_, rfl⟩
  obtain ⟨km, hkm⟩ : ∃ km, w2.heap.size + 1 = km := ⟨_, rfl⟩
  have HKB := Ad.mk hkb
  have HKM := Ad.mk hkm
  rw [hkb, hkm] at HK3
  rw [hkm] at HM3
  rw [hkb]
  clear hkb hkm
  have g2 := blk_cell HK3.out 2
  simp at g2
  have gl := blk_lt HK3.out
  have HY := Ad.mk y3
  have HBW := Ad.mk (below_then (below_then (below_then HB3.out HB1.out) HB2.out) HB3'.out)
  have kk0 : w3.cell? ⟨b, 0, none⟩ = some (.iface T q) := by rw [n3 _ _ hbW, n2 _ _ hbW, n1 _ _ hbW, b0]
  have kr0 : w3.cell? ⟨w.heap.size + 1, 0, none⟩ = some (.string key) := by rw [n3 _ _ hW2, n2 _ _ hW2, n1 _ _ hW2, r0]
  have kr1 : w3.cell? ⟨w.heap.size + 1, 1, none⟩ = some (.int .i64 v.k) := by rw [n3 _ _ hW2, n2 _ _ hW2, n1 _ _ hW2, r1]
  have kr2 : w3.cell? ⟨w.heap.size + 1, 2, none⟩ = some (.int .i64 v.n) := by rw [n3 _ _ hW2, n2 _ _ hW2, n1 _ _ hW2, r2]
  have kr3 : w3.cell? ⟨w.heap.size + 1, 3, none⟩ = some (.string v.s) := by rw [n3 _ _ hW2, n2 _ _ hW2, n1 _ _ hW2, r3]
  have kr4 : w3.cell? ⟨w.heap.size + 1, 4, none⟩ = some (.slice A v.items.length c) := by rw [n3 _ _ hW2, n2 _ _ hW2, n1 _ _ hW2, r4]
  have kr5 : w3.cell? ⟨w.heap.size + 1, 5, none⟩ = some (.slice B ls.length d) := by rw [n3 _ _ hW2, n2 _ _ hW2, n1 _ _ hW2, r5]
  have Z3 := Ad.mk (blk_below (blk_below (blk_below KZ.out HB1.out) HB2.out) HB3'.out)
  clear n1 n2 n3 m1 m2 m3 y1 y2 y3 x0 x1 r0 r1 r2 r3 r4 r5 b0 b1 b2
  go_upto_region 15 with fail
  have hws := HBW.out.size
  have hkne : ¬ kb = w.heap.size + 2 := by have := HKB.out; have := HY.out; have := HB2.out.size; have := HB1.out.size; omega
  have hknf : ¬ w.heap.size + 2 = kb := fun e => hkne e.symm
  have HNE := Ad.mk hkne
  have hkk : ¬ km = kb := by have := HKB.out; have := HKM.out; omega
  have HNK := Ad.mk hkk
  clear hkk
  have FB : Ad (b < w3.heap.size ∧ b ≠ kb) := ⟨by omega, by have := HKB.out; have := HB1.out.size; have := HB2.out.size; omega⟩
  have FR : Ad (w.heap.size + 1 < w3.heap.size ∧ w.heap.size + 1 ≠ kb) := ⟨by have := HY.out; omega, by have := HKB.out; have := HB1.out.size; have := HB2.out.size; omega⟩
  have FZ : Ad (w.heap.size + 2 < w3.heap.size ∧ w.heap.size + 2 ≠ kb) := ⟨blk_lt Z3.out, hknf⟩
  have FM : Ad (km < w3.heap.size ∧ km ≠ kb) := ⟨blk_lt HM3.out, HNK.out⟩
  have FK : Ad (w.heap.size ≤ kb) := ⟨by have := HKB.out; have := HB1.out.size; have := HB2.out.size; omega⟩
  have HBD := Ad.mk (below_then HBW.out (Below.refl _ w3).drew)
  go_region_held3 (fun w' => w'.cell? ⟨b, 0, none⟩ = some (.iface T q) ∧ w'.cell? ⟨w.heap.size + 1, 0, none⟩ = some (.string key) ∧ w'.cell? ⟨w.heap.size + 1, 1, none⟩ = some (.int .i64 v.k) ∧ w'.cell? ⟨w.heap.size + 1, 2, none⟩ = some (.int .i64 v.n) ∧ w'.cell? ⟨w.heap.size + 1, 3, none⟩ = some (.string v.s) ∧ w'.cell? ⟨w.heap.size + 1, 4, none⟩ = some (.slice A v.items.length c) ∧ w'.cell? ⟨w.heap.size + 1, 5, none⟩ = some (.slice B ls.length d))
    (first | (with_reducible exact ⟨u0, u1, u2, u3, u4, u5, u6⟩) | (with_reducible exact ⟨y0, y1, y2, y3, y4, y5, y6⟩) | (with_reducible exact ⟨kk0, kr0, kr1, kr2, kr3, kr4, kr5⟩) | go_keep)
    (first
    | (go_at_call 44; go_must (refine (copiedRec_calls key v ls A B c d Q _ (HV.out.below HBD.out) (fun x hx => Nat.lt_of_lt_of_le (HQ.out x hx) HBD.out.size) HO.out (HL.out.below HBD.out) HLN.out).mono ?_); rintro e4 w4 ⟨A4, c4, B4, rfl, hrow4, hva4, hb4⟩; have HB4 := Ad.mk (below_then (Below.refl _ w3).drew hb4); have HR4 := Ad.mk hrow4; have HV4 := Ad.mk hva4; have y0 := cell_below HB4.out kk0; have y1 := cell_below HB4.out kr0; have y2 := cell_below HB4.out kr1; have y3 := cell_below HB4.out kr2; have y4 := cell_below HB4.out kr3; have y5 := cell_below HB4.out kr4; have y6 := cell_below HB4.out kr5; clear hrow4 hva4 hb4)
    | (refine (HW.out w4 kb (some km) A4 c4 B4 (fun x => x < w4.heap.size ∧ some x ≠ B4.ownBlock) (blk_below HK3.out HB4.out) (HV4.out.weak (fun x h1 h2 => ⟨h1, h2.2⟩)) (fun x hx => hx) (HR4.out.base HBD.out.size) (fun e => by have h1 := (own_lt HR4.out.1 kb e).1; have h2 := blk_lt HK3.out; simp at h1; omega) (Nat.le_trans HBW.out.size HB4.out.size) (below_then HBW.out HB4.out)).mono ?_; rintro e5 w5 ⟨rfl, g, cap, A5, c5, B5, hk5, hown5, hrow5, hva5, hc5⟩; have HK5 := Ad.mk hk5; have HOWN5 := Ad.mk hown5; have HR5 := Ad.mk hrow5; have HV5 := Ad.mk hva5; have HC5 := Ad.mk hc5; have far : ∀ x, x < w3.heap.size → x ≠ kb → x < w4.heap.size ∧ ¬ (x = kb ∨ some x = B4.ownBlock) := (fun x h1 h2 => ⟨Nat.lt_of_lt_of_le h1 HB4.out.size, fun h => h.elim h2 (fun h => by have := (own_lt HR4.out.1 x h.symm).1; simp at this; omega)⟩); have FA := Ad.mk far; have u0 := ((ccell hc5).1 b 0 (far b FB.out.1 FB.out.2).1 (far b FB.out.1 FB.out.2).2).trans y0; have u1 := ((ccell hc5).1 _ 0 (far _ FR.out.1 FR.out.2).1 (far _ FR.out.1 FR.out.2).2).trans y1; have u2 := ((ccell hc5).1 _ 1 (far _ FR.out.1 FR.out.2).1 (far _ FR.out.1 FR.out.2).2).trans y2; have u3 := ((ccell hc5).1 _ 2 (far _ FR.out.1 FR.out.2).1 (far _ FR.out.1 FR.out.2).2).trans y3; have u4 := ((ccell hc5).1 _ 3 (far _ FR.out.1 FR.out.2).1 (far _ FR.out.1 FR.out.2).2).trans y4; have u5 := ((ccell hc5).1 _ 4 (far _ FR.out.1 FR.out.2).1 (far _ FR.out.1 FR.out.2).2).trans y5; have u6 := ((ccell hc5).1 _ 5 (far _ FR.out.1 FR.out.2).1 (far _ FR.out.1 FR.out.2).2).trans y6; clear hk5 hown5 hrow5 hva5 hc5 far)
    | fail)
  have hm5 : w5.heap[km]? = some (.map #[] 0) := (HC5.out.block km (FA.out km FM.out.1 FM.out.2).1 (FA.out km FM.out.1 FM.out.2).2).trans (blk_below HM3.out HB4.out)
  have hz5 : w5.heap[w.heap.size + 2]? = some (.cells #[.int .i64 0, .slice none 0 0] 35 (0, 0)) := (HC5.out.block _ (FA.out _ FZ.out.1 FZ.out.2).1 (FA.out _ FZ.out.1 FZ.out.2).2).trans (blk_below Z3.out HB4.out)
  have HBW5 := Ad.mk (below_chg (w := w) (below_then HBW.out HB4.out) HC5.out (fun x hx => hx.elim (fun h => by have := FK.out; omega) (fun h => by have h1 := (own_lt HR4.out.1 x h.symm).1; have := HBW.out.size; simp at h1; omega)))
  have HM5 := Ad.mk hm5
  have HZ5 := Ad.mk hz5
  have v2 : w5.cell? ⟨kb, 2, none⟩ = some (.slice (some ⟨g, 0, none⟩) 1 cap) := blk_cell HK5.out 2
  have vl := blk_lt HK5.out
  have vz := blk_lt hz5
  clear hm5 hz5 u0 u1 u2 u3 u4 u5 u6 y0 y1 y2 y3 y4 y5 y6
  go_upto_region 16 with fail
  go_region_held3 (fun w' => w'.cell? ⟨kb, 2, none⟩ = some (.slice (some ⟨g, 0, none⟩) 1 cap))
    (first | (with_reducible exact v2) | (with_reducible exact p2) | go_keep)
    (first
    | (go_at_call 45; go_must (refine (told0 kb km g cap _ (blk_below HK5.out (Below.refl _ w5).drew) (blk_below HM5.out (Below.refl _ w5).drew)).mono ?_); rintro e6 w6 ⟨rfl, hb6⟩; have hbb6 := below_then (Below.refl _ w5).drew hb6; have HB6 := Ad.mk hbb6; have hz6 := blk_below HZ5.out hbb6; have p2 := cell_below hbb6 v2; have s0 : w6.cell? ⟨w.heap.size + 2, 0, none⟩ = some (.int .i64 0) := blk_cell hz6 0; have s1 : w6.cell? ⟨w.heap.size + 2, 1, none⟩ = some (.slice none 0 0) := blk_cell hz6 1; have sf := (fun m => blk_frozen hz6 m); have sl := blk_lt hz6; have HZ6 := Ad.mk hz6; clear hb6 hz6 hbb6)
    | fail)
  have hc7 := ((Chg.refl w6 (· = w.heap.size + 2)).set rfl 0 (.int .i64 0)).set rfl 1 (.slice none 0 0)
  have hown := HOWN5.out
  have hws5 : w.heap.size ≤ w4.heap.size := Nat.le_trans HBW.out.size HB4.out.size
  have hzz := (own_chg (own_chg hown (Chg.of_below (S := fun _ => False) HB6.out) (fun _ _ h => h)) hc7 (fun x hx hs => by have := (own_lt hown x hx).1; have := (FA.out _ FZ.out.1 FZ.out.2).1; have h : x = w.heap.size + 2 := hs; omega))
  have hrr := HR5.out.below HB6.out
  have hvv := (HV5.out.below HB6.out).chg (Q' := fun x => w.heap.size ≤ x) hc7 (fun x _ hq hs => by have := (FA.out _ FZ.out.1 FZ.out.2).1; have h : x = w.heap.size + 2 := hs; omega) (fun x _ hq => Nat.le_trans hws5 hq.1)
  have hrow : RowN w.heap.size _ B5 ls' := RowN.base (base := w4.heap.size) ⟨own_chg hrr.1 hc7 (fun x hx hs => by have := (own_lt hrr.1 x hx).1; have := (FA.out _ FZ.out.1 FZ.out.2).1; have h : x = w.heap.size + 2 := hs; omega), hrr.2⟩ hws5
  go_wp2_with fail
  exact step_fin (b := w.heap.size + 2) (t := 8) (s1 := 9) (s2 := 10) rfl (by rfl) (by rfl) (by rfl) rfl (blk_put (blk_put HZ6.out 0 _ rfl) 1 _ rfl) ⟨g, cap, A5, c5, B5, rfl, own_base hzz hws5, hrow, hvv, below_chg (below_then HBW5.out HB6.out) hc7 (fun x hx => by have h : x = w.heap.size + 2 := hx; omega)⟩
end Go.Proofs.YtahnelihohmjfaaGreatDoor.V
namespace Go.Proofs.YtahnelihohmjfaaGreatDoor.V
open Go.RowKit
set_option linter.unusedVariables false
set_option linter.unusedSimpArgs false
/-! ### what New asks of a head and of a tail -/
def needsT : List Int := [2, 2, 1, 1, 0, 0, 0, 1, 1, 2, 2, 0, 9, 1]
/-- the rows of shape.needs for head and tail -/
def GN (w : World) : Prop := ∀ i, i < 14 → w.cell? ⟨0, 77 + i, none⟩ = some (.int .i64 (needsT.getD i 0))
theorem GN.below {w w' : World} (h : GN w) (hb : Below w.heap.size w w') : GN w' := fun i hi => cell_below hb (h i hi)
theorem ret4 {W : World} {s1 s2 s3 s4 : Nat} {c1 c2 c3 c4 : Value} {fn : Func} {A : Act} {R : Ending → World → Prop} (hfn : fn.results = #[.tmp s1, .tmp s2, .tmp s3, .tmp s4]) (h1 : A.tmps.getD s1 undef = c1) (h2 : A.tmps.getD s2 undef = c2) (h3 : A.tmps.getD s3 undef = c3) (h4 : A.tmps.getD s4 undef = c4) (hd : A.defers = []) (hR : R (.returned (.tuple #[c1, c2, c3, c4])) W) : bodyPost Tryz.prog fn R .ret A W := by
  refine ⟨hd, .tuple #[c1, c2, c3, c4], ?_, hR⟩
  rw [Array.getD_eq_getD_getElem?] at h1 h2 h3 h4
  simp [results, hfn, h1, h2, h3, h4, go_sem]
set_option maxHeartbeats 4000000 in
set_option maxRecDepth 100000 in
theorem known11 (k : Int) (hk : k = 11 ∨ k = 12) (w : World) : Calls Tryz.prog 63 #[.int .i64 k] w (Ret w (.bool true)) := by
  rcases hk with rfl | rfl
  all_goals
    go_enter Tryz.func63, Tryz.ntmps63
    go_wp2_with fail
    go_ret
    exact ⟨rfl, Below.refl _ _⟩
set_option maxHeartbeats 4000000 in
set_option maxRecDepth 100000 in
theorem ports11 (w : World) (h : GN w) : Calls Tryz.prog 36 #[.int .i64 11] w (Ret w (.tuple #[.int .i64 2, .int .i64 2, .int .i64 1, .int .i64 1])) := by
  have H := Ad.mk h
  go_enter Tryz.func36, Tryz.ntmps36
  go_wp2_with (go_at_call 63; refine (known11 11 (.inl rfl) _).mono ?_; rintro e1 w1 ⟨rfl, hb1⟩; have HB1 := Ad.mk hb1; have h1 := H.out.below hb1; have c0 := h1 0 (by decide); have c1 := h1 1 (by decide); have c2 := h1 2 (by decide); have c3 := h1 3 (by decide); have c4 := h1 4 (by decide); have c5 := h1 5 (by decide); have c6 := h1 6 (by decide); simp [needsT] at c0 c1 c2 c3 c4 c5 c6; clear hb1 h1)
  go_quiet (fail)
  go_wp2_with fail
  exact ret4 rfl rfl rfl rfl rfl rfl ⟨rfl, below_then (below_alloc HB1.out _) (below_drewN _)⟩
set_option maxHeartbeats 4000000 in
set_option maxRecDepth 100000 in
theorem ports12 (w : World) (h : GN w) : Calls Tryz.prog 36 #[.int .i64 12] w (Ret w (.tuple #[.int .i64 1, .int .i64 1, .int .i64 2, .int .i64 2])) := by
  have H := Ad.mk h
  go_enter Tryz.func36, Tryz.ntmps36
  go_wp2_with (go_at_call 63; refine (known11 12 (.inr rfl) _).mono ?_; rintro e1 w1 ⟨rfl, hb1⟩; have HB1 := Ad.mk hb1; have h1 := H.out.below hb1; have c0 := h1 7 (by decide); have c1 := h1 8 (by decide); have c2 := h1 9 (by decide); have c3 := h1 10 (by decide); have c4 := h1 11 (by decide); have c5 := h1 12 (by decide); have c6 := h1 13 (by decide); simp [needsT] at c0 c1 c2 c3 c4 c5 c6; clear hb1 h1)
  go_quiet (fail)
  go_wp2_with fail
  exact ret4 rfl rfl rfl rfl rfl rfl ⟨rfl, below_then (below_alloc HB1.out _) (below_drewN _)⟩
set_option maxHeartbeats 4000000 in
set_option maxRecDepth 100000 in
theorem numFits11 (k n : Int) (hk : (k = 11 ∧ n = 0) ∨ (k = 12 ∧ 0 ≤ n ∧ n ≤ 9)) (w : World) : Calls Tryz.prog 37 #[.int .i64 k, .int .i64 n] w (Ret w (.bool true)) := by
  rcases hk with ⟨rfl, rfl⟩ | ⟨rfl, h1, h2⟩
  all_goals
    go_enter Tryz.func37, Tryz.ntmps37
    go_wp2_with fail
    go_ret
    exact ⟨rfl, Below.refl _ _⟩
set_option maxHeartbeats 4000000 in
set_option maxRecDepth 100000 in
theorem exprs11 (k : Int) (hk : k = 11 ∨ k = 12) (w : World) : Calls Tryz.prog 38 #[.int .i64 k] w (Ret w (.int .i64 (if k = 11 then 0 else 1))) := by
  rcases hk with rfl | rfl
  all_goals
    go_enter Tryz.func38, Tryz.ntmps38
    go_wp2_with fail
    go_ret
    exact ⟨rfl, Below.refl _ _⟩
set_option maxHeartbeats 4000000 in
set_option maxRecDepth 100000 in
theorem made11 (nm : ByteArray) (l c : Value) (n outs : Int) (w : World) : Calls Tryz.prog 40 #[.agg #[.string nm, .int .i64 11, .int .i64 n, l], c, .int .i64 outs] w (Ret w (.iface 161 (.agg #[]))) := by
  go_enter Tryz.func40, Tryz.ntmps40
  go_wp2_with fail
  go_ret
  exact ⟨rfl, below_alloc (Below.refl _ _) _⟩
set_option maxHeartbeats 4000000 in
set_option maxRecDepth 100000 in
theorem made12 (nm : ByteArray) (l : Value) (cb : Nat) (n outs : Int) (g cap : Nat) (w : World) (hg : w.cell? ⟨g, 0, none⟩ = some (.pointer (some ⟨cb, 0, none⟩))) (hgl : g < w.heap.size) : Calls Tryz.prog 40 #[.agg #[.string nm, .int .i64 12, .int .i64 n, l], .slice (some ⟨g, 0, none⟩) 1 cap, .int .i64 outs] w (Ret w (.iface 163 (.agg #[.pointer (some ⟨cb, 0, none⟩), .int .i64 n]))) := by
  go_enter Tryz.func40, Tryz.ntmps40
  go_upto_region 25 with fail
  have x2 : (w.alloc (.cells #[.string nm, .int .i64 12, .int .i64 n, l] 24)).cell? ⟨w.heap.size, 2, none⟩ = some (.int .i64 n) := blk_cell (blk_new w (.cells #[.string nm, .int .i64 12, .int .i64 n, l] 24)) 2
  have x3 : (w.alloc (.cells #[.string nm, .int .i64 12, .int .i64 n, l] 24)).cell? ⟨g, 0, none⟩ = some (.pointer (some ⟨cb, 0, none⟩)) := cell_below (below_alloc (Below.refl _ _) _) hg
  go_region_held3 (fun w' => w'.cell? ⟨w.heap.size, 2, none⟩ = some (.int .i64 n) ∧ w'.cell? ⟨g, 0, none⟩ = some (.pointer (some ⟨cb, 0, none⟩))) (first | (with_reducible exact ⟨x2, x3⟩) | go_keep) (fail)
  go_wp2_with fail
  go_ret
  exact ⟨rfl, (below_alloc (Below.refl _ _) _).drew⟩
end Go.Proofs.YtahnelihohmjfaaGreatDoor.V
namespace Go.Proofs.YtahnelihohmjfaaGreatDoor.V
open Go.RowKit
set_option linter.unusedVariables false
set_option linter.unusedSimpArgs false
/-! ### New of a head -/
set_option maxHeartbeats 4000000 in
set_option maxRecDepth 100000 in
theorem new_head (w : World) (hN : GN w) : Calls Tryz.prog 9 #[.agg #[.string ⟨#[]⟩, .int .i64 11, .int .i64 0, .slice none 0 0], .int .i64 2, .int .i64 1] w (fun e w' => ∃ b, e = .returned (.tuple #[.pointer (some ⟨b, 0, none⟩), .int .i64 0]) ∧ w.heap.size ≤ b ∧ w'.heap[b]? = some (.cells #[.iface 161 (.agg #[]), .bool false, .int .i64 2] 99 (0, 0)) ∧ Below w.heap.size w w') := by
  have HN := Ad.mk hN
  clear hN
  have HA := Ad.mk (below_alloc (Below.refl w.heap.size w) (.cells #[.string ⟨#[]⟩, .int .i64 11, .int .i64 0, .slice none 0 0] 24))
  have HX := Ad.mk (blk_new w (.cells #[.string ⟨#[]⟩, .int .i64 11, .int .i64 0, .slice none 0 0] 24))
  have hsz : (w.alloc (.cells #[.string ⟨#[]⟩, .int .i64 11, .int .i64 0, .slice none 0 0] 24)).heap.size = w.heap.size + 1 := Array.size_push _
  have HS := Ad.mk hsz
  clear hsz
  go_enter Tryz.func9, Tryz.ntmps9
  go_upto_region 11 with (first
    | (go_at_call 36; refine (ports11 _ (HN.out.below HA.out)).mono ?_; rintro e1 w1 ⟨rfl, hb1⟩; have HB1 := Ad.mk (below_then HA.out hb1); have hx1 := blk_below HX.out hb1; have x0 := blk_cell hx1 0; have x1 := blk_cell hx1 1; have x2 := blk_cell hx1 2; have x3 := blk_cell hx1 3; simp at x0 x1 x2 x3; have HX1 := Ad.mk hx1; clear hb1 hx1)
    | (go_at_call 37; refine (numFits11 _ _ (.inl ⟨rfl, rfl⟩) _).mono ?_; rintro e2 w2 ⟨rfl, hb2⟩; have HB2 := Ad.mk (below_then HB1.out hb2); have hx2 := blk_below HX1.out hb2; have y0 := blk_cell hx2 0; have y1 := blk_cell hx2 1; have y2 := blk_cell hx2 2; have y3 := blk_cell hx2 3; simp at y0 y1 y2 y3; have HX2 := Ad.mk hx2; clear hb2 hx2)
    | fail)
  go_region_held3 (fun w' => w'.cell? ⟨w.heap.size, 1, none⟩ = some (.int .i64 11) ∧ w'.cell? ⟨w.heap.size, 3, none⟩ = some (.slice none 0 0))
    (first | (with_reducible exact ⟨z1, z3⟩) | (with_reducible exact ⟨y1, y3⟩) | go_keep)
    (first
    | (go_at_call 38; refine (exprs11 11 (.inl rfl) _).mono ?_; rintro e3 w3 ⟨rfl, hb3⟩; have hbb3 := below_then (Below.refl _ w2).drew hb3; have HB3 := Ad.mk (below_then HB2.out hbb3); have hx3 := blk_below HX2.out hbb3; have z0 := blk_cell hx3 0; have z1 := blk_cell hx3 1; have z2 := blk_cell hx3 2; have z3 := blk_cell hx3 3; simp at z0 z1 z2 z3; have HX3 := Ad.mk hx3; clear hb3 hx3 hbb3)
    | fail)
  go_upto_region 15 with fail
  go_loopw [12, 59] (fun v12 v59 wr => v12 = .slice none 0 0 ∧ v59 = .int .i64 0 ∧ Ad (wr = w3)) (fun _ _ _ => 0)
  case atStart => exact ⟨rfl, rfl, ⟨rfl⟩⟩
  case round =>
    obtain ⟨rfl, rfl, ⟨hw⟩⟩ := hrel
    subst wr
    go_upto_region 22 with fail
    go_region_held3 (fun w' => w'.cell? ⟨w.heap.size, 0, none⟩ = some (.string ⟨#[]⟩) ∧ w'.cell? ⟨w.heap.size, 1, none⟩ = some (.int .i64 11) ∧ w'.cell? ⟨w.heap.size, 2, none⟩ = some (.int .i64 0) ∧ w'.cell? ⟨w.heap.size, 3, none⟩ = some (.slice none 0 0))
      (first | (with_reducible exact ⟨p0, p1, p2, p3⟩) | (with_reducible exact ⟨z0, z1, z2, z3⟩) | go_keep | exact ⟨cell_below (below_alloc (Below.refl _ _) _) p0, cell_below (below_alloc (Below.refl _ _) _) p1, cell_below (below_alloc (Below.refl _ _) _) p2, cell_below (below_alloc (Below.refl _ _) _) p3⟩)
      (first
      | (go_at_call 40; refine (made11 _ _ _ _ _ _).mono ?_; rintro e4 w4 ⟨rfl, hb4⟩; have hbb4 := below_then (Below.refl _ w3).drew hb4; have HB4 := Ad.mk (below_then HB3.out hbb4); have hx4 := blk_below HX3.out hbb4; have p0 := blk_cell hx4 0; have p1 := blk_cell hx4 1; have p2 := blk_cell hx4 2; have p3 := blk_cell hx4 3; simp at p0 p1 p2 p3; have HX4 := Ad.mk hx4; clear hb4 hx4 hbb4)
      | fail)
    go_wp2_with fail
    go_ret2
    exact ⟨w4.heap.size, rfl, HB4.out.size, blk_new _ _, below_alloc HB4.out _⟩
end Go.Proofs.YtahnelihohmjfaaGreatDoor.V
namespace Go.Proofs.YtahnelihohmjfaaGreatDoor.V
open Go.RowKit
set_option linter.unusedVariables false
set_option linter.unusedSimpArgs false
/-! ### New of a tail -/
theorem u89 : Tryz.prog.underlying 89 = some (.slice 90) := by kernel_rfl
theorem info90 : (Tryz.prog.info? 90).map (fun i => (i.zero, i.size, i.bytes)) = some (some (.pointer none), 1, 8) := by kernel_rfl
/-- an expression's code, however the blocks of X change -/
def CodeX (X : Nat → Prop) (w : World) (c : Value) (F : EnvV → Val) : Prop := ∀ w2, Chg w w2 X → CodeOK w2 c F
theorem CodeX.below {X : Nat → Prop} {w w' : World} {c : Value} {F : EnvV → Val} (h : CodeX X w c F) (hb : Below w.heap.size w w') : CodeX X w' c F := fun w2 hc => h w2 ((Chg.of_below hb).trans hc)
theorem CodeX.ok {X : Nat → Prop} {w : World} {c : Value} {F : EnvV → Val} (h : CodeX X w c F) : CodeOK w c F := h w (Chg.refl _ _)
/-- what New of a tail answers -/
def NewT (X : Nat → Prop) (num : Int) (cond : ByteArray) (w : World) (e : Ending) (w' : World) : Prop := Below w.heap.size w w' ∧ ((e = .returned (.tuple #[.pointer none, .int .i64 83]) ∧ cond ≠ ⟨#[48]⟩) ∨ ∃ b F cb, e = .returned (.tuple #[.pointer (some ⟨b, 0, none⟩), .int .i64 0]) ∧ w.heap.size ≤ b ∧ w'.heap[b]? = some (.cells #[.iface 163 (.agg #[.pointer (some ⟨cb, 0, none⟩), .int .i64 num]), .bool false, .int .i64 1] 99 (0, 0)) ∧ CodeX X w' (.pointer (some ⟨cb, 0, none⟩)) F)
/-- the loop over the expressions -/
def NL (X : Nat → Prop) (w wr : World) (v12 v59 : Value) : Prop := (v59 = .int .i64 0 ∧ v12 = .slice none 0 0) ∨ (v59 = .int .i64 1 ∧ ∃ g cap cb F, v12 = .slice (some ⟨g, 0, none⟩) 1 cap ∧ g < wr.heap.size ∧ wr.cell? ⟨g, 0, none⟩ = some (.pointer (some ⟨cb, 0, none⟩)) ∧ CodeX X wr (.pointer (some ⟨cb, 0, none⟩)) F)
set_option maxHeartbeats 4000000 in
set_option maxRecDepth 100000 in
theorem new_tail (X : Nat → Prop) (num : Int) (cond : ByteArray) (g N0 : Nat) (w : World) (hN : GN w) (hG : GVb w N0) (hnum : 0 ≤ num ∧ num ≤ 9) (hg : w.cell? ⟨g, 0, none⟩ = some (.string cond)) (hgl : g < w.heap.size) (hX : ∀ b, X b → N0 ≤ b ∧ b < w.heap.size) : Calls Tryz.prog 9 #[.agg #[.string ⟨#[]⟩, .int .i64 12, .int .i64 num, .slice (some ⟨g, 0, none⟩) 1 1], .int .i64 1, .int .i64 2] w (NewT X num cond w) := by
  have HXX := Ad.mk hX
  clear hX
  have HN := Ad.mk hN
  have HG := Ad.mk hG
  have HC := Ad.mk hg
  obtain ⟨n1, n2⟩ := hnum
  have HNUM := Ad.mk (And.intro n1 n2)
  clear hN hG hg
  obtain ⟨i0, hi, hz0, hz1, hz2⟩ := info_parts info90
  have HI := Ad.mk (And.intro hi (And.intro hz0 (And.intro hz1 hz2)))
  clear hi hz0 hz1 hz2
  have HA := Ad.mk (below_alloc (Below.refl w.heap.size w) (.cells #[.string ⟨#[]⟩, .int .i64 12, .int .i64 num, .slice (some ⟨g, 0, none⟩) 1 1] 24))
  have HX := Ad.mk (blk_new w (.cells #[.string ⟨#[]⟩, .int .i64 12, .int .i64 num, .slice (some ⟨g, 0, none⟩) 1 1] 24))
  go_enter Tryz.func9, Tryz.ntmps9
  go_upto_region 11 with (first
    | (go_at_call 36; refine (ports12 _ (HN.out.below HA.out)).mono ?_; rintro e1 w1 ⟨rfl, hb1⟩; have HB1 := Ad.mk (below_then HA.out hb1); have hx1 := blk_below HX.out hb1; have x0 := blk_cell hx1 0; have x1 := blk_cell hx1 1; have x2 := blk_cell hx1 2; have x3 := blk_cell hx1 3; simp at x0 x1 x2 x3; have HX1 := Ad.mk hx1; clear hb1 hx1)
    | (go_at_call 37; refine (numFits11 _ _ (.inr ⟨rfl, HNUM.out⟩) _).mono ?_; rintro e2 w2 ⟨rfl, hb2⟩; have HB2 := Ad.mk (below_then HB1.out hb2); have hx2 := blk_below HX1.out hb2; have y0 := blk_cell hx2 0; have y1 := blk_cell hx2 1; have y2 := blk_cell hx2 2; have y3 := blk_cell hx2 3; simp at y0 y1 y2 y3; have HX2 := Ad.mk hx2; clear hb2 hx2)
    | fail)
  go_region_held3 (fun w' => w'.cell? ⟨w.heap.size, 1, none⟩ = some (.int .i64 12) ∧ w'.cell? ⟨w.heap.size, 3, none⟩ = some (.slice (some ⟨g, 0, none⟩) 1 1))
    (first | (with_reducible exact ⟨z1, z3⟩) | (with_reducible exact ⟨y1, y3⟩) | go_keep)
    (first
    | (go_at_call 38; refine (exprs11 12 (.inr rfl) _).mono ?_; rintro e3 w3 ⟨rfl, hb3⟩; have hbb3 := below_then (Below.refl _ w2).drew hb3; have HB3 := Ad.mk (below_then HB2.out hbb3); have hx3 := blk_below HX2.out hbb3; have z0 := blk_cell hx3 0; have z1 := blk_cell hx3 1; have z2 := blk_cell hx3 2; have z3 := blk_cell hx3 3; simp at z0 z1 z2 z3; have HX3 := Ad.mk hx3; clear hb3 hx3 hbb3)
    | fail)
  go_upto_region 15 with fail
  clear x0 x1 x2 x3 y0 y1 y2 y3 z0 z1 z2 z3
  go_loopw [12, 59] (fun v12 v59 wr => NL X w wr v12 v59 ∧ Ad (Below w.heap.size w wr ∧ wr.heap[w.heap.size]? = some (.cells #[.string ⟨#[]⟩, .int .i64 12, .int .i64 num, .slice (some ⟨g, 0, none⟩) 1 1] 24 (0, 0)))) (fun _ v59 _ => match v59 with | .int .i64 0 => 1 | _ => 0)
  case atStart => exact ⟨.inl ⟨rfl, rfl⟩, ⟨HB3.out, HX3.out⟩⟩
  case round =>
    obtain ⟨hnl, HW⟩ := hrel
    have HCW := Ad.mk (cell_below HW.out.1 HC.out)
    have hcw := HCW.out
    rcases hnl with ⟨rfl, rfl⟩ | ⟨rfl, g2, cap2, cb, F, rfl, hgl2, hc2, hok2⟩
    · go_wp2_with (go_at_call 39; refine (compile_calls X N0 cond _ (fun b hb => ⟨(HXX.out b hb).1, Nat.lt_of_lt_of_le (HXX.out b hb).2 HW.out.1.size⟩) (by obtain ⟨w0, h0, h1, h2⟩ := HG.out; exact ⟨w0, h0, below_then h1 HW.out.1, h2⟩)).mono ?_; rintro e4 w4 ⟨hb4, (⟨x, rfl, hne⟩ | ⟨b, F, rfl, hok⟩)⟩)
      · go_ret2
        exact ⟨below_then HW.out.1 hb4, .inl ⟨rfl, hne⟩⟩
      · have hbb : ∀ (k : Nat) (o1 o2 : Obj), Below w4.heap.size w4 ((w4.alloc o1).alloc o2).drew := fun _ o1 o2 => (below_alloc (below_alloc (Below.refl w4.heap.size w4) o1) o2).drew
        refine ⟨⟨.inr ⟨rfl, w4.heap.size + 1, _, b, F, rfl, ?_, ?_, CodeX.below hok (hbb 0 _ _)⟩, ⟨below_then (below_then HW.out.1 hb4) (hbb 0 _ _), blk_below (blk_below HW.out.2 hb4) (hbb 0 _ _)⟩⟩, by decide⟩
        · exact blk_lt (blk_new2 (Array.size_push _))
        · exact (blk_cell (blk_new2 (Array.size_push _)) 0).trans (by simp [Array.getElem?_append])
    · have z0 := blk_cell HW.out.2 0
      have z1 := blk_cell HW.out.2 1
      have z2 := blk_cell HW.out.2 2
      have z3 := blk_cell HW.out.2 3
      simp at z0 z1 z2 z3
      have HOK2 := Ad.mk hok2
      clear hok2
      go_upto_region 22 with fail
      go_region_held3 (fun w' => w'.cell? ⟨w.heap.size, 0, none⟩ = some (.string ⟨#[]⟩) ∧ w'.cell? ⟨w.heap.size, 1, none⟩ = some (.int .i64 12) ∧ w'.cell? ⟨w.heap.size, 2, none⟩ = some (.int .i64 num) ∧ w'.cell? ⟨w.heap.size, 3, none⟩ = some (.slice (some ⟨g, 0, none⟩) 1 1))
        (first | (with_reducible exact ⟨p0, p1, p2, p3⟩) | (with_reducible exact ⟨z0, z1, z2, z3⟩) | go_keep | exact ⟨cell_below (below_alloc (Below.refl _ _) _) p0, cell_below (below_alloc (Below.refl _ _) _) p1, cell_below (below_alloc (Below.refl _ _) _) p2, cell_below (below_alloc (Below.refl _ _) _) p3⟩)
        (first
        | (go_at_call 40; refine (made12 _ _ cb _ _ g2 _ _ (cell_below (Below.refl _ wr).drew hc2) hgl2).mono ?_; rintro e4 w4 ⟨rfl, hb4⟩; have hbb4 := below_then (Below.refl _ wr).drew hb4; have HB4 := Ad.mk (below_then HW.out.1 hbb4); have hx4 := blk_below HW.out.2 hbb4; have p0 := blk_cell hx4 0; have p1 := blk_cell hx4 1; have p2 := blk_cell hx4 2; have p3 := blk_cell hx4 3; simp at p0 p1 p2 p3; have HOK4 := Ad.mk (HOK2.out.below hbb4); clear hb4 hx4 hbb4)
        | fail)
      go_wp2_with fail
      go_ret2
      exact ⟨below_alloc HB4.out _, .inr ⟨w4.heap.size, F, cb, rfl, HB4.out.size, blk_new _ _, HOK4.out.below (below_alloc (Below.refl _ _) _)⟩⟩
end Go.Proofs.YtahnelihohmjfaaGreatDoor.V
namespace Go.Proofs.YtahnelihohmjfaaGreatDoor.V
open Go.RowKit
set_option linter.unusedVariables false
set_option linter.unusedSimpArgs false
/-! ### the law's comparisons: of two copies of one value -/
structure SmL (w : World) (v : Val) (A A' : Option Addr) (c c' : Nat) (wr : World) : Prop where
  b0 : wr.heap[w.heap.size]? = some (.cells #[.int .i64 v.k, .int .i64 v.n, .string v.s, .slice A v.items.length c] 42 (0, 0))
  b1 : wr.heap[w.heap.size + 1]? = some (.cells #[.int .i64 v.k, .int .i64 v.n, .string v.s, .slice A' v.items.length c'] 42 (0, 0))
  bw : Below w.heap.size w wr
theorem SmL.below {w wr w1 : World} {v : Val} {A A' : Option Addr} {c c' : Nat} (h : SmL w v A A' c c' wr) (hb : Below wr.heap.size wr w1) : SmL w v A A' c c' w1 := ⟨blk_below h.b0 hb, blk_below h.b1 hb, below_then h.bw hb⟩
set_option maxHeartbeats 8000000 in
set_option maxRecDepth 100000 in
theorem same_step (v : Val) (ih : ∀ x ∈ v.items, ∀ (Q Q' : Nat → Prop) (A A' : Option Addr) (c c' : Nat) (w : World), VA Q w A c x → VA Q' w A' c' x → Calls Tryz.prog 49 #[.agg #[.int .i64 x.k, .int .i64 x.n, .string x.s, .slice A x.items.length c], .agg #[.int .i64 x.k, .int .i64 x.n, .string x.s, .slice A' x.items.length c']] w (Ret w (.bool true)))
    (Q Q' : Nat → Prop) (A A' : Option Addr) (c c' : Nat) (w : World) (hv : VA Q w A c v) (hv' : VA Q' w A' c' v) : Calls Tryz.prog 49 #[.agg #[.int .i64 v.k, .int .i64 v.n, .string v.s, .slice A v.items.length c], .agg #[.int .i64 v.k, .int .i64 v.n, .string v.s, .slice A' v.items.length c']] w (Ret w (.bool true)) := by
  have hm := hv.l.out.2.1
  have HIH := Ad.mk ih
  have HV := Ad.mk hv
  have HV' := Ad.mk hv'
  have e2 : ((w.alloc (.cells #[.int .i64 v.k, .int .i64 v.n, .string v.s, .slice A v.items.length c] 42)).alloc (.cells #[.int .i64 v.k, .int .i64 v.n, .string v.s, .slice A' v.items.length c'] 42)).heap[w.heap.size + 1]? = some (.cells #[.int .i64 v.k, .int .i64 v.n, .string v.s, .slice A' v.items.length c'] 42 (0, 0)) := blk_new2 (Array.size_push _)
  have HS : Ad (SmL w v A A' c c' ((w.alloc (.cells #[.int .i64 v.k, .int .i64 v.n, .string v.s, .slice A v.items.length c] 42)).alloc (.cells #[.int .i64 v.k, .int .i64 v.n, .string v.s, .slice A' v.items.length c'] 42))) := ⟨⟨blk_alloc (blk_new w _) _, e2, below_alloc (below_alloc (Below.refl _ _) _) _⟩⟩
  clear hv hv' ih e2
  go_enter Tryz.func49, Tryz.ntmps49
  go_wp2_with fail
  go_loopw [5] (fun v5 wr => ∃ i : Nat, i ≤ v.items.length ∧ v5 = .int .i64 i ∧ Ad (SmL w v A A' c c' wr)) (fun v5 _ => v.items.length - (intOf v5).toNat)
  case atStart => exact ⟨0, Nat.zero_le _, rfl, HS⟩
  case round =>
    obtain ⟨i, hi, rfl, HL⟩ := hrel
    have x3 : wr.cell? ⟨w.heap.size, 3, none⟩ = some (.slice A v.items.length c) := blk_cell HL.out.b0 3
    have y3 : wr.cell? ⟨w.heap.size + 1, 3, none⟩ = some (.slice A' v.items.length c') := blk_cell HL.out.b1 3
    by_cases hlt : i < v.items.length
    · obtain ⟨ad, B, d, rfl, f0, f1, f2, f3, hva⟩ := (HV.out.below HL.out.bw).l.at i hlt
      obtain ⟨ad', B', d', rfl, g0, g1, g2, g3, hva'⟩ := (HV'.out.below HL.out.bw).l.at i hlt
      obtain ⟨x, hx⟩ : ∃ x, v.items.getD i Val.none = x := ⟨_, rfl⟩
      rw [hx] at f0 f1 f2 f3 g0 g1 g2 g3 hva hva'
      have hmem : x ∈ v.items := by rw [← hx, List.getD_eq_getElem?_getD, List.getElem?_eq_getElem hlt]; exact List.getElem_mem _
      have HM := Ad.mk hmem
      have HVA := Ad.mk (hva.below (Below.refl _ wr).drew)
      have HVA' := Ad.mk (hva'.below (Below.refl _ wr).drew)
      clear hmem hva hva' hx
      go_upto_region 6 with fail
      go_region_held3 (fun w' => w'.cell? ⟨w.heap.size, 3, none⟩ = some (.slice (some ad) v.items.length c) ∧ w'.cell? ⟨w.heap.size + 1, 3, none⟩ = some (.slice (some ad') v.items.length c') ∧ w'.cell? (ad.add (i * 4)) = some (.int .i64 x.k) ∧ w'.cell? ⟨(ad.add (i * 4)).block, (ad.add (i * 4)).off + 1, none⟩ = some (.int .i64 x.n) ∧ w'.cell? ⟨(ad.add (i * 4)).block, (ad.add (i * 4)).off + 2, none⟩ = some (.string x.s) ∧ w'.cell? ⟨(ad.add (i * 4)).block, (ad.add (i * 4)).off + 3, none⟩ = some (.slice B x.items.length d) ∧ w'.cell? (ad'.add (i * 4)) = some (.int .i64 x.k) ∧ w'.cell? ⟨(ad'.add (i * 4)).block, (ad'.add (i * 4)).off + 1, none⟩ = some (.int .i64 x.n) ∧ w'.cell? ⟨(ad'.add (i * 4)).block, (ad'.add (i * 4)).off + 2, none⟩ = some (.string x.s) ∧ w'.cell? ⟨(ad'.add (i * 4)).block, (ad'.add (i * 4)).off + 3, none⟩ = some (.slice B' x.items.length d'))
        (first | (with_reducible exact ⟨cell_below HB1.out x3, cell_below HB1.out y3, cell_below HB1.out f0, cell_below HB1.out f1, cell_below HB1.out f2, cell_below HB1.out f3, cell_below HB1.out g0, cell_below HB1.out g1, cell_below HB1.out g2, cell_below HB1.out g3⟩) | (with_reducible exact ⟨x3, y3, f0, f1, f2, f3, g0, g1, g2, g3⟩) | go_keep)
        (first
        | (go_at_call 49; go_must (refine (HIH.out x HM.out _ _ B B' d d' _ HVA.out HVA'.out).mono ?_); rintro e1 w1 ⟨rfl, hb1⟩; have HB1 := Ad.mk (below_then (Below.refl _ wr).drew hb1); clear hb1)
        | fail)
      go_wp2_with fail
      exact ⟨⟨i + 1, by omega, by simp, ⟨HL.out.below HB1.out⟩⟩, by simp [intOf]; omega⟩
    · go_wp2_with fail
      go_ret
      exact ⟨rfl, HL.out.bw⟩
theorem same_calls : ∀ (n : Nat) (v : Val), SizeOf.sizeOf v < n → ∀ (Q Q' : Nat → Prop) (A A' : Option Addr) (c c' : Nat) (w : World), VA Q w A c v → VA Q' w A' c' v → Calls Tryz.prog 49 #[.agg #[.int .i64 v.k, .int .i64 v.n, .string v.s, .slice A v.items.length c], .agg #[.int .i64 v.k, .int .i64 v.n, .string v.s, .slice A' v.items.length c']] w (Ret w (.bool true))
  | 0, v, h, _, _, _, _, _, _, _, _, _ => absurd h (by omega)
  | n + 1, v, h, Q, Q', A, A', c, c', w, hv, hv' => same_step v (fun x hx => same_calls n x (by have := sizeOf_item hx; omega)) Q Q' A A' c c' w hv hv'
end Go.Proofs.YtahnelihohmjfaaGreatDoor.V
namespace Go.Proofs.YtahnelihohmjfaaGreatDoor.V
open Go.RowKit
set_option linter.unusedVariables false
set_option linter.unusedSimpArgs false
structure SrL (w : World) (key : ByteArray) (v : Val) (ls : List Int) (A A' B B' : Option Addr) (c c' d d' : Nat) (wr : World) : Prop where
  b0 : wr.heap[w.heap.size]? = some (.cells #[.string key, .int .i64 v.k, .int .i64 v.n, .string v.s, .slice A v.items.length c, .slice B ls.length d] 45 (0, 0))
  b1 : wr.heap[w.heap.size + 1]? = some (.cells #[.string key, .int .i64 v.k, .int .i64 v.n, .string v.s, .slice A' v.items.length c', .slice B' ls.length d'] 45 (0, 0))
  bw : Below w.heap.size w wr
theorem SrL.below {w wr w1 : World} {key : ByteArray} {v : Val} {ls : List Int} {A A' B B' : Option Addr} {c c' d d' : Nat} (h : SrL w key v ls A A' B B' c c' d d' wr) (hb : Below wr.heap.size wr w1) : SrL w key v ls A A' B B' c c' d d' w1 := ⟨blk_below h.b0 hb, blk_below h.b1 hb, below_then h.bw hb⟩
set_option maxHeartbeats 8000000 in
set_option maxRecDepth 100000 in
theorem sameRec_calls (key : ByteArray) (v : Val) (ls : List Int) (Q Q' : Nat → Prop) (A A' B B' : Option Addr) (c c' d d' : Nat) (w : World) (hv : VA Q w A c v) (hv' : VA Q' w A' c' v) (hl : LI w B d ls) (hl' : LI w B' d' ls) : Calls Tryz.prog 19 #[.agg #[.string key, .int .i64 v.k, .int .i64 v.n, .string v.s, .slice A v.items.length c, .slice B ls.length d], .agg #[.string key, .int .i64 v.k, .int .i64 v.n, .string v.s, .slice A' v.items.length c', .slice B' ls.length d']] w (Ret w (.bool true)) := by
  have hm := hl.m
  have HV := Ad.mk hv
  have HV' := Ad.mk hv'
  have HL0 := Ad.mk hl
  have HL1 := Ad.mk hl'
  have e2 : ((w.alloc (.cells #[.string key, .int .i64 v.k, .int .i64 v.n, .string v.s, .slice A v.items.length c, .slice B ls.length d] 45)).alloc (.cells #[.string key, .int .i64 v.k, .int .i64 v.n, .string v.s, .slice A' v.items.length c', .slice B' ls.length d'] 45)).heap[w.heap.size + 1]? = some (.cells #[.string key, .int .i64 v.k, .int .i64 v.n, .string v.s, .slice A' v.items.length c', .slice B' ls.length d'] 45 (0, 0)) := blk_new2 (Array.size_push _)
  have HS : Ad (SrL w key v ls A A' B B' c c' d d' ((w.alloc (.cells #[.string key, .int .i64 v.k, .int .i64 v.n, .string v.s, .slice A v.items.length c, .slice B ls.length d] 45)).alloc (.cells #[.string key, .int .i64 v.k, .int .i64 v.n, .string v.s, .slice A' v.items.length c', .slice B' ls.length d'] 45))) := ⟨⟨blk_alloc (blk_new w _) _, e2, below_alloc (below_alloc (Below.refl _ _) _) _⟩⟩
  clear hv hv' hl hl' e2
  go_enter Tryz.func19, Tryz.ntmps19
  go_upto_region 4 with (first
    | (go_at_call 49; go_must (refine (same_calls _ v (Nat.lt_succ_self _) Q Q' A A' c c' _ (HV.out.below HS.out.bw) (HV'.out.below HS.out.bw)).mono ?_); rintro e1 w1 ⟨rfl, hb1⟩; have HS1 := Ad.mk (HS.out.below hb1); clear hb1)
    | fail)
  go_loopw [5] (fun v5 wr => ∃ i : Nat, i ≤ ls.length ∧ v5 = .int .i64 i ∧ Ad (SrL w key v ls A A' B B' c c' d d' wr)) (fun v5 _ => ls.length - (intOf v5).toNat)
  case atStart => exact ⟨0, Nat.zero_le _, rfl, HS1⟩
  case round =>
    obtain ⟨i, hi, rfl, HL⟩ := hrel
    have x3 : wr.cell? ⟨w.heap.size, 5, none⟩ = some (.slice B ls.length d) := blk_cell HL.out.b0 5
    have y3 : wr.cell? ⟨w.heap.size + 1, 5, none⟩ = some (.slice B' ls.length d') := blk_cell HL.out.b1 5
    by_cases hlt : i < ls.length
    · obtain ⟨ad, rfl, h1⟩ := (HL0.out.below HL.out.bw).h (by omega)
      obtain ⟨ad', rfl, h2⟩ := (HL1.out.below HL.out.bw).h (by omega)
      have f0 := (h1 i hlt).1
      have g0 := (h2 i hlt).1
      obtain ⟨x, hx⟩ : ∃ x, ls.getD i 0 = x := ⟨_, rfl⟩
      rw [hx] at f0 g0
      clear h1 h2 hx
      go_upto_region 6 with fail
      go_region_held3 (fun w' => w'.cell? ⟨w.heap.size, 5, none⟩ = some (.slice (some ad) ls.length d) ∧ w'.cell? ⟨w.heap.size + 1, 5, none⟩ = some (.slice (some ad') ls.length d') ∧ w'.cell? (ad.add i) = some (.int .i64 x) ∧ w'.cell? (ad'.add i) = some (.int .i64 x))
        (first | (with_reducible exact ⟨x3, y3, f0, g0⟩) | go_keep) (fail)
      go_wp2_with fail
      exact ⟨⟨i + 1, by omega, by simp, ⟨HL.out.below (Below.refl _ _).drew⟩⟩, by simp [intOf]; omega⟩
    · go_wp2_with fail
      go_ret
      exact ⟨rfl, HL.out.bw⟩
end Go.Proofs.YtahnelihohmjfaaGreatDoor.V
namespace Go.Proofs.YtahnelihohmjfaaGreatDoor.V
open Go.RowKit
set_option linter.unusedVariables false
set_option linter.unusedSimpArgs false
/-! ### a step of a head, a step of a tail -/
theorem disp_head (w : World) : (method 464 161 (.agg #[]) "eddy/stage.work").run Tryz.prog w = .ok (265, .agg #[]) w := by kernel_rfl
theorem disp_tail (cb : Nat) (most : Int) (w : World) : (method 464 163 (.agg #[.pointer (some ⟨cb, 0, none⟩), .int .i64 most]) "eddy/stage.work").run Tryz.prog w = .ok (266, .agg #[.pointer (some ⟨cb, 0, none⟩), .int .i64 most]) w := by kernel_rfl
theorem work_head (base : Nat) (port : Int) (key : ByteArray) (v : Val) (ls : List Int) (w : World) (hok : checkP v = 0) (hln : ls.length ≤ 100) : WorkOK base 265 (.agg #[]) port 0 key v ls (if port = 0 ∧ ls.length < 3 then ls ++ [0] else ls) w := by
  intro w2 b mm A c B Q hb hv hQ hrow hbB hbase hwb
  obtain ⟨B', d, rfl, _⟩ := hrow.form (by omega)
  exact head_work b 0 mm port key v ls A B' c d base Q w2 hb hv hQ hok hrow hbB hbase hln
theorem RowN.some {base : Nat} {w : World} {v : Value} {ls : List Int} {x : Int} (h : RowN base w v (ls ++ [x])) : ∃ g d, v = .slice (Option.some ⟨g, 0, none⟩) (ls.length + 1) d := by
  rcases h.1.2 with ⟨rfl, h0⟩ | ⟨g, cap, cur, rfl, _⟩
  · simp at h0
  · exact ⟨g, cap, by simp⟩
theorem work_tail (cb : Nat) (F : EnvV → Val) (most : Int) (port : Int) (key : ByteArray) (v : Val) (ls0 : List Int) (x0 : Int) (w : World) (hc : CodeOK w (.pointer (some ⟨cb, 0, none⟩)) F) (hok : checkP v = 0) (hln : ls0.length ≤ 100) (hx0 : 0 ≤ x0 ∧ x0 ≤ 1000000) (hks : key.size ≤ 140737488351232) :
    WorkOK w.heap.size 266 (.agg #[.pointer (some ⟨cb, 0, none⟩), .int .i64 most]) port (if leaves F most key v ls0 (x0 + 1) then 1 else 0) key v (ls0 ++ [x0]) (if leaves F most key v ls0 (x0 + 1) then ls0 else ls0 ++ [x0 + 1]) w := by
  intro w2 b mm A c B Q hb hv hQ hrow hbB hbase hwb
  obtain ⟨g, d, rfl⟩ := hrow.some
  obtain ⟨b', t, f, e, hcb, hev⟩ := hc
  injection e with e
  injection e with e
  injection e with e
  subst e
  obtain ⟨kf, cap, rfl, _⟩ := hev.calls
  exact tail_work b cb t kf cap F most 0 mm port key v ls0 x0 A g d c w.heap.size Q w2 w hcb hev hwb (Nat.le_refl _) hb hv (fun q hq => ⟨(hQ q hq).1, fun e => (hQ q hq).2 (by simp [Value.ownBlock, e])⟩) hok hrow (fun e => hbB (by simp [Value.ownBlock, e])) hbase hln hx0 hks
theorem ck_parts {key : ByteArray} {v : Val} {ls : List Int} (h : ckR key v ls = 0) : key.size ≤ 12 ∧ checkP v = 0 ∧ ls.length ≤ 3 ∧ ∀ n ∈ ls, 0 ≤ n ∧ n ≤ 9 := by
  unfold ckR at h
  split at h
  · cases h
  · split at h
    · rename_i h2; exact absurd h h2
    · split at h
      · cases h
      · split at h
        · rename_i h1 h2 h3 h4
          refine ⟨by omega, by simpa using h2, by omega, fun n hn => ?_⟩
          have := List.all_eq_true.1 h4 n hn
          simpa using this
        · cases h
theorem ck_of {key : ByteArray} {v : Val} {ls : List Int} (h1 : key.size ≤ 12) (h2 : checkP v = 0) (h3 : ls.length ≤ 3) (h4 : ∀ n ∈ ls, 0 ≤ n ∧ n ≤ 9) : ckR key v ls = 0 := by
  unfold ckR
  rw [if_neg (by omega), if_neg (by simp [h2]), if_neg (by omega), if_pos]
  exact List.all_eq_true.2 fun n hn => by simpa using h4 n hn
/-- a head's step: the record's counter comes on, or goes through -/
theorem step_head (b : Nat) (port : Int) (key : ByteArray) (v : Val) (ls : List Int) (A B : Option Addr) (c d : Nat) (w : World) (hb : w.heap[b]? = some (.cells #[.iface 161 (.agg #[]), .bool false, .int .i64 2] 99 (0, 0))) (hp : port = 0 ∨ port = 1) (hck : ckR key v ls = 0) (hv : VA (fun x => x < w.heap.size) w A c v) (hl : LI w B d ls) :
    Calls Tryz.prog 12 #[.pointer (some ⟨b, 0, none⟩), .agg #[.int .i64 0, .slice none 0 0], .int .i64 port, .agg #[.string key, .int .i64 v.k, .int .i64 v.n, .string v.s, .slice A v.items.length c, .slice B ls.length d]] w (Stepped w 0 key v (if port = 0 ∧ ls.length < 3 then ls ++ [0] else ls)) := by
  obtain ⟨h1, h2, h3, h4⟩ := ck_parts hck
  exact step0 b 161 (.agg #[]) _ 2 port 0 key v ls _ A B c d _ w hb (.inl rfl) disp_head (enters Tryz.func265 (by kernel_rfl) (by kernel_rfl)) (work_head _ port key v ls w h2 (by omega)) (by omega) (by omega) hck h2 (by omega) hv (fun _ h => h) hl
/-- a tail's step: out, without the counter; or back, with one more -/
theorem step_tail (b cb : Nat) (F : EnvV → Val) (most : Int) (key : ByteArray) (v : Val) (ls0 : List Int) (x0 : Int) (A B : Option Addr) (c d : Nat) (w : World) (hb : w.heap[b]? = some (.cells #[.iface 163 (.agg #[.pointer (some ⟨cb, 0, none⟩), .int .i64 most]), .bool false, .int .i64 1] 99 (0, 0))) (hc : CodeOK w (.pointer (some ⟨cb, 0, none⟩)) F) (hck : ckR key v (ls0 ++ [x0]) = 0) (hv : VA (fun x => x < w.heap.size) w A c v) (hl : LI w B d (ls0 ++ [x0])) :
    Calls Tryz.prog 12 #[.pointer (some ⟨b, 0, none⟩), .agg #[.int .i64 0, .slice none 0 0], .int .i64 0, .agg #[.string key, .int .i64 v.k, .int .i64 v.n, .string v.s, .slice A v.items.length c, .slice B (ls0.length + 1) d]] w (Stepped w (if leaves F most key v ls0 (x0 + 1) then 1 else 0) key v (if leaves F most key v ls0 (x0 + 1) then ls0 else ls0 ++ [x0 + 1])) := by
  obtain ⟨h1, h2, h3, h4⟩ := ck_parts hck
  have hx := h4 x0 (by simp)
  simp at h3
  have h := step0 b 163 (.agg #[.pointer (some ⟨cb, 0, none⟩), .int .i64 most]) _ 1 0 _ key v (ls0 ++ [x0]) _ A B c d _ w hb (.inr ⟨cb, most, rfl⟩) (disp_tail cb most) (enters Tryz.func266 (by kernel_rfl) (by kernel_rfl)) (work_tail cb F most 0 key v ls0 x0 w hc h2 (by omega) (by omega) (by omega)) (by omega) (by omega) hck h2 (by simp; omega) hv (fun _ h => h) hl
  simpa using h
end Go.Proofs.YtahnelihohmjfaaGreatDoor.V
namespace Go.Proofs.YtahnelihohmjfaaGreatDoor.V
open Go.RowKit
set_option linter.unusedVariables false
set_option linter.unusedSimpArgs false
/-! ### the law's first half: the two tasks -/
theorem NewT.form {X : Nat → Prop} {n : Int} {cond : ByteArray} {w w' : World} {e : Ending} (h : NewT X n cond w e w') : ∃ (V : Option Addr) (E : Int), e = .returned (.tuple #[.pointer V, .int .i64 E]) := by
  rcases h.2 with ⟨h, _⟩ | ⟨b, F, cb, h, _⟩
  · exact ⟨_, _, h⟩
  · exact ⟨_, _, h⟩
/-- the two tasks, the record beside them -/
structure TwoT (w wt : World) (key : ByteArray) (v : Val) (ls : List Int) (A B : Option Addr) (c d : Nat) (n : Int) (bh bt cb : Nat) (F : EnvV → Val) : Prop where
  bw : Below w.heap.size w wt
  rc : wt.heap[w.heap.size]? = some (.cells #[.string key, .int .i64 v.k, .int .i64 v.n, .string v.s, .slice A v.items.length c, .slice B ls.length d] 45 (0, 0))
  hd : wt.heap[bh]? = some (.cells #[.iface 161 (.agg #[]), .bool false, .int .i64 2] 99 (0, 0))
  tl : wt.heap[bt]? = some (.cells #[.iface 163 (.agg #[.pointer (some ⟨cb, 0, none⟩), .int .i64 n]), .bool false, .int .i64 1] 99 (0, 0))
  code : CodeX (· = w.heap.size) wt (.pointer (some ⟨cb, 0, none⟩)) F
  bhn : w.heap.size < bh
  btn : w.heap.size < bt
theorem TwoT.below {w wt w1 : World} {key : ByteArray} {v : Val} {ls : List Int} {A B : Option Addr} {c d : Nat} {n : Int} {bh bt cb : Nat} {F : EnvV → Val} (h : TwoT w wt key v ls A B c d n bh bt cb F) (hb : Below wt.heap.size wt w1) : TwoT w w1 key v ls A B c d n bh bt cb F := ⟨below_then h.bw hb, blk_below h.rc hb, blk_below h.hd hb, blk_below h.tl hb, h.code.below hb, h.bhn, h.btn⟩
theorem TwoT.blank {w wt : World} {key : ByteArray} {v : Val} {ls : List Int} {A B : Option Addr} {c d : Nat} {n : Int} {bh bt cb : Nat} {F : EnvV → Val} (h : TwoT w wt key v ls A B c d n bh bt cb F) : TwoT w ((((((wt.setCell ⟨w.heap.size, 0, none⟩ (.string ⟨#[107]⟩)).setCell ⟨w.heap.size, 1, none⟩ (.int .i64 0)).setCell ⟨w.heap.size, 2, none⟩ (.int .i64 0)).setCell ⟨w.heap.size, 3, none⟩ (.string ⟨#[]⟩)).setCell ⟨w.heap.size, 4, none⟩ (.slice none 0 0)).setCell ⟨w.heap.size, 5, none⟩ (.slice none 0 0)) ⟨#[107]⟩ Val.none [] none none 0 0 n bh bt cb F := by
  have hc := ((((((Chg.refl wt (· = w.heap.size)).set rfl 0 (.string ⟨#[107]⟩)).set rfl 1 (.int .i64 0)).set rfl 2 (.int .i64 0)).set rfl 3 (.string ⟨#[]⟩)).set rfl 4 (.slice none 0 0)).set rfl 5 (.slice none 0 0)
  refine ⟨below_chg h.bw hc (fun q hq => Nat.le_of_eq hq.symm), blk_put (blk_put (blk_put (blk_put (blk_put (blk_put h.rc 0 _ rfl) 1 _ rfl) 2 _ rfl) 3 _ rfl) 4 _ rfl) 5 _ rfl, (hc.block bh (blk_lt h.hd) (fun e => ?_)).trans h.hd, (hc.block bt (blk_lt h.tl) (fun e => ?_)).trans h.tl, fun w2 hc2 => h.code w2 (hc.trans hc2), h.bhn, h.btn⟩
  · have := h.bhn; have h2 : bh = w.heap.size := e; omega
  · have := h.btn; have h2 : bt = w.heap.size := e; omega
theorem ck_blank : ckR ⟨#[107]⟩ Val.none [] = 0 := ck_of (by decide) valid_none (by decide) (fun n hn => absurd hn (by simp))
theorem li_nil (w : World) : LI w none 0 [] := ⟨Nat.zero_le _, Nat.zero_le _, fun h => absurd h (by simp)⟩
/-- the record's counters at the i-th round -/
def lsAt (ls : List Int) (i : Nat) : List Int := if i = 0 then ls else ls ++ [(i : Int)]
/-- under way: what stood behind New stands, and x is the record with its counter -/
structure LpW (wt wr : World) (key : ByteArray) (v : Val) (ls : List Int) (i : Nat) : Prop where
  bw : Below wt.heap.size wt wr
  cur : ∃ A1 c1 B1 d1, wr.heap[wt.heap.size]? = some (.cells #[.string key, .int .i64 v.k, .int .i64 v.n, .string v.s, .slice A1 v.items.length c1, .slice B1 (lsAt ls i).length d1] 45 (0, 0)) ∧ VA (fun q => q < wr.heap.size) wr A1 c1 v ∧ LI wr B1 d1 (lsAt ls i)
/-- the one record that a step sent, cell by cell -/
structure SentAt (w w' : World) (g cap : Nat) (out : Int) (key : ByteArray) (v : Val) (ls : List Int) (A : Option Addr) (c : Nat) (B : Option Addr) (d : Nat) : Prop where
  bw : Below w.heap.size w w'
  gw : w.heap.size ≤ g
  gl : g < w'.heap.size
  cp : 1 ≤ cap
  c0 : w'.cell? ⟨g, 0, none⟩ = some (.int .i64 out)
  c1 : w'.cell? ⟨g, 1, none⟩ = some (.string key)
  c2 : w'.cell? ⟨g, 2, none⟩ = some (.int .i64 v.k)
  c3 : w'.cell? ⟨g, 3, none⟩ = some (.int .i64 v.n)
  c4 : w'.cell? ⟨g, 4, none⟩ = some (.string v.s)
  c5 : w'.cell? ⟨g, 5, none⟩ = some (.slice A v.items.length c)
  c6 : w'.cell? ⟨g, 6, none⟩ = some (.slice B ls.length d)
  va : VA (fun q => w.heap.size ≤ q ∧ q < w'.heap.size) w' A c v
  li : LI w' B d ls
  lr : RowN w.heap.size w' (.slice B ls.length d) ls
theorem RowN.li {base : Nat} {w : World} {B : Option Addr} {d : Nat} {ls : List Int} (h : RowN base w (.slice B ls.length d) ls) (hm : ls.length ≤ 1000) : LI w B d ls := by
  obtain ⟨B', d', e, h'⟩ := h.form hm
  injection e with e1 e2 e3
  subst e1 e3
  exact h'
theorem RowN.chg {base : Nat} {w w' : World} {v : Value} {ls : List Int} {S : Nat → Prop} (h : RowN base w v ls) (hc : Chg w w' S) (hS : ∀ q, base ≤ q → ¬ S q) : RowN base w' v ls := ⟨own_chg h.1 hc (fun g hg => hS g (own_lt h.1 g hg).1), h.2⟩
theorem Stepped.open {w w' : World} {out : Int} {key : ByteArray} {v : Val} {ls : List Int} {e : Ending} (h : Stepped w out key v ls e w') (hm : ls.length ≤ 1000) : ∃ g cap A c B d, e = .returned (.tuple #[.agg #[.int .i64 0, .slice none 0 0], .slice (some ⟨g, 0, none⟩) 1 cap, .int .i64 0]) ∧ SentAt w w' g cap out key v ls A c B d := by
  obtain ⟨g, cap, A, c, B0, rfl, hown, hrow, hva, hbw⟩ := h
  obtain ⟨B, d, rfl, hli⟩ := hrow.form hm
  rcases hown.2 with ⟨h0, _⟩ | ⟨g', cap', cur, he, hg, hh, hn, _, hs, ht⟩
  · cases h0
  · injection he with e1 e2 e3
    injection e1 with e1
    injection e1 with e1
    subst e1 e3
    have cell : ∀ i u, i < 7 → [Value.int .i64 out, .string key, .int .i64 v.k, .int .i64 v.n, .string v.s, .slice A v.items.length c, .slice B ls.length d][i]? = some u → w'.cell? ⟨g, i, none⟩ = some u := by
      intro i u hi hu
      rw [← ht, List.getElem?_take, if_pos (by omega)] at hu
      rw [blk_cell hh i, ← Array.getElem?_toList]
      exact hu
    exact ⟨g, cap, A, c, B, d, rfl, ⟨hbw, hg, blk_lt hh, by omega, cell 0 _ (by omega) rfl, cell 1 _ (by omega) rfl, cell 2 _ (by omega) rfl, cell 3 _ (by omega) rfl, cell 4 _ (by omega) rfl, cell 5 _ (by omega) rfl, cell 6 _ (by omega) rfl, hva.weak (fun b hb hq => ⟨hq, hb⟩), hli, hrow⟩⟩
theorem SentAt.below {w w1 w2 : World} {g cap : Nat} {out : Int} {key : ByteArray} {v : Val} {ls : List Int} {A : Option Addr} {c : Nat} {B : Option Addr} {d : Nat} (h : SentAt w w1 g cap out key v ls A c B d) (hb : Below w1.heap.size w1 w2) : SentAt w w2 g cap out key v ls A c B d :=
  ⟨below_then h.bw hb, h.gw, Nat.lt_of_lt_of_le h.gl hb.size, h.cp, cell_below hb h.c0, cell_below hb h.c1, cell_below hb h.c2, cell_below hb h.c3, cell_below hb h.c4, cell_below hb h.c5, cell_below hb h.c6, (h.va.below hb).weak (fun b _ hq => ⟨hq.1, Nat.lt_of_lt_of_le hq.2 hb.size⟩), h.li.below hb, h.lr.below hb⟩
theorem port_out (ls : List Int) (i : Nat) (h3 : ls.length < 3) : (if (if i = 0 then (0 : Int) else 1) = 0 ∧ (lsAt ls i).length < 3 then lsAt ls i ++ [0] else lsAt ls i) = ls ++ [(i : Int)] := by
  by_cases h : i = 0
  · subst h
    simp [lsAt, h3]
  · simp [lsAt, h]
theorem ck_at {key : ByteArray} {v : Val} {ls : List Int} {i : Nat} (h : ckR key v ls = 0) (h3 : ls.length < 3) (hi : i ≤ 9) : ckR key v (ls ++ [(i : Int)]) = 0 := by
  obtain ⟨h1, h2, _, h4⟩ := ck_parts h
  refine ck_of h1 h2 (by simp; omega) (fun n hn => ?_)
  rcases List.mem_append.1 hn with h | h
  · exact h4 n h
  · simp at h; omega
theorem ck_lsAt {key : ByteArray} {v : Val} {ls : List Int} {i : Nat} (h : ckR key v ls = 0) (h3 : ls.length < 3) (hi : i ≤ 9) : ckR key v (lsAt ls i) = 0 := by
  unfold lsAt
  split
  · exact h
  · exact ck_at h h3 hi
/-- the record written into the block of x -/
theorem six_put {w : World} {g : Nat} {cs : Array Value} (h : w.heap[g]? = some (.cells cs 45 (0, 0))) (hs : cs.size = 6) (u0 u1 u2 u3 u4 u5 : Value) :
    ((((((w.setCell ⟨g, 0, none⟩ u0).setCell ⟨g, 1, none⟩ u1).setCell ⟨g, 2, none⟩ u2).setCell ⟨g, 3, none⟩ u3).setCell ⟨g, 4, none⟩ u4).setCell ⟨g, 5, none⟩ u5).heap[g]? = some (.cells #[u0, u1, u2, u3, u4, u5] 45 (0, 0)) ∧
    Chg w ((((((w.setCell ⟨g, 0, none⟩ u0).setCell ⟨g, 1, none⟩ u1).setCell ⟨g, 2, none⟩ u2).setCell ⟨g, 3, none⟩ u3).setCell ⟨g, 4, none⟩ u4).setCell ⟨g, 5, none⟩ u5) (· = g) := by
  obtain ⟨l⟩ := cs
  obtain ⟨a, b, c, d, e, f, rfl⟩ : ∃ a b c d e f, l = [a, b, c, d, e, f] := by
    match l, hs with
    | [a, b, c, d, e, f], _ => exact ⟨a, b, c, d, e, f, rfl⟩
  exact ⟨blk_put (blk_put (blk_put (blk_put (blk_put (blk_put h 0 _ rfl) 1 _ rfl) 2 _ rfl) 3 _ rfl) 4 _ rfl) 5 _ rfl, ((((((Chg.refl w (· = g)).set rfl 0 u0).set rfl 1 u1).set rfl 2 u2).set rfl 3 u3).set rfl 4 u4).set rfl 5 u5⟩
set_option maxHeartbeats 8000000 in
set_option maxRecDepth 100000 in
theorem law_calls (num : Int) (cond key : ByteArray) (v : Val) (ls : List Int) (A B : Option Addr) (c d : Nat) (w : World) (hN : GN w) (hG : GVb w w.heap.size) (hv : VA (fun q => q < w.heap.size) w A c v) (hl : LI w B d ls) :
    Calls Tryz.prog 5 #[.int .i64 num, .string cond, .agg #[.string key, .int .i64 v.k, .int .i64 v.n, .string v.s, .slice A v.items.length c, .slice B ls.length d]] w (Ret w (.bool true)) := by
  have HN := Ad.mk hN
  have HG := Ad.mk hG
  have HV := Ad.mk hv
  have HL := Ad.mk hl
  have HBA := Ad.mk (below_alloc (below_alloc (Below.refl w.heap.size w) (.cells #[.string key, .int .i64 v.k, .int .i64 v.n, .string v.s, .slice A v.items.length c, .slice B ls.length d] 45)) (.cells #[.string key, .int .i64 v.k, .int .i64 v.n, .string v.s, .slice A v.items.length c, .slice B ls.length d] 45))
  have HX := Ad.mk (blk_alloc (blk_new w (.cells #[.string key, .int .i64 v.k, .int .i64 v.n, .string v.s, .slice A v.items.length c, .slice B ls.length d] 45)) (.cells #[.string key, .int .i64 v.k, .int .i64 v.n, .string v.s, .slice A v.items.length c, .slice B ls.length d] 45))
  have hx1 : ((w.alloc (.cells #[.string key, .int .i64 v.k, .int .i64 v.n, .string v.s, .slice A v.items.length c, .slice B ls.length d] 45)).alloc (.cells #[.string key, .int .i64 v.k, .int .i64 v.n, .string v.s, .slice A v.items.length c, .slice B ls.length d] 45)).heap[w.heap.size + 1]? = some (.cells #[.string key, .int .i64 v.k, .int .i64 v.n, .string v.s, .slice A v.items.length c, .slice B ls.length d] 45 (0, 0)) := blk_new2 (Array.size_push _)
  have HX1 := Ad.mk hx1
  have hlm := hl.m
  have HLM := Ad.mk hlm
  clear hN hG hv hl hx1 hlm
  go_enter Tryz.func5, Tryz.ntmps5
  go_upto_region 3 with (go_at_call 18; go_must (refine (records_calls _ key v ls A B c d (w.heap.size + 1) _ (HV.out.l.below HBA.out) HLM.out HX1.out).mono ?_); rintro e1 w1 ⟨bb, rfl, hb1⟩; have HB1 := Ad.mk (below_then HBA.out hb1); have HY := Ad.mk (blk_below HX.out hb1); clear hb1; cases bb)
  · go_wp2_with fail
    go_ret
    exact ⟨rfl, HB1.out⟩
  · go_cut [29] (fun v29 wx => v29 = .bool (decide (¬ (0 ≤ num ∧ num ≤ 9))) ∧ Ad (wx = w1))
    case first =>
      by_cases h0 : num < 0
      · go_wp2_with fail
        go_meet
        exact ⟨by simp; omega, ⟨rfl⟩⟩
      · go_wp2_with fail
        go_meet
        exact ⟨by simp; omega, ⟨rfl⟩⟩
    case rest =>
      obtain ⟨rfl, ⟨hwx⟩⟩ := hcut
      subst wc
      go_upto_if 29 with (fail)
      go_cut [0] (fun v0 wx => ∃ n : Int, v0 = .int .i64 n ∧ 0 ≤ n ∧ n ≤ 9 ∧ Ad (wx = w1))
      case first =>
        by_cases h0 : 0 ≤ num ∧ num ≤ 9
        · have h1 : decide (¬ (0 ≤ num ∧ num ≤ 9)) = false := by simp [h0]
          rw [h1]
          go_wp2_with fail
          go_meet
          exact ⟨num, rfl, h0.1, h0.2, ⟨rfl⟩⟩
        · have h1 : decide (¬ (0 ≤ num ∧ num ≤ 9)) = true := by simp [h0]
          rw [h1]
          go_wp2_with fail
          go_meet
          exact ⟨0, rfl, by omega, by omega, ⟨rfl⟩⟩
      case rest =>
        obtain ⟨n, rfl, n0, n9, ⟨hwx⟩⟩ := hcut
        subst wc
        go_upto_region 6 with (go_at_call 9; go_must (refine (new_head _ (HN.out.below HB1.out)).mono ?_); rintro e2 w2 ⟨bh, rfl, hbh, hh2, hb2⟩; have HB2 := Ad.mk (below_then HB1.out hb2); have HY2 := Ad.mk (blk_below HY.out hb2); have HH2 := Ad.mk hh2; have HBH : Ad (w.heap.size < bh) := ⟨Nat.lt_of_lt_of_le (blk_lt HY.out) hbh⟩; clear hbh hh2 hb2)
        go_cut [9, 10] (fun v9 v10 wx => ∃ (V : Option Addr) (E : Int), v9 = .pointer V ∧ v10 = .int .i64 E ∧ Ad (NewT (· = w.heap.size) n cond (w2.alloc (.cells #[.string cond] 9)) (.returned (.tuple #[.pointer V, .int .i64 E])) wx))
        case first =>
          have HBB := Ad.mk (below_then HB2.out (below_alloc (Below.refl w2.heap.size w2) (.cells #[.string cond] 9)))
          have hcw : (w2.alloc (.cells #[.string cond] 9)).cell? ⟨w2.heap.size, 0, none⟩ = some (.string cond) := blk_cell (blk_new w2 (.cells #[.string cond] 9)) 0
          have HCW := Ad.mk hcw
          have HCL := Ad.mk (blk_lt (blk_new w2 (.cells #[.string cond] 9)))
          clear hcw
          go_wp2_with (go_at_call 9; go_must (refine (new_tail (· = w.heap.size) n cond w2.heap.size w.heap.size _ (HN.out.below HBB.out) (by obtain ⟨w0, h0, h1, h2⟩ := HG.out; exact ⟨w0, h0, below_then h1 HBB.out, h2⟩) ⟨n0, n9⟩ HCW.out HCL.out (fun b hb => ⟨Nat.le_of_eq hb.symm, by rw [show b = w.heap.size from hb]; exact Nat.lt_of_lt_of_le (blk_lt HY2.out) (below_alloc (Below.refl _ _) _).size⟩)).mono ?_); rintro e3 w3 hnt; obtain ⟨V, E, rfl⟩ := hnt.form; have HT := Ad.mk hnt; clear hnt)
          go_meet
          exact ⟨V, E, rfl, rfl, HT⟩
        case rest =>
          obtain ⟨V, E, rfl, rfl, HT⟩ := hcut
          have HBC := Ad.mk (below_then HB2.out (below_alloc (Below.refl w2.heap.size w2) (.cells #[.string cond] 9)))
          go_upto_if 44 with (fail)
          go_cut [9, 10] (fun v9 v10 wx => ∃ bt F cb, v9 = .pointer (some ⟨bt, 0, none⟩) ∧ v10 = .int .i64 0 ∧ Ad (TwoT w wx key v ls A B c d n bh bt cb F))
          case first =>
            rcases HT.out.2 with ⟨he, hne⟩ | ⟨bt, F, cb, he, hbt, hcells, hcode⟩
            · injection he with he
              injection he with he
              injection he with he
              simp at he
              obtain ⟨rfl, rfl⟩ := he
              have hbw := below_then HBC.out HT.out.1
              have HW := Ad.mk hbw
              have HBB := Ad.mk (below_then hbw (below_alloc (Below.refl wc.heap.size wc) (.cells #[.string ⟨#[48]⟩] 9)))
              have hcw : (wc.alloc (.cells #[.string ⟨#[48]⟩] 9)).cell? ⟨wc.heap.size, 0, none⟩ = some (.string ⟨#[48]⟩) := blk_cell (blk_new wc (.cells #[.string ⟨#[48]⟩] 9)) 0
              have HCW := Ad.mk hcw
              have HCL := Ad.mk (blk_lt (blk_new wc (.cells #[.string ⟨#[48]⟩] 9)))
              clear hcw hne hbw
              go_wp2_with (go_at_call 9; go_must (refine (new_tail (· = w.heap.size) n ⟨#[48]⟩ wc.heap.size w.heap.size _ (HN.out.below HBB.out) (by obtain ⟨w0, h0, h1, h2⟩ := HG.out; exact ⟨w0, h0, below_then h1 HBB.out, h2⟩) ⟨n0, n9⟩ HCW.out HCL.out (fun b hb => ⟨Nat.le_of_eq hb.symm, by rw [show b = w.heap.size from hb]; exact Nat.lt_of_lt_of_le (blk_lt HY2.out) (below_then (below_alloc (Below.refl w2.heap.size w2) (.cells #[.string cond] 9)) (below_then HT.out.1 (below_alloc (Below.refl wc.heap.size wc) (.cells #[.string ⟨#[48]⟩] 9)))).size⟩)).mono ?_); rintro e3 w3 ⟨hb3, (⟨_, hne⟩ | ⟨bt, F, cb, rfl, hbt, hcells, hcode⟩)⟩; (exact absurd rfl hne); have HB3 := Ad.mk hb3; have HCE := Ad.mk hcells; have HCO := Ad.mk hcode; have HBT := Ad.mk hbt; clear hb3 hcells hcode hbt)
              go_meet
              have hba := below_then (below_alloc (Below.refl wc.heap.size wc) (.cells #[.string ⟨#[48]⟩] 9)) HB3.out
              have hbc := below_then (below_alloc (Below.refl w2.heap.size w2) (.cells #[.string cond] 9)) (below_then HT.out.1 hba)
              exact ⟨bt, F, cb, rfl, rfl, ⟨⟨below_then HBB.out HB3.out, blk_below HY2.out hbc, blk_below HH2.out hbc, HCE.out, HCO.out, HBH.out, by have h1 := HBT.out; have h2 := HBB.out.size; have h3 := blk_lt HY2.out; have h4 := (below_alloc (Below.refl w2.heap.size w2) (.cells #[.string cond] 9)).size; have h5 := HT.out.1.size; have h6 := (below_alloc (Below.refl wc.heap.size wc) (.cells #[.string ⟨#[48]⟩] 9)).size; omega⟩⟩⟩
            · injection he with he
              injection he with he
              injection he with he
              simp at he
              obtain ⟨rfl, rfl⟩ := he
              have HCE := Ad.mk hcells
              have HCO := Ad.mk hcode
              have HBT := Ad.mk hbt
              clear hcells hcode hbt
              go_wp2_with fail
              go_meet
              have hbc := below_then (below_alloc (Below.refl w2.heap.size w2) (.cells #[.string cond] 9)) HT.out.1
              exact ⟨bt, F, cb, rfl, rfl, ⟨⟨below_then HBC.out HT.out.1, blk_below HY2.out hbc, blk_below HH2.out hbc, HCE.out, HCO.out, HBH.out, by have h1 := HBT.out; have h3 := blk_lt HY2.out; have h4 := (below_alloc (Below.refl w2.heap.size w2) (.cells #[.string cond] 9)).size; omega⟩⟩⟩
          case rest =>
            obtain ⟨bt, F, cb, rfl, rfl, HTT⟩ := hcut
            have HBW := Ad.mk HTT.out.bw
            have r0 := blk_cell HTT.out.rc 0
            have r1 := blk_cell HTT.out.rc 1
            have r2 := blk_cell HTT.out.rc 2
            have r3 := blk_cell HTT.out.rc 3
            have r4 := blk_cell HTT.out.rc 4
            have r5 := blk_cell HTT.out.rc 5
            simp at r0 r1 r2 r3 r4 r5
            go_upto_region 11 with (fail)
            go_cut [74] (fun v74 wx => v74 = .bool (decide (¬ (ckR key v ls = 0 ∧ ls.length < 3))) ∧ Ad (TwoT w wx key v ls A B c d n bh bt cb F))
            case first =>
              by_cases hck : ckR key v ls = 0
              · have HCK := Ad.mk hck
                clear hck
                go_wp2_with (go_at_call 14; go_must (refine (checkRecord_calls _ key v ls A B c d _ (HV.out.l.below HBW.out) (HL.out.below HBW.out)).mono ?_); rw [HCK.out]; rintro e4 w4 ⟨rfl, hb4⟩; have HT4 := Ad.mk (HTT.out.below hb4); have s5 : w4.cell? ⟨w.heap.size, 5, none⟩ = some (.slice B ls.length d) := blk_cell HT4.out.rc 5; clear hb4)
                go_meet
                exact ⟨by have := HCK.out; simp [this]; omega, HT4⟩
              · have HCK := Ad.mk hck
                have hb : (ckR key v ls != 0) = true := by simp [hck]
                clear hck
                go_wp2_with (go_at_call 14; go_must (refine (checkRecord_calls _ key v ls A B c d _ (HV.out.l.below HBW.out) (HL.out.below HBW.out)).mono ?_); rintro e4 w4 ⟨rfl, hb4⟩; have HT4 := Ad.mk (HTT.out.below hb4); clear hb4)
                go_meet
                exact ⟨by have := HCK.out; simp [this], HT4⟩
            case rest =>
              obtain ⟨rfl, HT5⟩ := hcut
              clear r0 r1 r2 r3 r4 r5
              go_upto_if 74 with (fail)
              go_cut [] (fun wx => ∃ key v ls A B c d, ckR key v ls = 0 ∧ ls.length < 3 ∧ Ad (VA (fun q => q < w.heap.size) w A c v) ∧ Ad (LI w B d ls) ∧ Ad (TwoT w wx key v ls A B c d n bh bt cb F))
              case first =>
                by_cases hck : ckR key v ls = 0 ∧ ls.length < 3
                · have h1 : decide (¬ (ckR key v ls = 0 ∧ ls.length < 3)) = false := by simp [hck]
                  rw [h1]
                  go_wp2_with fail
                  go_meet
                  exact ⟨key, v, ls, A, B, c, d, hck.1, hck.2, HV, HL, HT5⟩
                · have h1 : decide (¬ (ckR key v ls = 0 ∧ ls.length < 3)) = true := by simp [hck]
                  rw [h1]
                  clear hck h1
                  have sf := (fun m => blk_frozen HT5.out.rc m)
                  have sl := blk_lt HT5.out.rc
                  have s0 := blk_cell HT5.out.rc 0
                  have s1 := blk_cell HT5.out.rc 1
                  have s2 := blk_cell HT5.out.rc 2
                  have s3 := blk_cell HT5.out.rc 3
                  have s4 := blk_cell HT5.out.rc 4
                  have s5 := blk_cell HT5.out.rc 5
                  simp at s0 s1 s2 s3 s4 s5
                  go_wp2_with fail
                  go_meet
                  exact ⟨⟨#[107]⟩, Val.none, [], none, none, 0, 0, ck_blank, by decide, ⟨VA.none _ _ _ _⟩, ⟨li_nil w⟩, ⟨HT5.out.blank⟩⟩
              case rest =>
                obtain ⟨key', v', ls', A', B', c', d', hck, hl3, HV', HL', HT6⟩ := hcut
                generalize wc = wt at *
                clear HV HL HTT HT5 HBC HT HB2 HY2 HH2 HBH HN HG HBA HX HX1 HB1 HY HLM HBW
                have HK := Ad.mk hck
                have r0 := blk_cell HT6.out.rc 0
                have r1 := blk_cell HT6.out.rc 1
                have r2 := blk_cell HT6.out.rc 2
                have r3 := blk_cell HT6.out.rc 3
                have r4 := blk_cell HT6.out.rc 4
                have r5 := blk_cell HT6.out.rc 5
                simp at r0 r1 r2 r3 r4 r5
                have HSZ := Ad.mk (blk_lt HT6.out.rc)
                have hlw : Ad (LpW wt (wt.alloc (.cells #[.string key', .int .i64 v'.k, .int .i64 v'.n, .string v'.s, .slice A' v'.items.length c', .slice B' ls'.length d'] 45)) key' v' ls' 0) := ⟨⟨below_alloc (Below.refl _ _) _, A', c', B', d', blk_new _ _, (HV'.out.below (below_alloc HT6.out.bw _)).weak (fun x h1 _ => h1), HL'.out.below (below_alloc HT6.out.bw _)⟩⟩
                clear hck
                go_upto_region 15 with (fail)
                go_loopw [12] (fun v12 wr => ∃ i : Nat, (i : Int) ≤ n ∧ v12 = .int .i64 i ∧ Ad (LpW wt wr key' v' ls' i)) (fun v12 _ => n.toNat + 1 - (intOf v12).toNat)
                case atStart => exact ⟨0, n0, rfl, hlw⟩
                case round =>
                  obtain ⟨i, hin, rfl, HLP⟩ := hrel
                  clear r0 r1 r2 r3 r4 r5 hlw
                  obtain ⟨A1, c1, B1, d1, hcur, hva, hli⟩ := HLP.out.cur
                  have HCU := Ad.mk hcur
                  have HVA := Ad.mk hva
                  have HLI := Ad.mk hli
                  clear hcur hva hli
                  go_upto_if 83 with (fail)
                  go_cut [13] (fun v13 wx => v13 = .int .i64 (if i = 0 then 0 else 1) ∧ Ad (wx = wr))
                  case first =>
                    by_cases hi0 : i = 0
                    · subst hi0
                      go_wp2_with fail
                      go_meet
                      exact ⟨rfl, ⟨rfl⟩⟩
                    · have h1 : ((i : Int) == 0) = false := by simp; omega
                      go_wp2_with fail
                      go_meet
                      exact ⟨by rw [if_neg hi0], ⟨rfl⟩⟩
                  case rest =>
                    obtain ⟨rfl, ⟨hwx⟩⟩ := hcut
                    subst wc
                    have HTR := Ad.mk (HT6.out.below HLP.out.bw)
                    have hxl := blk_lt HCU.out
                    have x0 := blk_cell HCU.out 0
                    have x1 := blk_cell HCU.out 1
                    have x2 := blk_cell HCU.out 2
                    have x3 := blk_cell HCU.out 3
                    have x4 := blk_cell HCU.out 4
                    have x5 := blk_cell HCU.out 5
                    simp at x0 x1 x2 x3 x4 x5
                    have hi9 : i ≤ 9 := by omega
                    go_upto_region 21 with (go_at_call 12; go_must (refine (step_head bh (if i = 0 then 0 else 1) key' v' (lsAt ls' i) A1 B1 c1 d1 _ HTR.out.hd (by split <;> simp) (ck_lsAt HK.out hl3 hi9) HVA.out HLI.out).mono ?_); rintro e1 w1 hst; rw [port_out _ _ hl3] at hst; obtain ⟨g2, cap2, A2, c2, B2, d2, rfl, hsa⟩ := hst.open (by simp; omega); have HSA := Ad.mk hsa; clear hst hsa)
                    have HS2 := Ad.mk (HSA.out.below (below_alloc (Below.refl _ _) (.cells #[.int .i64 0, .slice none 0 0] 35)))
                    clear x0 x1 x2 x3 x4 x5
                    generalize w1.alloc (.cells #[.int .i64 0, .slice none 0 0] 35) = w2 at *
                    generalize (if i = 0 then (0 : Int) else 1) = pt
                    have HT2 := Ad.mk (HTR.out.below HS2.out.bw)
                    have HX2 := Ad.mk (blk_below HCU.out HS2.out.bw)
                    obtain ⟨m, hm⟩ : ∃ m, ls'.length = m := ⟨_, rfl⟩
                    have HM := Ad.mk hm
                    have y0 := HS2.out.c0
                    have y6 := HS2.out.c6
                    have r5 : w2.cell? ⟨w.heap.size, 5, none⟩ = some (.slice B' ls'.length d') := blk_cell HT2.out.rc 5
                    obtain ⟨ad, hB2, hli⟩ := HS2.out.li.h (by simp)
                    have y7 := (hli ls'.length (by simp)).1
                    rw [show (ls' ++ [(i : Int)]).getD ls'.length 0 = i by simp] at y7
                    clear hli
                    subst B2
                    rw [List.length_append, List.length_singleton] at y6
                    rw [hm] at y6 r5 y7 hl3
                    have qw := Go.IntWalk.i64_in ((m : Int) + 1) ⟨by omega, by omega⟩
                    clear hm
                    go_quiet (fail)
                    have HS3 := Ad.mk (HS2.out.below (below_drewN nq))
                    clear y0 y6 y7 r5 qw
                    generalize w2.drewN nq = w3 at *
                    have HT3 := Ad.mk (HTR.out.below HS3.out.bw)
                    have HX3 := Ad.mk (blk_below HCU.out HS3.out.bw)
                    have HB3 := Ad.mk (below_then HLP.out.bw HS3.out.bw)
                    have y1 := HS3.out.c1
                    have y2 := HS3.out.c2
                    have y3 := HS3.out.c3
                    have y4 := HS3.out.c4
                    have y5 := HS3.out.c5
                    have y6 := HS3.out.c6
                    rw [List.length_append, List.length_singleton] at y6
                    have HCK := Ad.mk (ck_at HK.out (by rw [HM.out]; exact hl3) hi9)
                    have HL9 : Ad (ls'.length < 3) := ⟨by rw [HM.out]; exact hl3⟩
                    cases hbo : leaves F n key' v' ls' ((i : Int) + 1)
                    all_goals
                      have HBO := Ad.mk hbo
                      clear hbo
                      go_upto_region 24 with (go_at_call 12; go_must (refine (step_tail bt cb F n key' v' ls' (i : Int) A2 (some ad) c2 d2 _ HT3.out.tl HT3.out.code.ok HCK.out (HS3.out.va.weak (fun b hb _ => hb)) HS3.out.li).mono ?_); rintro e4 w4 hst; rw [HBO.out] at hst; simp only [Bool.false_eq_true, if_false, if_true] at hst; obtain ⟨g4, cap4, A4, c4, B4, d4, rfl, hsa⟩ := hst.open (by have := HL9.out; simp; omega); have HS4 := Ad.mk hsa; clear hst hsa)
                      have HS5 := Ad.mk (HS4.out.below (below_alloc (Below.refl _ _) (.cells #[.int .i64 0, .slice none 0 0] 35)))
                      clear y1 y2 y3 y4 y5 y6
                      generalize w4.alloc (.cells #[.int .i64 0, .slice none 0 0] 35) = w5 at *
                      have XB := Ad.mk (blk_below HX3.out HS5.out.bw)
                      have xf := (fun m => blk_frozen XB.out m)
                      have xl := blk_lt XB.out
                      have y1 := HS5.out.c1
                      have y2 := HS5.out.c2
                      have y3 := HS5.out.c3
                      have y4 := HS5.out.c4
                      have y5 := HS5.out.c5
                      have y6 := HS5.out.c6
                      have q0 := blk_cell XB.out 0
                      have q1 := blk_cell XB.out 1
                      have q2 := blk_cell XB.out 2
                      have q3 := blk_cell XB.out 3
                      have q4 := blk_cell XB.out 4
                      have q5 := blk_cell XB.out 5
                      simp at q0 q1 q2 q3 q4 q5
                      go_upto_region 27 with (fail)
                    · obtain ⟨hx6, hc6⟩ := six_put XB.out rfl (.string key') (.int .i64 v'.k) (.int .i64 v'.n) (.string v'.s) (.slice A4 v'.items.length c4) (.slice B4 (ls' ++ [(i : Int) + 1]).length d4)
                      simp only [List.length_append, List.length_singleton] at hx6 hc6
                      have HX6 := Ad.mk hx6
                      have HC6 := Ad.mk hc6
                      generalize ((((((w5.setCell ⟨wt.heap.size, 0, none⟩ (.string key')).setCell ⟨wt.heap.size, 1, none⟩ (.int .i64 v'.k)).setCell ⟨wt.heap.size, 2, none⟩ (.int .i64 v'.n)).setCell ⟨wt.heap.size, 3, none⟩ (.string v'.s)).setCell ⟨wt.heap.size, 4, none⟩ (.slice A4 v'.items.length c4)).setCell ⟨wt.heap.size, 5, none⟩ (.slice B4 (ls'.length + 1) d4)) = w6 at *
                      have HB5 := Ad.mk (below_then HB3.out HS5.out.bw)
                      have hwt := blk_lt HX3.out
                      have hg4 := HS5.out.gw
                      have y0 := ((ccell HC6.out).1 g4 0 HS5.out.gl (fun e => by have h : g4 = wt.heap.size := e; omega)).trans HS5.out.c0
                      clear y1 y2 y3 y4 y5 y6 q0 q1 q2 q3 q4 q5 xf xl hx6 hc6
                      go_wp2_with fail
                      have hgo : (i : Int) + 1 ≤ n := by
                        have h := HBO.out
                        unfold leaves at h
                        simp at h
                        omega
                      have hls : lsAt ls' (i + 1) = ls' ++ [(i : Int) + 1] := by simp [lsAt]
                      refine ⟨⟨i + 1, by omega, by simp, ⟨⟨below_chg HB5.out HC6.out (fun q hq => Nat.le_of_eq hq.symm), A4, c4, B4, d4, ?_, HS5.out.va.chg HC6.out (fun q _ hq e => by have h : q = wt.heap.size := e; omega) (fun q h hq => Nat.lt_of_lt_of_le h HC6.out.size), ?_⟩⟩⟩, by simp [intOf]; omega⟩
                      · rw [hls, List.length_append, List.length_singleton]
                        exact HX6.out
                      · rw [hls]
                        exact (HS5.out.lr.chg HC6.out (fun q hq e => by have h : q = wt.heap.size := e; omega)).li (by have := HL9.out; simp; omega)
                    · obtain ⟨hx6, hc6⟩ := six_put XB.out rfl (.string key') (.int .i64 v'.k) (.int .i64 v'.n) (.string v'.s) (.slice A4 v'.items.length c4) (.slice B4 ls'.length d4)
                      have HX6 := Ad.mk hx6
                      have HC6 := Ad.mk hc6
                      generalize ((((((w5.setCell ⟨wt.heap.size, 0, none⟩ (.string key')).setCell ⟨wt.heap.size, 1, none⟩ (.int .i64 v'.k)).setCell ⟨wt.heap.size, 2, none⟩ (.int .i64 v'.n)).setCell ⟨wt.heap.size, 3, none⟩ (.string v'.s)).setCell ⟨wt.heap.size, 4, none⟩ (.slice A4 v'.items.length c4)).setCell ⟨wt.heap.size, 5, none⟩ (.slice B4 ls'.length d4)) = w6 at *
                      have HB5 := Ad.mk (below_then HB3.out HS5.out.bw)
                      have hwt := blk_lt HX3.out
                      have hg4 := HS5.out.gw
                      have y0 := ((ccell HC6.out).1 g4 0 HS5.out.gl (fun e => by have h : g4 = wt.heap.size := e; omega)).trans HS5.out.c0
                      have HB6 := Ad.mk (below_chg HB5.out HC6.out (fun q hq => Nat.le_of_eq hq.symm))
                      have HT6' := Ad.mk (HT6.out.below HB6.out)
                      have x0 := blk_cell HX6.out 0
                      have x1 := blk_cell HX6.out 1
                      have x2 := blk_cell HX6.out 2
                      have x3 := blk_cell HX6.out 3
                      have x4 := blk_cell HX6.out 4
                      have x5 := blk_cell HX6.out 5
                      have r0 := blk_cell HT6'.out.rc 0
                      have r1 := blk_cell HT6'.out.rc 1
                      have r2 := blk_cell HT6'.out.rc 2
                      have r3 := blk_cell HT6'.out.rc 3
                      have r4 := blk_cell HT6'.out.rc 4
                      have r5 := blk_cell HT6'.out.rc 5
                      simp at x0 x1 x2 x3 x4 x5 r0 r1 r2 r3 r4 r5
                      clear y1 y2 y3 y4 y5 y6 q0 q1 q2 q3 q4 q5 xf xl hx6 hc6
                      go_wp2_with (go_at_call 19; go_must (refine (sameRec_calls key' v' ls' (fun q => w3.heap.size ≤ q) (fun q => q < w.heap.size) A4 A' B4 B' c4 c' d4 d' _ (HS5.out.va.chg HC6.out (fun q _ hq e => by have h : q = wt.heap.size := e; omega) (fun q _ hq => hq.1)) (HV'.out.below HT6'.out.bw) ((HS5.out.lr.chg HC6.out (fun q hq e => by have h : q = wt.heap.size := e; omega)).li (by have := HL9.out; omega)) (HL'.out.below HT6'.out.bw)).mono ?_); rintro e7 w7 ⟨rfl, hb7⟩; have HB7 := Ad.mk hb7; clear hb7)
                      go_ret
                      exact ⟨rfl, below_then HT6'.out.bw HB7.out⟩
end Go.Proofs.YtahnelihohmjfaaGreatDoor.V
