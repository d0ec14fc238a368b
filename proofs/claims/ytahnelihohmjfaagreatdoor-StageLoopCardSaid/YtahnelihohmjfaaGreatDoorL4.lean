/- A part of the walk (V102). -/
import Derived.Test.YtahnelihohmjfaaGreatDoorL1
import Derived.ProofKit
import Derived.SizedLaws
namespace Go.Proofs.YtahnelihohmjfaaGreatDoor.V
open Go.RowKit
set_option linter.unusedVariables false
set_option linter.unusedSimpArgs false
/-! ### the law's arguments as the form hands them in -/
section
variable {H : Type} {enc : TypeId × Value → H} {W : World} {sp : Nat → Bool}
theorem w_all {e : TypeId} : ∀ {l : List (DataW H)} {d : DataW H}, d ∈ l → ∀ n ∈ d.weights Tryz.prog e, n ∈ DataW.weightsAll Tryz.prog e l
  | x :: l, d, hd, n, hn => by
    unfold DataW.weightsAll
    rcases List.mem_cons.1 hd with rfl | h
    · exact List.mem_append.2 (.inl hn)
    · exact List.mem_append.2 (.inr (w_all h n hn))
theorem cells42 : Tryz.prog.cellsOf 42 = 4 := by kernel_rfl
theorem cells45 : Tryz.prog.cellsOf 45 = 6 := by kernel_rfl
theorem cells2 : Tryz.prog.cellsOf 2 = 1 := by kernel_rfl
theorem cells3 : Tryz.prog.cellsOf 3 = 1 := by kernel_rfl
theorem cells9 : Tryz.prog.cellsOf 9 = 1 := by kernel_rfl
theorem cells40 : Tryz.prog.cellsOf 40 = 1 := by kernel_rfl
theorem cells43 : Tryz.prog.cellsOf 43 = 1 := by kernel_rfl
theorem bytes42 : Tryz.prog.bytesOf 42 = 56 := by kernel_rfl
theorem bytes3 : Tryz.prog.bytesOf 3 = 8 := by kernel_rfl
theorem i64_of {n : Int} (h : (Lit.int .i64 n).wf = true) : I64 n := by
  simp [Lit.wf, IntKind.min, IntKind.max, IntKind.signed, IntKind.bits] at h
  exact ⟨by omega, by omega⟩
theorem four_of {α : Type} {l : List α} (h : l.length = 4) : ∃ a b c d, l = [a, b, c, d] := by
  match l, h with
  | [a, b, c, d], _ => exact ⟨a, b, c, d, rfl⟩
theorem three_of {α : Type} {l : List α} (h : l.length = 3) : ∃ a b c, l = [a, b, c] := by
  match l, h with
  | [a, b, c], _ => exact ⟨a, b, c, rfl⟩
theorem six_of {α : Type} {l : List α} (h : l.length = 6) : ∃ a b c d e f, l = [a, b, c, d, e, f] := by
  match l, h with
  | [a, b, c, d, e, f], _ => exact ⟨a, b, c, d, e, f, rfl⟩
theorem open_val : ∀ (fuel : Nat) (cs : List Value) (d : DataW H) (p : List MemPlace), DataW.trod enc Tryz.prog W 0 sp true fuel 42 cs = some (d, p) → (∀ n ∈ d.weights Tryz.prog 42, n ≤ reachBytes) → ∃ v : Val, VR (fun q => q < W.heap.size) W v cs := by
  intro fuel
  induction fuel using Nat.strongRecOn with
  | ind fuel ih =>
    intro cs d p h hw
    obtain ⟨xs, n, rfl, hx, hl, hxl, hall⟩ := DataW.trod_struct Tryz.underlying42 h
    rw [cells42] at hl
    obtain ⟨c0, c1, c2, c3, rfl⟩ := four_of hl
    obtain ⟨x0, x1, x2, x3, rfl⟩ := four_of (l := xs) hxl
    have e0 : DataW.trod enc Tryz.prog W 0 sp true n 3 (([c0, c1, c2, c3].drop 0).take (Tryz.prog.cellsOf 3)) = some x0 := hall 0 _ rfl
    have e1 : DataW.trod enc Tryz.prog W 0 sp true n 2 (([c0, c1, c2, c3].drop 1).take (Tryz.prog.cellsOf 2)) = some x1 := hall 1 _ rfl
    have e2 : DataW.trod enc Tryz.prog W 0 sp true n 9 (([c0, c1, c2, c3].drop 2).take (Tryz.prog.cellsOf 9)) = some x2 := hall 2 _ rfl
    have e3 : DataW.trod enc Tryz.prog W 0 sp true n 40 (([c0, c1, c2, c3].drop 3).take (Tryz.prog.cellsOf 40)) = some x3 := hall 3 _ rfl
    rw [cells3] at e0
    rw [cells2] at e1
    rw [cells9] at e2
    rw [cells40] at e3
    simp only [List.drop_zero, List.drop_succ_cons, List.take_succ_cons, List.take_zero] at e0 e1 e2 e3
    obtain ⟨k, h0, rfl, w0⟩ := DataW.trod_int Tryz.underlying3 e0
    obtain ⟨m, h1, rfl, w1⟩ := DataW.trod_int Tryz.underlying2 e1
    obtain ⟨s, h2, rfl, w2⟩ := DataW.trod_string Tryz.underlying9 e2
    simp only [List.cons.injEq, and_true] at h0 h1 h2
    subst h0 h1 h2
    simp only [Prod.mk.injEq] at hx
    obtain ⟨rfl, rfl⟩ := hx
    have hw2 : s.size ≤ reachBytes := by
      have := hw s.size (by simp [DataW.weights, DataW.weightsEach, Tryz.underlying42])
      exact this
    have hw3 : ∀ z ∈ x3.1.weights Tryz.prog 40, z ≤ reachBytes := fun z hz => hw z (by simp [DataW.weights, DataW.weightsEach, Tryz.underlying42]; exact .inr hz)
    rcases DataW.trod_slice Tryz.underlying40 e3 with ⟨h3, rfl⟩ | ⟨a, len, cap, elems, rest, n', rfl, h3, rfl, _, hlc, hcm, hlen, hel, _, _⟩
    · simp only [List.cons.injEq, and_true] at h3
      subst h3
      exact ⟨.mk k m s [], .mk k m s [] none 0 (fun _ => []) (i64_of w1) hw2 (Nat.zero_le _) (Nat.zero_le _) (fun h => absurd h (by simp)) (fun i h => absurd h (by simp))⟩
    · simp only [List.cons.injEq, and_true] at h3
      subst h3
      rw [cells42] at hel
      have hwl : len ≤ 140737488355328 := by
        have := hw3 ((elems.length + rest.length) * 56) (by simp [DataW.weights, Tryz.underlying40, bytes42])
        simp [reachBytes] at this
        omega
      have each : ∀ i, ∃ (v : Val) (css : List Value), i < len → W.cells? 0 (a.add (i * 4)) 4 = some css ∧ VR (fun q => q < W.heap.size) W v css := by
        intro i
        by_cases hi : i < len
        · have hb := hel i hi
          have hi' : i < elems.length := by omega
          rw [List.getElem?_eq_getElem hi', Option.bind_eq_some_iff] at hb
          obtain ⟨css, hc, ht⟩ := hb
          obtain ⟨v, hv⟩ := ih n' (by omega) css _ _ ht (fun z hz => hw3 z (by
            simp only [DataW.weights, Tryz.underlying40]
            refine List.mem_cons_of_mem _ (List.mem_append.2 (.inl (w_all (d := elems[i].1) (List.mem_map.2 ⟨_, List.getElem_mem hi', rfl⟩) z hz)))))
          exact ⟨v, css, fun _ => ⟨hc, hv⟩⟩
        · exact ⟨Val.none, [], fun h => absurd h hi⟩
      obtain ⟨vf, hvf⟩ := Classical.axiomOfChoice each
      obtain ⟨cf, hcf⟩ := Classical.axiomOfChoice hvf
      have hg : ∀ i, i < len → ((List.range len).map vf).getD i Val.none = vf i := fun i hi => by
        rw [List.getD_eq_getElem?_getD, List.getElem?_map, List.getElem?_range hi]; rfl
      have hlen' : ((List.range len).map vf).length = len := by simp
      refine ⟨.mk k m s ((List.range len).map vf), ?_⟩
      have := VR.mk (Q := fun q => q < W.heap.size) (w := W) k m s ((List.range len).map vf) (some a) cap cf (i64_of w1) hw2 (by rw [hlen']; exact hlc) (by rw [hlen']; exact hwl) (fun hp => ⟨a, rfl, ?_, fun i j u hi hj => ?_⟩) (fun i hi => ?_)
      · rw [hlen'] at this; exact this
      · rw [hlen'] at hp
        have := World.cells?_block (hcf 0 hp).1 (by omega)
        rwa [add_block] at this
      · rw [hlen'] at hi
        obtain ⟨_, hl4, hc⟩ := World.cells?_some (hcf i hi).1
        have hj4 : j < 4 := by have := (List.getElem?_eq_some_iff.1 hj).1; omega
        rw [← Addr.add_add, hc j hj4, hj]
      · rw [hlen'] at hi
        rw [hg i hi]
        exact (hcf i hi).2
/-- a list of counters -/
theorem open_ints {fuel : Nat} {c : Value} {x : DataW H × List MemPlace} (h : DataW.trod enc Tryz.prog W 0 sp true fuel 43 [c] = some x) (hw : ∀ n ∈ x.1.weights Tryz.prog 43, n ≤ reachBytes) : ∃ (B : Option Addr) (ls : List Int) (d : Nat), c = .slice B ls.length d ∧ LI W B d ls := by
  rcases DataW.trod_slice Tryz.underlying43 h with ⟨h3, rfl⟩ | ⟨a, len, cap, elems, rest, n', rfl, h3, rfl, _, hlc, hcm, hlen, hel, _, _⟩
  · simp only [List.cons.injEq, and_true] at h3
    subst h3
    exact ⟨none, [], 0, rfl, LI.nil _ _ _⟩
  · simp only [List.cons.injEq, and_true] at h3
    subst h3
    rw [cells3] at hel
    have hwl : len ≤ 140737488355328 := by
      have := hw ((elems.length + rest.length) * 8) (by simp [DataW.weights, Tryz.underlying43, bytes3])
      simp [reachBytes] at this
      omega
    have each : ∀ i, ∃ z : Int, i < len → W.cell? (a.add i) = some (.int .i64 z) ∧ I64 z := by
      intro i
      by_cases hi : i < len
      · have hb := hel i hi
        have hi' : i < elems.length := by omega
        rw [List.getElem?_eq_getElem hi', Option.bind_eq_some_iff] at hb
        obtain ⟨css, hc, ht⟩ := hb
        obtain ⟨z, rfl, _, wz⟩ := DataW.trod_int Tryz.underlying3 ht
        obtain ⟨_, _, hcc⟩ := World.cells?_some hc
        have := hcc 0 (by omega)
        rw [Nat.mul_one, Addr.add_add] at this
        exact ⟨z, fun _ => ⟨by simpa using this, i64_of wz⟩⟩
      · exact ⟨0, fun h => absurd h hi⟩
    obtain ⟨zf, hzf⟩ := Classical.axiomOfChoice each
    have hlen' : ((List.range len).map zf).length = len := by simp
    refine ⟨some a, (List.range len).map zf, cap, by rw [hlen'], ⟨by rw [hlen']; exact hlc, by rw [hlen']; exact hwl, fun _ => ⟨a, rfl, fun i hi => ?_⟩⟩⟩
    rw [hlen'] at hi
    rw [List.getD_eq_getElem?_getD, List.getElem?_map, List.getElem?_range hi]
    exact hzf i hi
/-- a record -/
theorem open_rec {v : Value} {d : DataW H} {p : List MemPlace} (h : DataW.Trod enc Tryz.prog W 0 sp true 45 v d p) (hw : ∀ n ∈ d.weights Tryz.prog 45, n ≤ reachBytes) :
    ∃ (key : ByteArray) (x : Val) (ls : List Int) (A B : Option Addr) (c e : Nat), v = .agg #[.string key, .int .i64 x.k, .int .i64 x.n, .string x.s, .slice A x.items.length c, .slice B ls.length e] ∧ VA (fun q => q < W.heap.size) W A c x ∧ LI W B e ls ∧ key.size ≤ reachBytes := by
  obtain ⟨fuel, h⟩ := h
  obtain ⟨xs, n, rfl, hx, hl, hxl, hall⟩ := DataW.trod_struct Tryz.underlying45 h
  rw [cells45] at hl
  have hv : ∃ cs : Array Value, v = .agg cs := by
    cases v <;> first | exact ⟨_, rfl⟩ | (simp [Value.cells] at hl)
  obtain ⟨⟨cs⟩, rfl⟩ := hv
  simp only [Value.cells] at hl hall
  obtain ⟨c0, c1, c2, c3, c4, c5, rfl⟩ := six_of hl
  obtain ⟨x0, x1, x2, rfl⟩ := three_of (l := xs) hxl
  have e0 : DataW.trod enc Tryz.prog W 0 sp true n 9 (([c0, c1, c2, c3, c4, c5].drop 0).take (Tryz.prog.cellsOf 9)) = some x0 := hall 0 _ rfl
  have e1 : DataW.trod enc Tryz.prog W 0 sp true n 42 (([c0, c1, c2, c3, c4, c5].drop 1).take (Tryz.prog.cellsOf 42)) = some x1 := hall 1 _ rfl
  have e2 : DataW.trod enc Tryz.prog W 0 sp true n 43 (([c0, c1, c2, c3, c4, c5].drop 5).take (Tryz.prog.cellsOf 43)) = some x2 := hall 2 _ rfl
  rw [cells9] at e0
  rw [cells42] at e1
  rw [cells43] at e2
  simp only [List.drop_zero, List.drop_succ_cons, List.take_succ_cons, List.take_zero] at e0 e1 e2
  simp only [Prod.mk.injEq] at hx
  obtain ⟨rfl, rfl⟩ := hx
  obtain ⟨s, h0, rfl, w0⟩ := DataW.trod_string Tryz.underlying9 e0
  simp only [List.cons.injEq, and_true] at h0
  subst h0
  have hws : s.size ≤ reachBytes := hw s.size (by simp [DataW.weights, DataW.weightsEach, Tryz.underlying45])
  obtain ⟨x, hx⟩ := open_val _ _ _ _ e1 (fun z hz => hw z (by simp [DataW.weights, DataW.weightsEach, Tryz.underlying45]; exact .inr (.inl hz)))
  obtain ⟨B, ls, e, rfl, hls⟩ := open_ints e2 (fun z hz => hw z (by simp [DataW.weights, DataW.weightsEach, Tryz.underlying45]; exact .inr (.inr hz)))
  obtain ⟨A, c, hcs, h1, h2, h3⟩ := hx.open
  simp only [List.cons.injEq, and_true] at hcs
  obtain ⟨rfl, rfl, rfl, rfl⟩ := hcs
  exact ⟨s, x, ls, A, B, c, e, rfl, ⟨h1, h2, h3⟩, hls, hws⟩
end
end Go.Proofs.YtahnelihohmjfaaGreatDoor.V
