import Derived.Test.YtammigfckdgljaaPWitnessSplith0
import Derived.Deep.Slices
import Derived.Deep.Fields
import Derived.ChangeSame
import Derived.WalkKit
import Derived.ProofKit
import Derived.OpenShut
import Derived.ShutString
import Derived.ChangeOld
import Derived.Below
import Derived.SizedLaws
namespace Go.Proofs.Ytammigfckdgljaa.PWitnessSplit
open Go.RowKit Go.ChangeShapes Go.WideShapes Go.Deep Go.Proofs.YtammigfckdgljaaW.PrintWords
set_option linter.unusedVariables false
set_option linter.unusedSimpArgs false

/-! ### an argument []api.Trail, opened -/
theorem open46 {H : Type} {enc : TypeId × Value → H} {w : World} {base : Nat} {spare : Nat → Bool} {held : Bool} {a : Option Addr} {len cap : Nat} {d : DataW H} {ps : List MemPlace} {ts : List TypeId} {ds : List (DataW H)} {j : Nat}
    (hsz : (DataW.weightsEach Try.prog ts ds).all (· ≤ reachBytes) = true) (hts : ts[j]? = some 23) (hds : ds[j]? = some d)
    (h : DataW.Trod enc Try.prog w base spare held 23 (.slice a len cap) d ps) : ∃ l : List S46, len = l.length ∧ len ≤ cap ∧ Kd.C k46 w a len l ∧ len * 32 ≤ 140737488351232 := by
  obtain ⟨fuel, hf⟩ := h
  rcases open_slice Try.underlying23 hf with ⟨hcs, _⟩ | ⟨x, l, c, m, n, D, Pl, hcs, _, hl, hm, hmm, hx, hi⟩
  · simp [Value.cells] at hcs
    obtain ⟨rfl, rfl, rfl⟩ := hcs
    exact ⟨[], rfl, Nat.le_refl _, Kd.C_nil _ _, by omega⟩
  · simp [Value.cells] at hcs
    obtain ⟨rfl, rfl, rfl⟩ := hcs
    have hC : Try.prog.cellsOf 46 = 4 := by kernel_rfl
    rw [hC] at hi
    have hlm : len ≤ m := by rw [hmm]; split <;> omega
    have hex : ∀ i, ∃ y : S46, i < len → ∀ q u, [Value.int .i64 y.f0, .int .i64 y.f1, .int .i64 y.f2, .int .i64 y.f3][q]? = some u → w.cell? (x.add (i * 4 + q)) = some u := by
      intro i
      by_cases hlt : i < len
      · obtain ⟨cs', hc, ht'⟩ := hi i (by omega)
        obtain ⟨ys, n', hn', hy, hlen, hyl, hfl⟩ := DataW.trod_struct Try.underlying46 ht'
        obtain ⟨_, hcl, hat⟩ := World.cells?_some hc
        have g0 := hfl 0 _ rfl
        have g1 := hfl 1 _ rfl
        have g2 := hfl 2 _ rfl
        have g3 := hfl 3 _ rfl
        have c3 : Try.prog.cellsOf 3 = 1 := by kernel_rfl
        match cs', hcl with
        | [u0, u1, u2, u3], _ =>
          simp [c3] at g0 g1 g2 g3
          have hyl4 : ys.length = 4 := hyl
          have e0 := g0.trans (List.getElem?_eq_getElem (show 0 < ys.length by omega))
          have e1 := g1.trans (List.getElem?_eq_getElem (show 1 < ys.length by omega))
          have e2 := g2.trans (List.getElem?_eq_getElem (show 2 < ys.length by omega))
          have e3 := g3.trans (List.getElem?_eq_getElem (show 3 < ys.length by omega))
          obtain ⟨n0, b0, _, _⟩ := DataW.trod_int Try.underlying3 e0
          obtain ⟨n1, b1, _, _⟩ := DataW.trod_int Try.underlying3 e1
          obtain ⟨n2, b2, _, _⟩ := DataW.trod_int Try.underlying3 e2
          obtain ⟨n3, b3, _, _⟩ := DataW.trod_int Try.underlying3 e3
          simp at b0 b1 b2 b3
          subst b0 b1 b2 b3
          refine ⟨⟨n0, n1, n2, n3⟩, fun _ q u hu => ?_⟩
          have hq : q < 4 := by
            have := (List.getElem?_eq_some_iff.1 hu).1
            simpa using this
          rw [← Go.Deep.add_add, hat q hq]
          exact hu
      · exact ⟨z46, fun h => absurd h hlt⟩
    obtain ⟨f, hf2⟩ := Classical.skolem.1 hex
    refine ⟨(List.range len).map f, by simp, hl, ⟨by simp, by unfold maxLen at hm; omega, fun _ => ⟨x, rfl, fun q p hq => ?_⟩⟩, ?_⟩
    · obtain ⟨hq1, hq2⟩ := List.getElem?_eq_some_iff.1 hq
      simp at hq1 hq2
      subst hq2
      exact ⟨_, rfl, k46_mk w _, fun i u hu => hf2 q hq1 i u hu⟩
    · obtain ⟨hx, _⟩ := Prod.mk.inj hx
      subst hx
      have z := sized_slice hsz hts hds Try.underlying23
      have hB : Try.prog.bytesOf 46 = 32 := by kernel_rfl
      rw [hB] at z
      unfold reachBytes at z
      simp at z
      omega
end Go.Proofs.Ytammigfckdgljaa.PWitnessSplit
