import Derived.Test.YtammigfckdgljaaPWitnessSplith6
namespace Go.Proofs.Ytammigfckdgljaa.PWitnessSplit
open Go.RowKit Go.Maps Go.Proofs.YtammigfckdgljaaW.PrintWords Go.Proofs.YtammigfckdgljaaW.PrintLast Go.Proofs.YtammigfckdgljaaW.PrintMore
set_option linter.unusedVariables false
set_option linter.unusedSimpArgs false

/-! ### Path, plain -/
def isS (t : S46) : Bool := decide (t.f0 = 1)
def down : Nat → Int → List Int
  | 0, _ => []
  | n + 1, s => s :: down n (s - 1)
theorem down_len : ∀ (n : Nat) (s : Int), (down n s).length = n
  | 0, _ => rfl
  | n + 1, s => by simp [down, down_len n]
def placesN : List Bool → Nat → Nat → List Int
  | [], _, _ => []
  | b :: r, i, d => if b = true then down (i - d) ((i : Int) - 1) ++ placesN r (i + 1) (d + 1) else placesN r (i + 1) d
theorem placesN_cons (b : Bool) (r : List Bool) (i d : Nat) : placesN (b :: r) i d = if b = true then down (i - d) ((i : Int) - 1) ++ placesN r (i + 1) (d + 1) else placesN r (i + 1) d := rfl
theorem wrap_succ (n : Nat) (h : n ≤ 4611686018427387904) : wrap64 ((n : Int) + 1) = ((n + 1 : Nat) : Int) := by
  rw [wrap_in (by omega) (by omega)]
  omega
def pathP (l : List S46) (id tasks : Int) : List Int × Int :=
  if (foundP l id tasks).2.2 = 0 then (if (foundP l id tasks).1.length > 2000 then ([], 182) else (placesN (foundP l id tasks).2.1 0 0, 0)) else ([], (foundP l id tasks).2.2)
end Go.Proofs.Ytammigfckdgljaa.PWitnessSplit
