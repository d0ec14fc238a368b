/- A part of the walk (V71s). -/
import Derived.Test.YtahnelihohmjfaaGreatDoorShelf
namespace Go.Proofs
open Go.Shelf
def Tryz.ren242 : Ren := { Tryz.lays242_ren with t := fun n => if n = 72 then 184 else Tryz.lays242_ren.t n }
theorem Tryz.lays242' : Lays.n242 Tryz.prog Tryz.ren242 := {
  mixed := Tryz.lays242.mixed
  f242 := by kernel_rfl
  f278 := by kernel_rfl
  t4 := by kernel_rfl
  a4 := Tryz.lays242.a4
  z4 := Tryz.lays242.z4
  v4 := Tryz.lays242.v4
  t5 := by kernel_rfl
  a5 := Tryz.lays242.a5
  z5 := Tryz.lays242.z5
  v5 := Tryz.lays242.v5
  t21 := by kernel_rfl
  a21 := Tryz.lays242.a21
  z21 := Tryz.lays242.z21
  v21 := Tryz.lays242.v21
  t37 := by kernel_rfl
  a37 := Tryz.lays242.a37
  z37 := Tryz.lays242.z37
  v37 := Tryz.lays242.v37
  t46 := by kernel_rfl
  a46 := Tryz.lays242.a46
  z46 := Tryz.lays242.z46
  v46 := Tryz.lays242.v46
  t51 := by kernel_rfl
  a51 := Tryz.lays242.a51
  z51 := Tryz.lays242.z51
  v51 := Tryz.lays242.v51 }
theorem Tryz.Builder_Extra_242 : Builder.Extra Tryz.prog Tryz.ren242 := {
  sizeBuilder := by kernel_rfl
  liesBuilder := by kernel_rfl
  t5 := Tryz.underlying5
  a5 := Tryz.isAgg5
  z5 := Tryz.sizeOf5
  v5 := Tryz.zeroValue5
  infoByte := by kernel_rfl
  cellsByte := by kernel_rfl
  sizeByte := by kernel_rfl
  neB5 := by decide }
open Go.RowKit in
theorem Tryz.utf8_AppendRune_own (B : Nat) (v : Value) (n : Nat) (xs : List Value) (r : Int) (hr0 : -2147483648 ≤ r) (hr1 : r ≤ 2147483647) (w : World) (hown : w.ownsRowF B 5 1 v n xs) (hlen : n + 4 ≤ 140737488355328) (hBw : B ≤ w.heap.size) :
    Calls Tryz.prog 154 #[v, .int .i32 r] w fun e w' => ∃ v', e = .returned v' ∧ w'.ownsRowF B 5 1 v' (n + (Lib.runeCells r).length) (xs ++ Lib.runeCells r) ∧ ∃ o, (w.alloc o).grownBy w' v.ownBlock := Any.utf8_AppendRune_own Tryz.lays242' Tryz.Builder_Extra_242 B v n xs r hr0 hr1 w hown hlen hBw
end Go.Proofs

