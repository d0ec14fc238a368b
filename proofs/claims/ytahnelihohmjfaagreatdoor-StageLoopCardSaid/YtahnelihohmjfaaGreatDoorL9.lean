/- A part of the walk (V32a, V32b, V32, V33). -/
import Derived.Test.YtahnelihohmjfaaGreatDoorL8
import Derived.Shelf.Strings.Builder1
namespace Go.Proofs.YtahnelihohmjfaaGreatDoor.V
open Go.RowKit
set_option linter.unusedVariables false
set_option linter.unusedSimpArgs false
theorem size184 : (Tryz.prog.info? 184).map (·.size) = some 2 := by kernel_rfl
set_option maxHeartbeats 8000000 in
set_option maxRecDepth 100000 in
theorem copyCheck_fresh (b : Nat) (w : World) (h : w.cell? ⟨b, 0, none⟩ = some (.pointer none)) (hs : w.shape? b = some (184, 2)) (hf : w.frozen? ⟨b, 0, none⟩ = false) :
    Calls Tryz.prog 99 #[.pointer (some ⟨b, 0, none⟩)] w (fun e w' => e = .returned (.tuple #[]) ∧ w' = w.setCell ⟨b, 0, none⟩ (.pointer (some ⟨b, 0, none⟩))) := by
  go_enter Tryz.func99, Tryz.ntmps99
  obtain ⟨j, hj, hjs⟩ := Option.map_eq_some_iff.1 size184
  go_wp2_with fail
  rw [Lib.run_to_unsafe w ⟨b, 0, none⟩ Tryz.underlying182 Tryz.underlying253 hj (by rw [hjs]; decide) hs (Nat.zero_lt_succ 1)]
  simp only [Result.andThen]
  rw [Oper.upon_value]
  go_wp2_with fail
  rw [run_callFunc_extern Tryz.func120 (by kernel_rfl) (by kernel_rfl) (by kernel_rfl) (e := Extern.AbiNoEscape.same) (by kernel_rfl)]
  rw [Lib.run_noEscape]
  simp only [Result.andThen]
  rw [Oper.upon_value]
  go_wp2_with fail
  rw [Lib.run_from_unsafe w ⟨b, 0, none⟩ Tryz.underlying253 Tryz.underlying182 hj hs (by kernel_rfl)]
  simp only [Result.andThen]
  rw [Oper.upon_value]
  go_wp2_with fail
  go_end0
  exact ⟨rfl, rfl⟩
set_option maxHeartbeats 8000000 in
set_option maxRecDepth 100000 in
theorem copyCheck_used (b : Nat) (w : World) (h : w.cell? ⟨b, 0, none⟩ = some (.pointer (some ⟨b, 0, none⟩))) :
    Calls Tryz.prog 99 #[.pointer (some ⟨b, 0, none⟩)] w (fun e w' => e = .returned (.tuple #[]) ∧ w' = w) := by
  go_enter Tryz.func99, Tryz.ntmps99
  obtain ⟨j, hj, hjs⟩ := Option.map_eq_some_iff.1 size184
  go_wp2_with fail
  rw [Lib.run_neq_ptr_same w _ Tryz.underlying182 hj]
  go_wp2_with fail
  go_end0
  exact ⟨rfl, rfl⟩
theorem copyCheck_calls (B b : Nat) (bs : List Value) (w : World) (h : Lib.IsBuilderF 184 5 B b bs w) :
    Calls Tryz.prog 99 #[.pointer (some ⟨b, 0, none⟩)] w fun e w' => e = .returned (.tuple #[]) ∧ (Lib.BuilderAtF 184 5 B b (.pointer (some ⟨b, 0, none⟩)) bs w' ∧ Below B w w' ∧ Lib.OthersKept 5 (some b) w w') := by
  rcases h with h | h
  · refine (copyCheck_fresh b w h.cell0 h.shape h.frozen0).mono ?_
    rintro e w' ⟨rfl, rfl⟩
    exact ⟨rfl, h.used _, (Below.refl B w).setCell (p := ⟨b, 0, none⟩) h.1 _, (Lib.OthersKept.refl _ _ w).setCell ⟨b, 0, none⟩ rfl _⟩
  · refine (copyCheck_used b w h.cell0).mono ?_
    rintro e w' ⟨rfl, rfl⟩
    exact ⟨rfl, h, Below.refl B _, Lib.OthersKept.refl _ _ _⟩
end Go.Proofs.YtahnelihohmjfaaGreatDoor.V
namespace Go.Proofs.YtahnelihohmjfaaGreatDoor.V
open Go.RowKit
set_option linter.unusedVariables false
set_option linter.unusedSimpArgs false
theorem info5 : (Tryz.prog.info? 5).map (fun i => (i.zero, i.size, i.bytes)) = some (some (.int .u8 0), 1, 1) := by kernel_rfl
/-- what a writing method leaves -/
def Wrote (B b : Nat) (bs : List Value) (w : World) (r : Value) (e : Ending) (w' : World) : Prop := e = .returned r ∧ Lib.BuilderAtF 184 5 B b (.pointer (some ⟨b, 0, none⟩)) bs w' ∧ Below B w w' ∧ Lib.OthersKept 5 (some b) w w'
theorem ownsF_form {w : World} {B : Nat} {v : Value} {n : Nat} {xs : List Value} (h : w.ownsRowF B 5 1 v n xs) : ∃ A c, v = .slice A n c := by
  rcases h.2 with ⟨h1, h2⟩ | ⟨g, cap, cur, fz, h1, _⟩
  · exact ⟨none, 0, by rw [h1, h2]⟩
  · exact ⟨_, _, h1⟩
set_option maxHeartbeats 8000000 in
set_option maxRecDepth 100000 in
theorem writeString_calls (B b : Nat) (bs : List Value) (s : ByteArray) (w : World) (h : Lib.IsBuilderF 184 5 B b bs w) (hlen : bs.length + s.size ≤ 1000000) (hBw : B ≤ w.heap.size) :
    Calls Tryz.prog 82 #[.pointer (some ⟨b, 0, none⟩), .string s] w (Wrote B b (bs ++ Lib.strCells s) w (.tuple #[.int .i64 s.size, .nilIface])) := by
  obtain ⟨i0, hi, hz0, hz1, hz2⟩ := info_parts info5
  have HI := Ad.mk (And.intro hi (And.intro hz0 (And.intro hz1 hz2)))
  clear hi hz0 hz1 hz2
  go_enter Tryz.func82, Tryz.ntmps82
  go_wp2_with (first
    | (go_at_call 99; refine (copyCheck_calls B b bs _ h).mono ?_; rintro e1 w1 ⟨rfl, ⟨hB, v, hbk, hown, hne⟩, hb1, hk1⟩; have c0 := blk_cell hbk 0; have c1 := blk_cell hbk 1; have HOWN := Ad.mk hown; have HNE := Ad.mk hne; have HBK := Ad.mk hbk; clear hown hne hbk)
    | (at_builtin; refine Lib.wpList_append_own_stringF _ rfl _ _ 169 9 rfl B 5 i0 Tryz.underlying169 Tryz.underlying9 HI.out.1 HI.out.2.1 HI.out.2.2.1 HI.out.2.2.2 _ _ _ rfl HOWN.out s rfl (by unfold maxLen; omega) (by omega) (by have := hb1.size; omega) ?_; intro v' w2 hown' hgrow hnil; obtain ⟨A2, c2, rfl⟩ := ownsF_form hown'; have HG := Ad.mk hgrow; have HO := Ad.mk hown'; have hlt := blk_lt HBK.out; have hb2 := (hgrow.block b hlt (fun e => HNE.out e.symm)).trans HBK.out; have d0 := blk_cell hb2 0; have d1 := blk_cell hb2 1; have f1 := blk_frozen hb2 1; have HB2 := Ad.mk hb2; clear hb2 hown' hgrow))
  go_ret2
  refine ⟨rfl, ?_, ?_, (hk1.grown HG.out (Lib.ownsRowF_kind HOWN.out)).setCell ⟨b, 1, none⟩ rfl _⟩
  · exact Lib.BuilderAtF.put hB HB2.out (bs' := bs ++ Lib.strCells s) (by have := HO.out; simpa [Lib.strCells_length] using this) (by decide)
  · exact (hb1.grown HG.out (by have := hb1.size; omega) (fun k hk => (HOWN.out.lt k hk).1)).setCell (p := ⟨b, 1, none⟩) hB _
set_option maxHeartbeats 8000000 in
set_option maxRecDepth 100000 in
theorem writeByte_calls (B b : Nat) (bs : List Value) (c : Int) (w : World) (h : Lib.IsBuilderF 184 5 B b bs w) (hlen : bs.length + 1 ≤ 1000000) (hBw : B ≤ w.heap.size) :
    Calls Tryz.prog 81 #[.pointer (some ⟨b, 0, none⟩), .int .u8 c] w (Wrote B b (bs ++ [.int .u8 c]) w .nilIface) := by
  obtain ⟨i0, hi, hz0, hz1, hz2⟩ := info_parts info5
  have HI := Ad.mk (And.intro hi (And.intro hz0 (And.intro hz1 hz2)))
  clear hi hz0 hz1 hz2
  go_enter Tryz.func81, Tryz.ntmps81
  go_wp2_with (first
    | (go_at_call 99; refine (copyCheck_calls B b bs _ h).mono ?_; rintro e1 w1 ⟨rfl, ⟨hB, v, hbk, hown, hne⟩, hb1, hk1⟩; have c0 := blk_cell hbk 0; have c1 := blk_cell hbk 1; have HOWN := Ad.mk hown; have HNE := Ad.mk hne; have HBK := Ad.mk hbk; clear hown hne hbk)
    | (at_builtin; go_must (refine wpList_append_ownF _ rfl _ _ 169 rfl B 5 i0 (.int .u8 0) 1 1 Tryz.underlying169 HI.out.1 HI.out.2.1 HI.out.2.2.1 HI.out.2.2.2 rfl (by decide) _ _ _ rfl (HOWN.out.alloc _) ⟨w1.heap.size, 0, none⟩ 1 1 [.int .u8 c] rfl rfl (by intro j u hj; match j, hj with | 0, hj => simp at hj; subst hj; simp [Addr.add]) (by intro u hu; simp at hu; subst hu; rfl) (by unfold maxLen; omega) (by omega) (by have := hb1.size; simp; omega) ?_); intro v' w2 hown' hgrow hnil; obtain ⟨A2, c2, rfl⟩ := ownsF_form hown'; have HG := Ad.mk hgrow; have HO := Ad.mk hown'; have hlt := blk_lt HBK.out; have hb2 := (hgrow.block b (by simp; omega) (fun e => HNE.out e.symm)).trans (blk_alloc HBK.out _); have d0 := blk_cell hb2 0; have d1 := blk_cell hb2 1; have f1 := blk_frozen hb2 1; have HB2 := Ad.mk hb2; clear hb2 hown' hgrow))
  go_ret
  refine ⟨rfl, ?_, ?_, ((hk1.alloc _).grown HG.out (Lib.ownsRowF_kind (HOWN.out.alloc _))).setCell ⟨b, 1, none⟩ rfl _⟩
  · exact Lib.BuilderAtF.put hB HB2.out (bs' := bs ++ [.int .u8 c]) (by have := HO.out; simpa using this) (by decide)
  · exact ((hb1.alloc (by have := hb1.size; omega) _).grown HG.out (by have := hb1.size; simp; omega) (fun k hk => (HOWN.out.lt k hk).1)).setCell (p := ⟨b, 1, none⟩) hB _
end Go.Proofs.YtahnelihohmjfaaGreatDoor.V
namespace Go.Proofs.YtahnelihohmjfaaGreatDoor.V
open Go.RowKit
set_option linter.unusedVariables false
set_option linter.unusedSimpArgs false
theorem builderAt_below {T e : TypeId} {B b : Nat} {p : Value} {bs : List Value} {w w' : World} (h : Lib.BuilderAtF T e B b p bs w) (hb : Below w.heap.size w w') : Lib.BuilderAtF T e B b p bs w' := by
  obtain ⟨hB, v, hc, ⟨hl, hown⟩, hne⟩ := h
  refine ⟨hB, v, blk_below hc hb, ⟨hl, ?_⟩, hne⟩
  rcases hown with h | ⟨g, cap, cur, fz, h1, h2, h3, h4⟩
  · exact .inl h
  · exact .inr ⟨g, cap, cur, fz, h1, h2, blk_below h3 hb, h4⟩
theorem isBuilder_below {T e : TypeId} {B b : Nat} {bs : List Value} {w w' : World} (h : Lib.IsBuilderF T e B b bs w) (hb : Below w.heap.size w w') : Lib.IsBuilderF T e B b bs w' := h.imp (builderAt_below · hb) (builderAt_below · hb)
theorem below_grown (w : World) (k : Nat) (os : Array Obj) : Below w.heap.size w (Go.Sort.grow (w.drewN k) os) := ⟨rfl, rfl, rfl, by simp, fun i hi => Go.Sort.heap_grow_old _ os hi⟩
theorem builder_new (w : World) (n : Nat) (hn : w.heap.size = n) : Lib.IsBuilderF 184 5 n n [] (w.alloc (.cells #[.pointer none, .slice none 0 0] 184)) := by
  subst hn
  exact .inl ⟨Nat.le_refl _, .slice none 0 0, blk_new _ _, World.ownsRowF_nil _ _ _ _, by simp [Value.ownBlock]⟩
def itoaS (n : Int) : ByteArray := ⟨(Lib.itoa n).toArray⟩
set_option maxHeartbeats 8000000 in
set_option maxRecDepth 100000 in
theorem print1_int (B b c : Nat) (A : Option Addr) (bs : List Value) (u : Val) (w : World) (hk : (u.k == 1) = true) (hn : I64 u.n) (hg : GV w) (hb : Lib.IsBuilderF 184 5 B b bs w) (hl : bs.length + (itoaS u.n).size ≤ 1000000) (hBw : B ≤ w.heap.size) :
    Calls Tryz.prog 101 #[.pointer (some ⟨b, 0, none⟩), .agg #[.int .i64 u.k, .int .i64 u.n, .string u.s, .slice A u.items.length c]] w (fun e w' => e = .returned (.tuple #[]) ∧ Lib.IsBuilderF 184 5 B b (bs ++ Lib.strCells (itoaS u.n)) w' ∧ Below B w w' ∧ Lib.OthersKept 5 (some b) w w') := by
  have hk0 : (u.k == 0) = false := by simp at hk ⊢; omega
  have HG := Ad.mk hg
  have HB := Ad.mk hb
  have HN := Ad.mk hn
  have HL := Ad.mk hl
  have HBW := Ad.mk hBw
  clear hg hb hn hl hBw
  go_enter Tryz.func101, Tryz.ntmps101
  go_wp2_with (first
    | (go_at_call 85; refine (Tryz.strconv_FormatInt_10 u.n HN.out.1 HN.out.2 _ (HG.out.below (below_alloc (Below.refl _ _) _)).pow).mono ?_; rintro e1 w1 ⟨rfl, k1, os1, hw1⟩; have hb1 := below_grown (w.alloc (.cells #[.int .i64 u.k, .int .i64 u.n, .string u.s, .slice A u.items.length c] 42)) k1 os1; rw [← hw1] at hb1; have HB1 := Ad.mk hb1; clear hb1 hw1)
    | (go_at_call 82; refine (writeString_calls B b bs (itoaS u.n) _ (isBuilder_below (isBuilder_below HB.out (below_alloc (Below.refl _ _) _)) HB1.out) HL.out (by have := HBW.out; have := HB1.out.size; simp at this; omega)).mono ?_; rintro e2 w2 ⟨rfl, hb2, hc2, ho2⟩; have hi2 : Lib.IsBuilderF 184 5 B b _ w2 := .inr hb2; have HB2 := Ad.mk hb2; have HC2 := Ad.mk hc2; have HO2 := Ad.mk ho2; clear hb2 hc2 ho2))
  go_end0
  have hz := below_then (below_alloc (Below.refl _ _) (.cells #[.int .i64 u.k, .int .i64 u.n, .string u.s, .slice A u.items.length c] 42)) HB1.out
  exact ⟨rfl, .inr HB2.out, ⟨HC2.out.os.trans hz.os, HC2.out.tape.trans hz.tape, HC2.out.output.trans hz.output, Nat.le_trans hz.size HC2.out.size, fun k hk => (HC2.out.block k hk).trans (hz.block k (Nat.lt_of_lt_of_le hk HBW.out))⟩, fun k o hk hne hnc => HO2.out k o (blk_below hk hz) hne hnc⟩
end Go.Proofs.YtahnelihohmjfaaGreatDoor.V
namespace Go.Proofs.YtahnelihohmjfaaGreatDoor.V
open Go.RowKit
set_option linter.unusedVariables false
set_option linter.unusedSimpArgs false
theorem cells_itoa (n : Int) : [] ++ Lib.strCells (itoaS n) = Lib.byteCells (Lib.itoa n) := by simp [Lib.strCells, Lib.byteCells, itoaS]
set_option maxHeartbeats 8000000 in
set_option maxRecDepth 100000 in
theorem print_int (c : Nat) (A : Option Addr) (v : Val) (Q : Nat → Prop) (w : World) (hv : VA Q w A c v) (hQ : ∀ b, Q b → b < w.heap.size) (hk : ((fitV v).k == 1) = true) (hn : I64 (fitV v).n) (hg : GV w) (hl : (itoaS (fitV v).n).size ≤ 1000000) :
    Calls Tryz.prog 87 #[.agg #[.int .i64 v.k, .int .i64 v.n, .string v.s, .slice A v.items.length c]] w (Ret w (.string (itoaS (fitV v).n))) := by
  have HV := Ad.mk hv
  have HQ := Ad.mk hQ
  have HG := Ad.mk hg
  have HN := Ad.mk hn
  have HL := Ad.mk hl
  clear hv hQ hg hn hl
  go_enter Tryz.func87, Tryz.ntmps87
  go_wp2_with (first
    | (go_at_call 102; refine (valid_calls Q A c v _ (HV.out.below (below_alloc (below_alloc (Below.refl _ _) _) _)) (by intro b hb; have := HQ.out b hb; simp; omega)).mono ?_; rintro e1 w1 ⟨A1, c1, rfl, ha1, hb1⟩; have HB1 := Ad.mk hb1; have HA1 := Ad.mk ha1; clear hb1 ha1)
    | (go_at_call 101; refine (print1_int (w.heap.size + 1) (w.heap.size + 1) _ _ [] (fitV v) _ hk HN.out (HG.out.below (below_then (below_alloc (below_alloc (Below.refl _ _) _) _) HB1.out)) (isBuilder_below (builder_new _ _ (by simp)) HB1.out) (by simpa using HL.out) (by have := HB1.out.size; simp at this; omega)).mono ?_; rintro e2 w2 ⟨rfl, hb2, hc2, ho2⟩; have HB2 := Ad.mk hb2; have HC2 := Ad.mk hc2; clear hb2 hc2 ho2)
    | (go_at_call 83; have hb3 := HB2.out; rw [cells_itoa] at hb3; refine (Tryz.Builder_String_any_k (w.heap.size + 1) (w.heap.size + 1) (Lib.itoa (fitV v).n) _ hb3 (by have h1 := HC2.out.size; have h2 := HB1.out.size; simp at h2; omega)).mono ?_; clear hb3; rintro e3 w3 ⟨rfl, hb3, hc3, ho3⟩; have HC3 := Ad.mk hc3; clear hb3 hc3 ho3))
  go_ret
  have h1 : Below w.heap.size w w1 := below_then (below_alloc (below_alloc (Below.refl _ _) _) _) HB1.out
  have h2 := HC2.out
  have h3 := HC3.out
  exact ⟨rfl, ⟨h3.os.trans (h2.os.trans h1.os), h3.tape.trans (h2.tape.trans h1.tape), h3.output.trans (h2.output.trans h1.output), Nat.le_trans h1.size (Nat.le_trans h2.size h3.size), fun k hk => (h3.block k (by omega)).trans ((h2.block k (by omega)).trans (h1.block k hk))⟩⟩
end Go.Proofs.YtahnelihohmjfaaGreatDoor.V
