/- A part of the walk (V103). -/
import Derived.Test.YtahnelihohmjfaaGreatDoorL4
import Derived.Test.YtahnelihohmjfaaGreatDoorL23
import Derived.Test.YtahnelihohmjfaaGreatDoorRows
import Derived.PinnedBridge
import Derived.Lib.LaidU8
import Derived.Shelf.Vars
import Derived.MakeChecks
namespace Go.Proofs.YtahnelihohmjfaaGreatDoor.V
open Go.RowKit Go.Lib
set_option linter.unusedVariables false
set_option linter.unusedSimpArgs false
set_option maxRecDepth 100000
/-! ### the package's variables, as the form tells them -/
def needsL : List (List Int) := [[0, 0, 0, 0, 0, 0, 0], [0, 0, 1, 1, 0, 3, 0], [1, 1, 1, 1, 0, 0, 2], [1, 1, 1, 1, 0, 0, 1], [1, 1, 1, 1, 0, 0, 2], [1, 4, 1, 1, 0, 0, 0], [1, 1, 1, 4, 0, 0, 1], [1, 1, 1, 4, 0, 0, 0], [2, 2, 1, 1, 0, 0, 0], [1, 1, 1, 1, 1, 6, 0], [1, 1, 1, 1, 0, 0, 0], [2, 2, 1, 1, 0, 0, 0], [1, 1, 2, 2, 0, 9, 1], [1, 1, 0, 0, 0, 0, 0]]
/-- all rows of shape.needs -/
def GNA (w : World) : Prop := ∀ k j, k < 14 → j < 7 → w.cell? ⟨0, k * 7 + j, none⟩ = some (.int .i64 ((needsL.getD k []).getD j 0))
theorem GNA.gn {w : World} (h : GNA w) : GN w := fun i hi => by
  by_cases h7 : i < 7
  · have := h 11 i (by omega) h7
    rw [show 11 * 7 + i = 77 + i by omega] at this
    rw [this]
    rcases i with _ | _ | _ | _ | _ | _ | _ | i <;> first | rfl | omega
  · obtain ⟨j, rfl⟩ : ∃ j, i = 7 + j := ⟨i - 7, by omega⟩
    have := h 12 j (by omega) (by omega)
    rw [show 12 * 7 + j = 77 + (7 + j) by omega] at this
    rw [this]
    rcases j with _ | _ | _ | _ | _ | _ | _ | j <;> first | rfl | omega
theorem reads_needs : (Rows.laid_eddy_shape_needs : DataW Unit) = .agg (needsL.map fun r => .agg (r.map fun z => .lit (.int .i64 z))) := rfl
theorem cells136 : Tryz.prog.cellsOf 136 = 7 := by kernel_rfl
theorem gna_of {w : World} (h : VarReads Tryz.prog w "eddy/shape.needs" Rows.laid_eddy_shape_needs) : GNA w := fun k j hk hj => by
  obtain ⟨g, t, cs, fuel, p, hg, hty, hvar, hd⟩ := h
  obtain rfl := Option.some.inj ((show Tryz.prog.globalNamed "eddy/shape.needs" = some 0 by kernel_rfl).symm.trans hg)
  obtain rfl := Option.some.inj ((show (Tryz.prog.globals[0]?).map (·.type) = some 137 by kernel_rfl).symm.trans hty)
  rw [reads_needs] at hd
  obtain ⟨fuel', d, q, hdi, he⟩ := array_elem Tryz.underlying137 hd k hk
  rw [cells136] at he
  have hkl : k < needsL.length := hk
  rw [List.getElem?_map, List.getElem?_eq_getElem hkl, Option.map_some, Option.some.injEq] at hdi
  subst hdi
  have hcs := ints_of_struct Tryz.underlying136 (fun i f hf => by
    match i, hf with
    | 0, hf => simp at hf; subst hf; exact ⟨Tryz.underlying3, rfl, cells3⟩
    | 1, hf => simp at hf; subst hf; exact ⟨Tryz.underlying3, rfl, cells3⟩
    | 2, hf => simp at hf; subst hf; exact ⟨Tryz.underlying3, rfl, cells3⟩
    | 3, hf => simp at hf; subst hf; exact ⟨Tryz.underlying3, rfl, cells3⟩
    | 4, hf => simp at hf; subst hf; exact ⟨Tryz.underlying3, rfl, cells3⟩
    | 5, hf => simp at hf; subst hf; exact ⟨Tryz.underlying3, rfl, cells3⟩
    | 6, hf => simp at hf; subst hf; exact ⟨Tryz.underlying3, rfl, cells3⟩
    | i + 7, hf => simp at hf) (by rw [cells136]; rfl) he
  have hlen : (needsL[k]'hkl).length = 7 := by
    have : ∀ r ∈ needsL, r.length = 7 := by decide
    exact this _ (List.getElem_mem hkl)
  have e0 := congrArg (·[j]?) hcs
  simp only [List.getElem?_take, List.getElem?_drop, if_pos hj, List.getElem?_map] at e0
  rw [List.getElem?_eq_getElem (by omega : j < (needsL[k]'hkl).length), Option.map_some] at e0
  rw [World.var?_cell hg hvar (k * 7 + j), ← Array.getElem?_toList, e0, List.getD_eq_getElem?_getD, List.getD_eq_getElem?_getD, List.getElem?_eq_getElem hkl, Option.getD_some, List.getElem?_eq_getElem (by omega : j < (needsL[k]'hkl).length), Option.getD_some]
/-- an array of texts -/
theorem strs_of {w : World} {name : String} {g t n : Nat} {ss : List (List UInt8)} (hg0 : Tryz.prog.globalNamed name = some g) (ht0 : (Tryz.prog.globals[g]?).map (·.type) = some t) (hu : Tryz.prog.underlying t = some (.array n 9)) (hn : ss.length = n)
    (h : VarReads Tryz.prog w name (.agg (ss.map fun b => .lit (.string b)))) (i : Nat) (hi : i < n) : w.cell? ⟨g, i, none⟩ = some (.string ⟨(ss.getD i []).toArray⟩) := by
  obtain ⟨g', t', cs, fuel, p, hg, hty, hvar, hd⟩ := h
  obtain rfl := Option.some.inj (hg0.symm.trans hg)
  obtain rfl := Option.some.inj (ht0.symm.trans hty)
  obtain ⟨fuel', d, q, hdi, he⟩ := array_elem hu hd i hi
  rw [cells9] at he
  rw [List.getElem?_map, List.getElem?_eq_getElem (by omega), Option.map_some, Option.some.injEq] at hdi
  subst hdi
  obtain ⟨s, hs, hx, _⟩ := DataW.trod_string Tryz.underlying9 he
  have e0 := congrArg (·[0]?) hs
  simp only [List.getElem?_take, List.getElem?_drop, Nat.mul_one, Nat.add_zero, List.getElem?_cons_zero] at e0
  rw [World.var?_cell hg hvar i, ← Array.getElem?_toList]
  have e1 : (cs.toList)[i]? = some (.string s) := by simpa using e0
  rw [e1]
  have e2 : ss[i]'(by omega) = s.data.toList := by
    have := congrArg Prod.fst hx
    simpa using this
  rw [List.getD_eq_getElem?_getD, List.getElem?_eq_getElem (by omega : i < ss.length), Option.getD_some, e2]
def wordsB : List (List UInt8) := [[107, 101, 121], [118, 97, 108], [97, 99, 99], [104, 111, 112, 115], [110, 111, 110, 101], [105, 102], [116, 104, 101, 110], [101, 108, 115, 101], [97, 110, 100], [111, 114], [110, 111, 116]]
def signsB : List (List UInt8) := [[60, 61], [62, 61], [61, 61], [33, 61], [43], [45], [42], [47], [37], [40], [41], [91], [93], [44], [60], [62]]
theorem cells5 : Tryz.prog.cellsOf 5 = 1 := by kernel_rfl
theorem cells300 : Tryz.prog.cellsOf 300 = 2 := by kernel_rfl
theorem utf_of {w : World} (h3 : VarReads Tryz.prog w "unicode/utf8.first" Rows.laid_unicode_utf8_first) (h4 : VarReads Tryz.prog w "unicode/utf8.acceptRanges" Rows.laid_unicode_utf8_acceptRanges) : Lib.Utf8Tabs 6 7 w := by
  refine ⟨fun c hc => ?_, fun i hi => ?_⟩
  · obtain ⟨g, t, cs, fuel, p, hg, hty, hvar, hd⟩ := h3
    obtain rfl := Option.some.inj ((show Tryz.prog.globalNamed "unicode/utf8.first" = some 6 by kernel_rfl).symm.trans hg)
    obtain rfl := Option.some.inj ((show (Tryz.prog.globals[6]?).map (·.type) = some 298 by kernel_rfl).symm.trans hty)
    rw [show Rows.laid_unicode_utf8_first = firstData from Pinned.utf8First_eq] at hd
    have hcs := cells_of_tab Tryz.underlying298 Tryz.underlying5 cells5 (by kernel_rfl) hd
    have := World.var?_cell hg hvar c
    rw [this, ← Array.getElem?_toList, hcs]
    simp [firstTab, hc]
  · obtain ⟨g, t, cs, fuel, p, hg, hty, hvar, hd⟩ := h4
    obtain rfl := Option.some.inj ((show Tryz.prog.globalNamed "unicode/utf8.acceptRanges" = some 7 by kernel_rfl).symm.trans hg)
    obtain rfl := Option.some.inj ((show (Tryz.prog.globals[7]?).map (·.type) = some 301 by kernel_rfl).symm.trans hty)
    rw [show (Rows.laid_unicode_utf8_acceptRanges : DataW Unit) = acceptData from rfl] at hd
    obtain ⟨fuel', d, q, hdi, he⟩ := array_elem Tryz.underlying301 hd i hi
    simp only [List.getElem?_map, List.getElem?_range hi, Option.map_some, Option.some.injEq] at hdi
    subst hdi
    rw [cells300] at he
    have hcs := ints_of_struct Tryz.underlying300 (fun j f hj => by
      match j, hj with
      | 0, hj => simp at hj; subst hj; exact ⟨Tryz.underlying5, rfl, cells5⟩
      | 1, hj => simp at hj; subst hj; exact ⟨Tryz.underlying5, rfl, cells5⟩
      | j + 2, hj => simp at hj) (by rw [cells300]; rfl) he
    have e0 := congrArg (·[0]?) hcs
    have e1 := congrArg (·[1]?) hcs
    simp only [List.getElem?_take, List.getElem?_drop] at e0 e1
    constructor
    · rw [World.var?_cell hg hvar (2 * i), ← Array.getElem?_toList]
      simpa [Nat.mul_comm] using e0
    · rw [World.var?_cell hg hvar (2 * i + 1), ← Array.getElem?_toList]
      simpa [Nat.mul_comm] using e1
/-- what the condition gives the walks -/
theorem gok_of {W : World} (h : laidMetH Tryz.prog Rows.stageLoopRow.laid W) (hs : W.ShapedOpen Tryz.prog) : GNA W ∧ GOK W := by
  rw [MakeChecks.laidMetH_plain _ _ _ (by kernel_rfl)] at h
  have r := fun n d hm => Lib.laidMet.reads h (n := n) (d := d) hm
  have h2 := r "internal/strconv.uint64pow10" Rows.laid_internal_strconv_uint64pow10 (.tail _ (.tail _ (.head _)))
  have h3 := r "unicode/utf8.acceptRanges" Rows.laid_unicode_utf8_acceptRanges (.tail _ (.tail _ (.tail _ (.head _))))
  have h6 := r "eddy/expr.words" Rows.laid_eddy_expr_words (.tail _ (.tail _ (.tail _ (.tail _ (.tail _ (.tail _ (.head _)))))))
  have h7 := r "eddy/expr.signs" Rows.laid_eddy_expr_signs (.tail _ (.tail _ (.tail _ (.tail _ (.tail _ (.tail _ (.tail _ (.head _))))))))
  have h8 := r "eddy/shape.needs" Rows.laid_eddy_shape_needs (.tail _ (.tail _ (.tail _ (.tail _ (.tail _ (.tail _ (.tail _ (.tail _ (.head _)))))))))
  have h9 := r "unicode/utf8.first" Rows.laid_unicode_utf8_first (.tail _ (.tail _ (.tail _ (.tail _ (.tail _ (.tail _ (.tail _ (.tail _ (.tail _ (.head _))))))))))
  refine ⟨gna_of h8, ?_, ?_, fun i hi => ?_, fun i hi => ?_, utf_of h9 h3⟩
  · exact cell_of_shapedOpen_int (g := 8) (t := 3) (zero := #[.int .i64 0]) hs (of_decide_eq_true (by kernel_rfl)) (by kernel_rfl) rfl (by kernel_rfl) (by kernel_rfl) Tryz.underlying3
  · obtain ⟨g, t, cs, fuel, p, hg, hty, hvar, hd⟩ := h2
    obtain rfl := Option.some.inj ((show Tryz.prog.globalNamed "internal/strconv.uint64pow10" = some 3 by kernel_rfl).symm.trans hg)
    obtain rfl := Option.some.inj ((show (Tryz.prog.globals[3]?).map (·.type) = some 272 by kernel_rfl).symm.trans hty)
    rw [show (Rows.laid_internal_strconv_uint64pow10 : DataW Unit) = tabData .u64 Lib.pow10Tab from rfl] at hd
    unfold TabIs
    rw [hvar, ← cells_of_tab Tryz.underlying272 Tryz.underlying248 (by kernel_rfl) (by kernel_rfl) hd]
  · have := strs_of (g := 2) (ss := wordsB) (by kernel_rfl) (by kernel_rfl) Tryz.underlying266 rfl h6 i hi
    rw [this]
    have : ∀ i, i < 11 → (⟨(wordsB.getD i []).toArray⟩ : ByteArray) = wordsL.getD i ⟨#[]⟩ := by
      intro i hi
      rcases i with _ | _ | _ | _ | _ | _ | _ | _ | _ | _ | _ | i <;> first | rfl | omega
    rw [this i hi]
  · have := strs_of (g := 1) (ss := signsB) (by kernel_rfl) (by kernel_rfl) Tryz.underlying252 rfl h7 i hi
    rw [this]
    have : ∀ i, i < 16 → (⟨(signsB.getD i []).toArray⟩ : ByteArray) = signsL.getD i ⟨#[]⟩ := by
      intro i hi
      rcases i with _ | _ | _ | _ | _ | _ | _ | _ | _ | _ | _ | _ | _ | _ | _ | _ | i <;> first | rfl | omega
    rw [this i hi]
end Go.Proofs.YtahnelihohmjfaaGreatDoor.V
