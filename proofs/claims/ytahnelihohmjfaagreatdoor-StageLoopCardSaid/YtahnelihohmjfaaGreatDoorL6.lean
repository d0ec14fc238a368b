/- A part of the walk (V25). -/
import Derived.Test.YtahnelihohmjfaaGreatDoorL5
import Derived.Test.YtahnelihohmjfaaGreatDoorShelf
namespace Go.Proofs.YtahnelihohmjfaaGreatDoor.V
open Go.RowKit
set_option linter.unusedVariables false
set_option linter.unusedSimpArgs false
/-- the package's variables as the call finds them -/
def wordsL : List ByteArray := [⟨#[107, 101, 121]⟩, ⟨#[118, 97, 108]⟩, ⟨#[97, 99, 99]⟩, ⟨#[104, 111, 112, 115]⟩, ⟨#[110, 111, 110, 101]⟩, ⟨#[105, 102]⟩, ⟨#[116, 104, 101, 110]⟩, ⟨#[101, 108, 115, 101]⟩, ⟨#[97, 110, 100]⟩, ⟨#[111, 114]⟩, ⟨#[110, 111, 116]⟩]
def signsL : List ByteArray := [⟨#[60, 61]⟩, ⟨#[62, 61]⟩, ⟨#[61, 61]⟩, ⟨#[33, 61]⟩, ⟨#[43]⟩, ⟨#[45]⟩, ⟨#[42]⟩, ⟨#[47]⟩, ⟨#[37]⟩, ⟨#[40]⟩, ⟨#[41]⟩, ⟨#[91]⟩, ⟨#[93]⟩, ⟨#[44]⟩, ⟨#[60]⟩, ⟨#[62]⟩]
structure GOK (w0 : World) : Prop where
  ml : ∃ m, w0.cell? ⟨8, 0, none⟩ = some (.int .i64 m)
  pow : Lib.TabIs Tryz.prog w0 "internal/strconv.uint64pow10" .u64 Lib.pow10Tab
  words : ∀ i, i < 11 → w0.cell? ⟨2, i, none⟩ = some (.string (wordsL.getD i ⟨#[]⟩))
  signs : ∀ i, i < 16 → w0.cell? ⟨1, i, none⟩ = some (.string (signsL.getD i ⟨#[]⟩))
  utf : Lib.Utf8Tabs 6 7 w0
def GV (w : World) : Prop := ∃ w0, GOK w0 ∧ Below w0.heap.size w0 w
theorem GV.below {w w' : World} (h : GV w) (hb : Below w.heap.size w w') : GV w' := let ⟨w0, h0, h1⟩ := h; ⟨w0, h0, below_then h1 hb⟩
theorem GV.ml {w : World} (h : GV w) : ∃ m, w.cell? ⟨8, 0, none⟩ = some (.int .i64 m) := let ⟨w0, h0, h1⟩ := h; let ⟨m, hm⟩ := h0.ml; ⟨m, cell_below h1 hm⟩
theorem var_below {P : Program} {w w' : World} {s : String} {cs : Array Value} (hb : Below w.heap.size w w') (h : w.var? P s = some cs) : w'.var? P s = some cs := by
  unfold World.var? at h ⊢
  cases hg : P.globalNamed s with
  | none => rw [hg] at h; cases h
  | some g =>
    rw [hg] at h
    simp only [Option.bind_some] at h ⊢
    cases ho : w.heap[g]? with
    | none => rw [ho] at h; cases h
    | some o => rw [ho] at h; rw [blk_below ho hb]; exact h
theorem GV.pow {w : World} (h : GV w) : Lib.TabIs Tryz.prog w "internal/strconv.uint64pow10" .u64 Lib.pow10Tab := let ⟨w0, h0, h1⟩ := h; var_below h1 h0.pow
theorem GV.words {w : World} (h : GV w) (i : Nat) (hi : i < 11) : w.cell? ⟨2, i, none⟩ = some (.string (wordsL.getD i ⟨#[]⟩)) := let ⟨w0, h0, h1⟩ := h; cell_below h1 (h0.words i hi)
theorem GV.signs {w : World} (h : GV w) (i : Nat) (hi : i < 16) : w.cell? ⟨1, i, none⟩ = some (.string (signsL.getD i ⟨#[]⟩)) := let ⟨w0, h0, h1⟩ := h; cell_below h1 (h0.signs i hi)
theorem GV.utf {w : World} (h : GV w) : Lib.Utf8Tabs 6 7 w := let ⟨w0, h0, h1⟩ := h; ⟨fun c hc => cell_below h1 (h0.utf.1 c hc), fun i hi => ⟨cell_below h1 (h0.utf.2 i hi).1, cell_below h1 (h0.utf.2 i hi).2⟩⟩
structure DoG (k n : Nat) (D : List Val → Val) : Prop where
  calls : ∀ (w : World) (A : Option Addr) (c : Nat) (vs : List Val) (Q : Nat → Prop), GV w → vs.length = n → VL Q w A c vs → (∀ b, Q b → b < w.heap.size) → (∀ v ∈ vs, checkP v = 0) → Calls Tryz.prog k #[.slice A vs.length c] w (RetV Q w (D vs))
theorem DoOK.g {k n : Nat} {D : List Val → Val} (h : DoOK k n D) : DoG k n D := ⟨fun w A c vs Q _ => h.calls w A c vs Q⟩
def hasV (vs : List Val) : Val := bif (vs.getD 0 Val.none).k == 3 then Val.bool ((vs.getD 0 Val.none).items.any fun v => decide (cmpV v (vs.getD 1 Val.none) = 0))
  else bif (vs.getD 0 Val.none).k == 2 && (vs.getD 1 Val.none).k == 2 then Val.bool (Lib.contains (vs.getD 0 Val.none).s.data.toList (vs.getD 1 Val.none).s.data.toList) else Val.none
theorem enters {f : FuncId} {fn : Func} (hf : Tryz.prog.funcs[f]? = some fn) (hname : (fn.name == "runtime.NumGoroutine") = false) (hb : fn.body.isSome = true) (args : Array Value) (w : World) : (callFunc f args).run Tryz.prog w = .ok (.enter f args) w := by
  have h1 : fn.name ≠ "runtime.NumGoroutine" := by simpa using hname
  obtain ⟨c, hc⟩ := Option.isSome_iff_exists.1 hb
  simp [callFunc, hf, h1, hc]
theorem has1_fn (b : Nat) (A' : Option Addr) (c' : Nat) (vs : List Val) (Q' : Nat → Prop) (w : World) (hb : w.heap[b]? = some (.cells #[.slice A' vs.length c'] 40 (0, 0))) (hn : vs.length = 2) (hl : VL Q' w A' c' vs) :
    FnB w (.func (.func 190) #[] #[.pointer (some ⟨b, 0, none⟩)]) (fun v => decide (cmpV v (vs.getD 1 Val.none) = 0)) :=
  ⟨⟨190, #[.pointer (some ⟨b, 0, none⟩)], rfl, enters Tryz.func190 (by kernel_rfl) (by kernel_rfl), fun w' Q A c v hb' ha => has1_calls b A A' c c' v vs Q Q' w' (blk_below hb hb') hn ha (hl.below hb')⟩⟩
set_option maxHeartbeats 8000000 in
set_option maxRecDepth 100000 in
theorem doHas_ok : DoG 168 2 hasV := ⟨fun w A c vs Q hg hn hl hQ hv => by
  have hl2 := hl.below (below_alloc (Below.refl _ _) (.cells #[.slice A vs.length c] 40))
  obtain ⟨ad, B0, d0, rfl, g00, g01, g02, g03, ha0⟩ := arg0 hl2 (by omega) box0
  obtain ⟨B1, d1, g10, g11, g12, g13, ha1⟩ := arg_at hl2 1 4 rfl (by omega) (by omega) box0
  unfold box0 at g00 g01 g02 g03 g10 g11 g12 g13
  obtain ⟨R, hR⟩ : ∃ R, hasV vs = R := ⟨_, rfl⟩
  rw [hR]
  unfold hasV at hR
  have hm0 : vs.getD 0 Val.none ∈ vs := by rw [List.getD_eq_getElem?_getD, List.getElem?_eq_getElem (by omega)]; exact List.getElem_mem _
  have hv0 := valid_f (hv _ hm0)
  obtain ⟨x0, hx0⟩ : ∃ x, vs.getD 0 Val.none = x := ⟨_, rfl⟩
  obtain ⟨x1, hx1⟩ : ∃ x, vs.getD 1 Val.none = x := ⟨_, rfl⟩
  rw [hx0, hx1] at hR
  rw [hx0] at g00 g01 g02 g03 ha0 hv0
  rw [hx1] at g10 g11 g12 g13 ha1
  have HX1 := Ad.mk hx1
  have HA0 := Ad.mk ha0
  have HA1 := Ad.mk ha1
  have HL := Ad.mk hl
  have HR := Ad.mk hR
  have HQ := Ad.mk hQ
  have HG := Ad.mk hg
  have HN := Ad.mk hn
  have HV := Ad.mk hv0
  rw [hn] at g00 g01 g02 g03 g10 g11 g12 g13 ⊢
  clear hl2 hR hl hQ hv hm0 hx0 ha0 hx1 ha1 hg hn hv0
  have hb2 : ((w.alloc (.cells #[.slice (some ad) 2 c] 40)).alloc box0).heap[w.heap.size + 1]? = some box0 := blk_new2 (by simp)
  unfold box0 at hb2
  have HB2 := Ad.mk hb2
  clear hb2
  by_cases hk3 : (x0.k == 3) = true
  · go_enter Tryz.func168, Tryz.ntmps168
    go_wp2_with (first
      | (go_at_call 189
         have hF := has1_fn w.heap.size (some ad) c vs Q _ (blk_alloc (blk_new w (.cells #[.slice (some ad) vs.length c] 40)) box0) HN.out (HL.out.below (below_alloc (below_alloc (Below.refl _ _) _) _))
         have hA := HA0.out.l.below (below_alloc (Below.refl _ _) box0)
         rw [HX1.out] at hF
         have hN := HN.out
         unfold box0 at hF hA
         rw [hN] at hF hA
         clear hN
         refine (containsFunc_calls _ (fun v => decide (cmpV v x1 = 0)) Q B0 d0 x0.items _ hA hF (by have := HV.out.l6; omega)).mono ?_
         clear hF hA
         rintro e1 w1 ⟨rfl, hb1⟩
         obtain ⟨k1, z1, y1, HB1⟩ := kcell (w.heap.size + 2) hb1 (by simp)
         clear hb1)
      | (go_at_call 188; refine (ofBool_calls (fun _ => False) _ _).mono ?_; rintro e3 w3 ⟨A3, c3, rfl, ha3, hb3⟩; obtain ⟨k3, z3, y3, HB3⟩ := kcell (w.heap.size + 2) hb3 y1; have HA3 := Ad.mk ha3; clear ha3 hb3))
    have e : R = Val.bool (x0.items.any fun v => decide (cmpV v x1 = 0)) := by rw [← HR.out, hk3]; rfl
    rw [e]
    exact RetV.fin HA3.out rfl rfl rfl (blk_below HB2.out (below_then HB1.out HB3.out)) rfl (below_then (below_alloc (below_alloc (Below.refl _ _) _) _) (below_then HB1.out HB3.out)) (Nat.le_succ _) (fun x _ hq => by have := y3; simp at hq; omega)
  · have hk3' : (x0.k == 3) = false := by simpa using hk3
    rw [hk3', cond_false] at HR
    by_cases hk2 : (x0.k == 2) = true
    · by_cases hj2 : (x1.k == 2) = true
      · obtain ⟨m, hm⟩ := (HG.out.below (below_alloc (below_alloc (Below.refl _ _) (.cells #[.slice (some ad) 2 c] 40)) box0)).ml
        unfold box0 at hm
        have n0 := blk_cell (blk_alloc (blk_new w (.cells #[.slice (some ad) 2 c] 40)) box0) 0
        unfold box0 at n0
        have hs := HV.out.s24
        have hbl : ad.block < w.heap.size := by obtain ⟨ad', _, _, he, hc, _⟩ := HL.out.at 0 (by have := HN.out; omega); injection he with he; subst he; exact (add_block ad 0) ▸ World.block_lt_of_cell? _ _ hc
        have hne1 : ¬ ad.block = w.heap.size + 1 := by omega
        have hne2 : ¬ w.heap.size + 1 = ad.block := by omega
        have h8 : 8 < w.heap.size := by obtain ⟨m', hm'⟩ := HG.out.ml; exact World.block_lt_of_cell? _ _ hm'
        have hne3 : ¬ 8 = w.heap.size + 1 := by omega
        have hne4 : ¬ w.heap.size + 1 = 8 := by omega
        go_enter Tryz.func168, Tryz.ntmps168
        go_wp2_with fail
        go_region_held3 (fun w' => w'.cell? ⟨w.heap.size, 0, none⟩ = some (.slice (some ad) 2 c) ∧ w'.cell? ⟨ad.block, ad.off + 2, none⟩ = some (.string x0.s) ∧ w'.cell? ⟨ad.block, ad.off + 4 + 2, none⟩ = some (.string x1.s) ∧ w'.cell? ⟨8, 0, none⟩ = some (.int .i64 m)) (first | ((with_reducible refine ⟨cell_below hb3 ?_, cell_below hb3 ?_, cell_below hb3 ?_, cell_below hb3 ?_⟩) <;> assumption) | go_keep)
          (first
          | ((go_at_call 191; refine (Tryz.strings_Contains x0.s x1.s m _ (by omega) (by first | assumption | exact (World.drew_cell ..).trans (by assumption))).mono ?_; rintro e1 w1 ⟨rfl, rfl⟩))
          | ((go_at_call 188; refine (ofBool_calls (fun _ => False) _ _).mono ?_; rintro e3 w3 ⟨A3, c3, rfl, ha3, hb3⟩; obtain ⟨k3, z3, y3, HB3⟩ := kcell (w.heap.size + 2) hb3 (by simp); have HA3 := Ad.mk ha3; clear ha3))
          )
        go_wp2_with fail
        have e : R = Val.bool (Lib.contains x0.s.data.toList x1.s.data.toList) := by rw [← HR.out, hk2, hj2]; rfl
        rw [e]
        exact RetV.fin HA3.out rfl rfl rfl (blk_below HB2.out (below_then (Below.refl _ _).drew HB3.out)) rfl (below_then (below_alloc (below_alloc (Below.refl _ _) _) _) (below_then (Below.refl _ _).drew HB3.out)) (Nat.le_succ _) (fun x _ hq => by simp at hq; omega)
      · have hj2' : (x1.k == 2) = false := by simpa using hj2
        go_enter Tryz.func168, Tryz.ntmps168
        go_wp2_with fail
        have e : R = Val.none := by rw [← HR.out, hk2, hj2']; rfl
        rw [e]
        exact RetV.fin0 (VA.none (fun _ => False) (w.alloc (.cells #[.slice (some ad) 2 c] 40)) Option.none 0) rfl rfl rfl (by simp) (below_alloc (Below.refl _ _) _) (fun _ _ h => h.elim)
    · have hk2' : (x0.k == 2) = false := by simpa using hk2
      go_enter Tryz.func168, Tryz.ntmps168
      go_wp2_with fail
      have e : R = Val.none := by rw [← HR.out, hk2']; rfl
      rw [e]
      exact RetV.fin0 (VA.none (fun _ => False) (w.alloc (.cells #[.slice (some ad) 2 c] 40)) Option.none 0) rfl rfl rfl (by simp) (below_alloc (Below.refl _ _) _) (fun _ _ h => h.elim)⟩
end Go.Proofs.YtahnelihohmjfaaGreatDoor.V
