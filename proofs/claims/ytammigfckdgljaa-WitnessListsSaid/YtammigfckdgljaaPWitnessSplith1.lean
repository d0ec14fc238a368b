import Derived.Test.YtammigfckdgljaaPWitnessSplith0
namespace Go.Proofs.Ytammigfckdgljaa.PWitnessSplit
open Go.RowKit Go.Maps Go.ChangeMaps Go.Proofs.YtammigfckdgljaaW.PrintWords Go.Proofs.YtammigfckdgljaaW.PrintLast Go.Proofs.YtammigfckdgljaaW.PrintMore
set_option linter.unusedVariables false
set_option linter.unusedSimpArgs false

/-! ### (witness.copies).parts: function 39 -/
structure Sc where
  c : Int → Int
  ev : List S48
  bf : List Bool
def sc1 (id : Int) (s : Sc) (t : S46) : Sc :=
  if t.f0 = 3 ∧ t.f3 = id then ⟨fun q => if q = t.f1 then s.c t.f1 + 1 else s.c q, s.ev, s.bf⟩ else if t.f0 = 1 then ⟨s.c, s.ev ++ [⟨t.f1, t.f2⟩], s.bf ++ [s.c t.f1 == 0]⟩ else s
def sc (id : Int) (l : List S46) : Sc := l.foldl (sc1 id) ⟨fun _ => 0, [], []⟩
theorem sc_snoc (id : Int) (l : List S46) (i : Nat) (h : i < l.length) : sc id (l.take (i + 1)) = sc1 id (sc id (l.take i)) (rd_T46 l i) := by
  unfold sc
  rw [List.take_succ_eq_append_getElem h, List.foldl_append]
  simp [rd_T46, List.getD_eq_getElem?_getD, List.getElem?_eq_getElem h]
theorem sc_c (id : Int) : ∀ (l : List S46) (s : Sc), (∀ q, 0 ≤ s.c q) → ∀ q, 0 ≤ (l.foldl (sc1 id) s).c q ∧ (l.foldl (sc1 id) s).c q ≤ s.c q + l.length ∧ (l.foldl (sc1 id) s).ev.length ≤ s.ev.length + l.length ∧ (l.foldl (sc1 id) s).bf.length ≤ s.bf.length + l.length
  | [], s, h, q => by simp [h q]
  | t :: r, s, h, q => by
    have h1 : ∀ q, 0 ≤ (sc1 id s t).c q ∧ (sc1 id s t).c q ≤ s.c q + 1 ∧ (sc1 id s t).ev.length ≤ s.ev.length + 1 ∧ (sc1 id s t).bf.length ≤ s.bf.length + 1 := by
      intro q
      have := h q
      unfold sc1
      split
      · simp only
        split
        · rename_i hq; subst hq; simp; omega
        · simp; omega
      · split <;> simp <;> omega
    obtain ⟨a1, a2, a3, a4⟩ := sc_c id r (sc1 id s t) (fun q => (h1 q).1) q
    obtain ⟨b1, b2, b3, b4⟩ := h1 q
    simp only [List.foldl_cons, List.length_cons]
    refine ⟨a1, ?_, ?_, ?_⟩ <;> push_cast <;> omega
theorem sc_le (id : Int) (l : List S46) (q : Int) : 0 ≤ (sc id l).c q ∧ (sc id l).c q ≤ l.length ∧ (sc id l).ev.length ≤ l.length ∧ (sc id l).bf.length ≤ l.length := by
  obtain ⟨h1, h2, h3, h4⟩ := sc_c id l ⟨fun _ => 0, [], []⟩ (fun _ => Int.le_refl 0) q
  simp at h2 h3 h4
  exact ⟨h1, h2, h3, h4⟩
def oncs (c : Int → Int) (tasks : Int) : Bool := (List.range tasks.toNat).all fun t => c t == 1
def partsP (id tasks : Int) (seg : List S46) : List S48 × List Bool × Int :=
  if oncs (sc id seg).c tasks = true then ((sc id seg).ev, (sc id seg).bf, 0) else ([], [], 181)
theorem oncs_yes (c : Int → Int) (tasks : Int) (h : ∀ t : Nat, (t : Int) < tasks → c t = 1) : oncs c tasks = true := by
  unfold oncs
  rw [List.all_eq_true]
  intro t ht
  have := List.mem_range.1 ht
  simpa using h t (by omega)
theorem oncs_no (c : Int → Int) (tasks : Int) (j : Nat) (hj : (j : Int) < tasks) (h : c j ≠ 1) : oncs c tasks = false := by
  rw [Bool.eq_false_iff]
  intro ho
  unfold oncs at ho
  rw [List.all_eq_true] at ho
  exact h (by simpa using ho j (List.mem_range.2 (by omega)))
theorem grown_step {w W w1 : World} {b : Nat} {row : Option Nat} (h : w.grownBy W (some b)) (hg : W.grownBy w1 row) (hr : row = some b ∨ ∀ k, row = some k → w.heap.size ≤ k) : w.grownBy w1 (some b) := by
  refine ⟨hg.os.trans h.os, hg.tape.trans h.tape, hg.output.trans h.output, Nat.le_trans h.size hg.size, fun i hi hne => ?_⟩
  refine (hg.block i (Nat.lt_of_lt_of_le hi h.size) ?_).trans (h.block i hi hne)
  rcases hr with rfl | hr
  · exact hne
  · intro he
    have := hr i he.symm
    omega
theorem cell_grown {w W : World} {b : Nat} (hg : w.grownBy W (some b)) (hm : isMapAt w b) {a : Addr} {v : Value} (h : w.cell? a = some v) : W.cell? a = some v := by
  have hlt := World.block_lt_of_cell? w a h
  have hne : some a.block ≠ some b := by
    intro he
    injection he with he
    obtain ⟨es, cl, hb⟩ := hm
    rw [← he] at hb
    simp [World.cell?, hb] at h
  have := hg.block a.block hlt hne
  unfold World.cell? at h ⊢
  rw [this]
  exact h
theorem grown_below {w W : World} {b : Nat} (h : Below w.heap.size w W) : w.grownBy W (some b) := ⟨h.os, h.tape, h.output, h.size, fun i hi _ => h.block i hi⟩
theorem C46_grown {w W : World} {b n : Nat} {A : Option Addr} {xs : List S46} (h : Kd.C k46 w A n xs) (hg : w.grownBy W (some b)) (hm : isMapAt w b) : Kd.C k46 W A n xs := by
  refine ⟨h.1, h.2.1, fun hn => ?_⟩
  obtain ⟨ad, e, hc⟩ := h.2.2 hn
  refine ⟨ad, e, fun j p hj => ?_⟩
  obtain ⟨c, hs, hr, hcell⟩ := hc j p hj
  obtain rfl := k46_open hr
  exact ⟨_, hs, k46_mk W p, fun i u hu => cell_grown hg hm (hcell i u hu)⟩
theorem isMapAt.grown {w W : World} {b : Nat} (h : isMapAt w b) (hb : Below w.heap.size w W) : isMapAt W b := by
  obtain ⟨es, cl, hm⟩ := h
  exact ⟨es, cl, (hb.block b (Array.getElem?_eq_some_iff.1 hm).1).trans hm⟩

theorem blk_grown {w W : World} {b g : Nat} {o : Obj} (hg : w.grownBy W (some b)) (hne : g ≠ b) (h : w.heap[g]? = some o) : W.heap[g]? = some o :=
  (hg.block g (Array.getElem?_eq_some_iff.1 h).1 (by intro he; injection he with he; exact hne he)).trans h
theorem blk_row {α : Type} {d : Kd α} {e base : Nat} {ok : Nat → Prop} {w W : World} {v : Value} {xs : List α} {g t : Nat} {cs : Array Value} (hR : d.R e w base ok v xs) (hg : w.grownBy W v.ownBlock) (h : w.heap[g]? = some (.cells cs t (0, 0))) (hne : e ≠ t) : W.heap[g]? = some (.cells cs t (0, 0)) :=
  (hg.block g (Array.getElem?_eq_some_iff.1 h).1 (Kd.R_ne hR h hne)).trans h
theorem row_new {α : Type} {d : Kd α} {e base : Nat} {ok : Nat → Prop} {w : World} {v : Value} {xs : List α} (hR : d.R e w base ok v xs) : ∀ k, v.ownBlock = some k → base ≤ k := by
  obtain ⟨inner, ho⟩ := Kd.R_own hR
  exact own_base ho
theorem info4 : (Try.prog.info? 4).map (fun i => (i.zero, i.size, i.bytes)) = some (some (.bool false), 1, 1) := by kernel_rfl
def PInv (w : World) (b : Nat) (id : Int) (xs : List S46) (en : Nat) (v8 v9 v23 : Value) (wr : World) : Prop :=
  ∃ i : Nat, i ≤ en ∧ v23 = .int .i64 i ∧ MapI wr b i (sc id (xs.take i)).c ∧ Kd.R k48 48 wr w.heap.size (fun _ => True) v8 (sc id (xs.take i)).ev ∧ Kd.R Kd.bool 4 wr w.heap.size (fun _ => True) v9 (sc id (xs.take i)).bf ∧
    w.grownBy wr (some b) ∧ wr.heap[w.heap.size]? = some (.cells #[.map (some b)] 75 (0, 0)) ∧ w.heap.size + 2 ≤ wr.heap.size
def PartsPost (w : World) (b : Nat) (r : List S48 × List Bool × Int) (e : Ending) (w' : World) : Prop :=
  ∃ v1 v2 : Value, e = .returned (.tuple #[v1, v2, .int .i64 r.2.2]) ∧ Kd.R k48 48 w' w.heap.size (fun _ => True) v1 r.1 ∧ Kd.R Kd.bool 4 w' w.heap.size (fun _ => True) v2 r.2.1 ∧ w.grownBy w' (some b) ∧ isMapAt w' b

set_option maxHeartbeats 4000000 in
set_option maxRecDepth 100000 in
theorem parts_calls (k b : Nat) (bg : Int) (A1 : Option Addr) (c1 : Nat) (xs : List S46) (id tasks : Int) (en : Nat) (w : World)
    (hr : Kd.C k46 w A1 xs.length xs) (hc : xs.length ≤ c1) (hlen : xs.length * 32 ≤ 140737488351232)
    (hend : witness_life_end.f k bg xs id = some (en : Int)) (hen : en ≤ xs.length)
    (hok : ∀ j : Nat, j < en → 0 ≤ (rd_T46 xs j).f1 ∧ (rd_T46 xs j).f1 ≤ 12) (hmap : isMapAt w b) (ht0 : 0 ≤ tasks) (ht : tasks ≤ 12) :
    Calls Try.prog 39 #[.agg #[.map (some b)], .agg #[.int .i64 bg, .slice A1 xs.length c1], .int .i64 id, .int .i64 tasks] w (PartsPost w b (partsP id tasks (xs.take en))) := by
  have HR := Aside0.mk hr
  have HM := Aside0.mk hmap
  have HOK := Aside0.mk hok
  have HE := Aside0.mk hend
  have hen2 : (en : Int) ≤ (c1 : Int) := by omega
  have hen0 : (0 : Int) ≤ (en : Int) := by omega
  have hbl := hmap.lt
  clear hr hmap hok hend
  go_enter Try.func39, Try.ntmps39
  go_wp2_with (first | ((with_reducible refine wp_mapI_clear (b := b) rfl (.tmp 15) rfl ?hm ?hh ?_); (case hm => rfl); (case hh => exact HM.out.grown (by repeat (first | exact Below.refl _ _ | apply below_alloc))); intro w1 hm1 hg1))
  have q0 : w1.heap[w.heap.size]? = some (.cells #[.map (some b)] 75 (0, 0)) := by
    refine blk_grown hg1 (by omega) ?_
    exact blk_alloc (Go.heap_alloc_new w _) _
  have q1 : w1.cell? ⟨w.heap.size + 1, 0, none⟩ = some (.int .i64 bg) := by
    refine cell_grown hg1 (HM.out.grown (by repeat (first | exact Below.refl _ _ | apply below_alloc))) ?_
    go_simp
  have q2 : w1.cell? ⟨w.heap.size + 1, 1, none⟩ = some (.slice A1 xs.length c1) := by
    refine cell_grown hg1 (HM.out.grown (by repeat (first | exact Below.refl _ _ | apply below_alloc))) ?_
    go_simp
  have G1 := Aside0.mk (grown_step (w := w) (grown_below (by repeat (first | exact Below.refl _ _ | apply below_alloc))) hg1 (.inl rfl))
  have M1 := Aside0.mk hm1
  have Z1 : w.heap.size + 2 ≤ w1.heap.size := by have := hg1.size; simp at this; omega
  clear hg1 hm1
  have hrw : Kd.C k46 w1 A1 xs.length xs := C46_grown HR.out G1.out HM.out
  go_region_held3 (fun w' => w'.cell? ⟨w.heap.size + 1, 0, none⟩ = some (.int .i64 bg) ∧ w'.cell? ⟨w.heap.size + 1, 1, none⟩ = some (.slice A1 xs.length c1)) (first | go_keep | exact ⟨pw_cell_below hb2 q1, pw_cell_below hb2 q2⟩)
    ((go_at_call 43; refine (witness_life_end.calls k bg A1 c1 xs id en _ ?_ hc HE.out).mono ?_; (exact hrw); rintro e w2 ⟨rfl, hb2'⟩; have hb2 : Below w1.heap.size w1 w2 := ⟨hb2'.os, hb2'.tape, hb2'.output, hb2'.size, hb2'.block⟩; clear hb2'))
  go_wp2
  have hB2 := Aside0.mk hb2
  have Q0 := Aside0.mk ((hb2.block w.heap.size (Array.getElem?_eq_some_iff.1 q0).1).trans q0)
  have G2 := Aside0.mk (grown_step (row := none) G1.out (grown_of_below hb2 none) (.inr (fun k hk => by cases hk)))
  have M2 := Aside0.mk (M1.out.below hb2)
  have Z2 : w.heap.size + 2 ≤ w2.heap.size := by have := hb2.size; omega
  clear q0 q1 q2 hrw hb2 G1 M1 hB2
  go_loopw [8, 9, 23] (fun v8 v9 v23 wr => PInv w b id xs en v8 v9 v23 wr) (fun _ _ v23 _ => en - (intOf v23).toNat)
  case atStart => exact ⟨0, Nat.zero_le _, rfl, M2.out, Kd.R_nil _ _ _ _ _, Kd.R_nil _ _ _ _ _, G2.out, Q0.out, Z2⟩
  case round =>
    obtain ⟨i, hi, rfl, hm, hr8, hr9, hg, hq, hz⟩ := hrel
    have HM1 := Aside0.mk hm
    have H8 := Aside0.mk hr8
    have H9 := Aside0.mk hr9
    have HG := Aside0.mk hg
    have HQ := Aside0.mk hq
    clear hm hr8 hr9 hg hq M2 G2 Q0
    by_cases hlt : i < en
    · obtain ⟨ad, e1, g0, g1, g2, g3⟩ := at_T46 HR.out (i : Int) (by omega) (by omega)
      cases e1
      have hsc := sc_snoc id xs i (by omega)
      have hbd := HOK.out i hlt
      obtain ⟨⟨t0, t1, t2, t3⟩, ht⟩ : ∃ t, rd_T46 xs (i : Int) = t := ⟨_, rfl⟩
      rw [ht] at g0 g1 g2 g3 hbd hsc
      rw [Int.toNat_natCast] at g0 g1 g2 g3
      have hsb := sc_le id (xs.take i) t1
      have hli : (xs.take i).length ≤ i := List.length_take_le _ _
      obtain ⟨⟨cc, ev, bf⟩, hs⟩ : ∃ s, sc id (xs.take i) = s := ⟨_, rfl⟩
      rw [hs] at HM1 H8 H9 hsb hsc
      simp only at g0 g1 g2 g3 hbd hsb HM1 H8 H9
      obtain ⟨hc0, hc1, hev, hbf⟩ := hsb
      obtain ⟨hb0, hb1⟩ := hbd
      have HSC := Aside0.mk hsc
      clear hsc ht hs
      replace g0 := cell_grown HG.out HM.out g0
      replace g1 := cell_grown HG.out HM.out g1
      replace g2 := cell_grown HG.out HM.out g2
      replace g3 := cell_grown HG.out HM.out g3
      have x0 : wr.cell? ⟨w.heap.size, 0, none⟩ = some (.map (some b)) := blk_cell HQ.out 0
      have hlt0 : w.heap.size < wr.heap.size := by omega
      have hw1 : (Lit.int .i64 t1).wf = true := WalkArith.wf_i64 (by omega)
      by_cases c3 : t0 = 3 ∧ t3 = id
      · obtain ⟨c3a, c3b⟩ := c3
        have b3a : (t0 == 3) = true := beq_iff_eq.2 c3a
        have b3b : (t3 == id) = true := beq_iff_eq.2 c3b
        go_wp2_with (first
          | (at_lookup; go_loud (refine wp_mapI_look (b := b) (c := cc) (n := i) (by rfl) (.tmp 38) (.tmp 40) (by rfl) (by rfl) ?la t1 (by rfl) hw1 ?_); (case la => exact HM1.out.below (by repeat (first | exact Below.refl _ _ | apply below_alloc))))
          | (at_mapUpdate; go_loud (refine wp_mapI_put (b := b) (c := cc) (n := i) (by rfl) (.tmp 38) (.tmp 40) (.tmp 42) (by rfl) (by rfl) ?pa ?pb t1 (cc t1 + 1) (by rfl) (by rfl) hw1 ?pc ?_); (case pa => exact HM1.out.below (by repeat (first | exact Below.refl _ _ | apply below_alloc))); (case pb => (unfold maxLen; omega)); (case pc => exact WalkArith.wf_i64 (by omega)); intro w3 hm3 hg3))
        go_roundw
        case rel =>
          have hA := fun o => below_alloc (Below.refl wr.heap.size wr) o
          refine ⟨i + 1, by omega, by go_num, ?_, ?_, ?_, grown_step (grown_step HG.out (grown_of_below (hA _) none) (.inr (fun k hk => by cases hk))) hg3 (.inl rfl), ?_, ?_⟩
          · rw [HSC.out]; simpa [sc1, c3a, c3b] using hm3
          · rw [HSC.out]; simpa [sc1, c3a, c3b] using R_map (Kd.R_below H8.out (hA _)) (HM1.out.below (hA _)).at_ hg3
          · rw [HSC.out]; simpa [sc1, c3a, c3b] using R_map (Kd.R_below H9.out (hA _)) (HM1.out.below (hA _)).at_ hg3
          · exact blk_grown hg3 (by omega) (blk_alloc HQ.out _)
          · have := hg3.size; simp at this; omega
        case measure => simp [intOf]; omega
      · by_cases c1 : t0 = 1
        · have b1 : (t0 == 3) = false := beq_eq_false_iff_ne.2 (by omega)
          have b2 : (t0 == 1) = true := beq_iff_eq.2 c1
          have hA := fun o => below_alloc (Below.refl wr.heap.size wr) o
          have HA := Aside0.mk hA
          clear hA
          go_wp2_with (first
            | (at_builtin; go_loud (refine Kd.R_append k48 w.heap.size (by rfl) (.tmp 47) (.tmp 53) 24 48 (.agg #[.int .i64 0, .int .i64 0]) 16 (by rfl) Try.underlying24 info48 rfl (by decide) (by decide) u8 ev (⟨t1, t2⟩ : S48) [.int .i64 t1, .int .i64 t2] (fun _ => True) (fun _ => False) (by rfl) ?ah (k48_mkM _ _ _ _) (fun _ hk => hk.elim) (fun _ _ => trivial) (Kd.R_below H8.out (HA.out _)) (Below.refl _ _) ?ax ?al ?_); (case ah => exact congrArg (fun n => Value.slice (some ⟨n, 0, none⟩) 1 1) (by simp)); (case ax => simp; omega); (case al => omega); intro v8n w3 hR3 _ hg3 _; have y0 : w3.cell? ⟨w.heap.size, 0, none⟩ = some (.map (some b)) := blk_cell (blk_row (Kd.R_below H8.out (HA.out _)) hg3 (blk_alloc HQ.out _) (by decide)) 0; have y1 : w3.cell? ⟨wr.heap.size, 1, none⟩ = some (.int .i64 t1) := blk_cell (blk_row (Kd.R_below H8.out (HA.out _)) hg3 (Go.heap_alloc_new wr _) (by decide)) 1; have R3 := Aside0.mk hR3; have G3 := Aside0.mk hg3; clear hR3 hg3)
            | (at_lookup; go_loud (refine wp_mapI_look (b := b) (c := cc) (n := i) (by rfl) (.tmp 57) (.tmp 59) (by rfl) (by rfl) ?lb t1 (by rfl) hw1 ?_); go_loud (case lb => exact (HM1.out.below (HA.out _)).kept G3.out (own_ne_map H8.out HM1.out.at_)))
            | (at_builtin; go_loud (refine Kd.R_append Kd.bool w.heap.size (by rfl) (.tmp 55) (.tmp 62) 59 4 (.bool false) 1 (by rfl) Try.underlying59 info4 rfl (by decide) (by decide) u9 bf (cc t1 == 0) [.bool (cc t1 == 0)] (fun _ => True) (fun _ => False) (by rfl) (by rfl) rfl (fun _ hk => hk.elim) (fun _ _ => trivial) (R_row (Kd.R_below H9.out (HA.out _)) (Kd.R_below H8.out (HA.out _)) (by simp [Kd.bool, Kd.scalar]) G3.out) (Below.refl _ _) ?bs ?bl ?_); (case bs => have := G3.out.size; simp at this; omega); (case bl => omega); intro v9n w4 hR4 _ hg4 _))
          go_roundw
          case rel =>
            have hne : some b ≠ u8.ownBlock := own_ne_map H8.out HM1.out.at_
            have M3 : MapI w3 b i cc := (HM1.out.below (HA.out _)).kept G3.out hne
            have hr9 := R_row (Kd.R_below H9.out (HA.out _)) (Kd.R_below H8.out (HA.out _)) (by simp [Kd.bool, Kd.scalar]) G3.out
            refine ⟨i + 1, by omega, by go_num, ?_, ?_, ?_, ?_, ?_, ?_⟩
            · rw [HSC.out]; simpa [sc1, c1] using (M3.kept hg4 (own_ne_map hr9 M3.at_)).mono (Nat.le_succ i)
            · rw [HSC.out]; simpa [sc1, c1] using R_row R3.out hr9 (by simp [k48, Kd.iso, Kd.pair, Kd.int, Kd.scalar]) hg4
            · rw [HSC.out]; simpa [sc1, c1] using hR4
            · exact grown_step (grown_step (grown_step HG.out (grown_of_below (HA.out _) none) (.inr (fun k hk => by cases hk))) G3.out (.inr (row_new H8.out))) hg4 (.inr (row_new H9.out))
            · exact blk_row hr9 hg4 (blk_row (Kd.R_below H8.out (HA.out _)) G3.out (blk_alloc HQ.out _) (by decide)) (by decide)
            · have := G3.out.size; have := hg4.size; simp at *; omega
          case measure => simp [intOf]; omega
        · have b1 : (t0 == 3) = false ∨ (t0 == 3) = true ∧ (t3 == id) = false := by
            by_cases h3 : t0 = 3
            · exact .inr ⟨beq_iff_eq.2 h3, beq_eq_false_iff_ne.2 (fun h => c3 ⟨h3, h⟩)⟩
            · exact .inl (beq_eq_false_iff_ne.2 h3)
          have b2 : (t0 == 1) = false := beq_eq_false_iff_ne.2 c1
          have hA := fun o => below_alloc (Below.refl wr.heap.size wr) o
          have HA := Aside0.mk hA
          clear hA
          rcases b1 with b1 | ⟨b1, b3⟩
          all_goals
            go_wp2_with fail
            go_roundw
            case rel =>
              refine ⟨i + 1, by omega, by go_num, ?_, ?_, ?_, grown_step HG.out (grown_of_below (HA.out _) none) (.inr (fun k hk => by cases hk)), blk_alloc HQ.out _, ?_⟩
              · rw [HSC.out]; simpa [sc1, c1, c3] using (HM1.out.below (HA.out _)).mono (Nat.le_succ i)
              · rw [HSC.out]; simpa [sc1, c1, c3] using Kd.R_below H8.out (HA.out _)
              · rw [HSC.out]; simpa [sc1, c1, c3] using Kd.R_below H9.out (HA.out _)
              · simp; omega
            case measure => simp [intOf]; omega
    · obtain rfl : i = en := by omega
      obtain ⟨⟨cc, ev, bf⟩, hs⟩ : ∃ s, sc id (xs.take i) = s := ⟨_, rfl⟩
      rw [hs] at HM1 H8 H9
      simp only at HM1 H8 H9
      have HS := Aside0.mk hs
      have x0 : wr.cell? ⟨w.heap.size, 0, none⟩ = some (.map (some b)) := blk_cell HQ.out 0
      clear hs
      generalize u8 = X8 at *
      generalize u9 = X9 at *
      go_wp2_with fail
      go_loop [8, 9, 66] (fun v8 v9 v66 => ∃ j : Nat, v8 = X8 ∧ v9 = X9 ∧ (j : Int) ≤ tasks ∧ v66 = .int .i64 j ∧ Aside0 (∀ t : Nat, t < j → cc t = 1)) (fun _ _ v66 => tasks.toNat - (intOf v66).toNat)
      case atStart => exact ⟨0, rfl, rfl, ht0, rfl, ⟨fun t ht => by omega⟩⟩
      case round =>
        obtain ⟨j, rfl, rfl, hj, rfl, HJ⟩ := hrel
        have hwj : (Lit.int .i64 (j : Int)).wf = true := WalkArith.wf_i64 (by omega)
        by_cases hlj : (j : Int) < tasks
        · by_cases h1 : cc j = 1
          · have hb1 : (cc (j : Int) != 1) = false := by simp [h1]
            have H1 := Aside0.mk h1
            clear h1
            go_wp2_with (at_lookup; refine wp_mapI_look (b := b) (c := cc) (n := i) (by rfl) (.tmp 70) (.tmp 71) (by rfl) (by rfl) HM1.out (j : Int) (by rfl) hwj ?_)
            go_round
            case rel =>
              refine ⟨j + 1, rfl, rfl, by omega, by go_num, ⟨fun t ht => ?_⟩⟩
              rcases Nat.lt_succ_iff_lt_or_eq.1 ht with h | h
              · exact HJ.out t h
              · subst h; exact H1.out
            case measure => simp [intOf]; omega
          · have hb1 : (cc (j : Int) != 1) = true := by simp [h1]
            have H1 := Aside0.mk h1
            clear h1
            go_wp2_with (at_lookup; refine wp_mapI_look (b := b) (c := cc) (n := i) (by rfl) (.tmp 70) (.tmp 71) (by rfl) (by rfl) HM1.out (j : Int) (by rfl) hwj ?_)
            go_ret3
            unfold PartsPost partsP
            rw [HS.out, if_neg (by rw [oncs_no cc tasks j hlj H1.out]; decide)]
            exact ⟨_, _, rfl, Kd.R_nil _ _ _ _ _, Kd.R_nil _ _ _ _ _, HG.out, HM1.out.at_⟩
        · go_wp2_with fail
          go_ret3
          unfold PartsPost partsP
          rw [HS.out, if_pos (oncs_yes cc tasks (fun t ht => HJ.out t (by omega)))]
          exact ⟨_, _, rfl, H8.out, H9.out, HG.out, HM1.out.at_⟩
end Go.Proofs.Ytammigfckdgljaa.PWitnessSplit
