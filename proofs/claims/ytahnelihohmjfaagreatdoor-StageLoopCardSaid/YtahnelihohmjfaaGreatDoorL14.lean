/- A part of the walk (V39a, V39b, V66r, V66, V66b, V39, V39c, V66c). -/
import Derived.Test.YtahnelihohmjfaaGreatDoorL11
import Derived.Deep.RegionLaw
import Derived.Deep.DeepMust
namespace Go.Proofs.YtahnelihohmjfaaGreatDoor.V
open Go.RowKit
set_option linter.unusedVariables false
set_option linter.unusedSimpArgs false
/-! ### a drawn region by an invariant: whichever operations are done -/
theorem wpAny_inv {P : Program} {ops : Array Oper} {Q : Exit → Act → World → Prop} (Inv : (Nat → Bool) → Act → World → Prop)
    (hacyc : ops.toList.zipIdx.all (fun x => x.1.after.all fun e => !Region.binds .any e || decide (e.on < x.2)) = true)
    (step : ∀ (L : Nat → Bool) (i : Nat) (o : Oper) (a : Act) (w : World), ops[i]? = some o → L i = false → (∀ e ∈ o.after, Region.binds .any e = true → L e.on = true) → Inv L a w → wpOp P ops Q i (Inv (fun j => if j = i then true else L j)) a w)
    (fin : ∀ L a w, (∀ i, i < ops.size → L i = true) → Inv L a w → Q .normal a w) :
    ∀ (fuel : Nat) (listed : Array Bool) (a : Act) (w : World), listed.size = ops.size → listed.toList.countP (fun b => !b) ≤ fuel → Inv (fun j => listed.getD j true) a w → wpAny P .any ops Q fuel listed a w := by
  have hall : ∀ (listed : Array Bool), listed.size = ops.size → Region.ready .any ops listed = [] → ∀ i, i < ops.size → listed.getD i true = true := by
    intro listed hs hr i
    induction i using Nat.strongRecOn with
    | ind i ih =>
      intro hi
      cases hb : listed.getD i true with
      | true => rfl
      | false =>
        exfalso
        have hin : i ∈ Region.ready .any ops listed := by
          unfold Region.ready
          rw [List.mem_filter]
          refine ⟨by simpa using hi, ?_⟩
          rw [hb]
          have ho : ops[i]? = some ops[i] := Array.getElem?_eq_getElem hi
          simp only [ho, Option.map_some, Option.getD_some, Bool.not_false, Bool.true_and]
          rw [Array.all_eq_true]
          intro k hk
          cases hbd : Region.binds .any ops[i].after[k] with
          | false => simp
          | true =>
          have hlt : (ops[i].after[k]).on < i := by
            have h1 := List.all_eq_true.1 hacyc (ops[i], i) (by
              rw [List.mk_mem_zipIdx_iff_getElem?]
              simp [hi])
            have h2 := Array.all_eq_true.1 h1 k hk
            simpa [hbd] using h2
          have h3 := ih _ hlt (Nat.lt_trans hlt hi)
          have h4 : listed.getD (ops[i].after[k]).on false = true := by
            have : (ops[i].after[k]).on < listed.size := by omega
            simpa [Array.getD, this] using h3
          simp [h4]
        rw [hr] at hin
        cases hin
  intro fuel
  induction fuel with
  | zero =>
    intro listed a w hs hc hinv
    have hz : ∀ i, i < ops.size → listed.getD i true = true := by
      intro i hi
      have h0 : listed.toList.countP (fun b => !b) = 0 := by omega
      rw [List.countP_eq_zero] at h0
      have hi' : i < listed.size := by omega
      have h1 := h0 listed[i] (by simp)
      simpa [Array.getD, hi'] using h1
    refine ⟨?_, fin _ a w hz hinv⟩
    unfold Region.ready
    rw [List.filter_eq_nil_iff]
    intro i hi
    have := hz i (by simpa using hi)
    simp [this]
  | succ fuel ih =>
    intro listed a w hs hc hinv
    refine ⟨fun hr => fin _ a w (hall listed hs hr) hinv, fun i hi => ?_⟩
    unfold Region.ready at hi
    rw [List.mem_filter] at hi
    obtain ⟨h1, h2⟩ := hi
    have hi' : i < ops.size := by simpa using h1
    have hil : i < listed.size := by omega
    have ho : ops[i]? = some ops[i] := Array.getElem?_eq_getElem hi'
    simp only [ho, Option.map_some, Option.getD_some, Bool.and_eq_true, Bool.not_eq_true'] at h2
    obtain ⟨h3, h4⟩ := h2
    refine wpOp_mono ?_ (step (fun j => listed.getD j true) i ops[i] a w ho h3 ?_ hinv)
    · intro a' w' hinv'
      refine ih _ a' w' (by simpa using hs) ?_ ?_
      · rw [Array.toList_setIfInBounds, List.countP_set (by simpa using hil)]
        have h5 : listed.toList[i]'(by simpa using hil) = false := by simpa [Array.getD, hil] using h3
        have h6 : 0 < listed.toList.countP (fun b => !b) := List.countP_pos_iff.2 ⟨false, by rw [← h5]; simp, rfl⟩
        simp only [h5, Bool.not_false, if_true, Bool.not_true, Bool.false_eq_true, if_false]
        omega
      · have he : (fun j => (listed.setIfInBounds i true).getD j true) = (fun j => if j = i then true else listed.getD j true) := by
          funext j
          simp only [Array.getD_eq_getD_getElem?, Array.getElem?_setIfInBounds]
          by_cases hji : i = j
          · subst hji; simp [hil]
          · simp [hji, Ne.symm hji]
        rw [he]
        exact hinv'
    · intro e he hb
      rw [Array.all_eq_true] at h4
      obtain ⟨k, hk, rfl⟩ := Array.mem_iff_getElem.1 he
      have h5 := h4 k hk
      simp only [hb, Bool.not_true, Bool.false_or] at h5
      cases hc : listed.getD ops[i].after[k].on true with
      | true => rfl
      | false =>
        have : ops[i].after[k].on < listed.size := by
          by_cases hh : ops[i].after[k].on < listed.size
          · exact hh
          · simp [Array.getD, hh] at h5
        simp only [Array.getD, this, dite_true] at hc h5
        simp_all
end Go.Proofs.YtahnelihohmjfaaGreatDoor.V
namespace Go.Proofs.YtahnelihohmjfaaGreatDoor.V
open Go.RowKit
set_option linter.unusedVariables false
set_option linter.unusedSimpArgs false
/-! ### boxes of closures, filled in whatever order -/
theorem wpOp_of {P : Program} {ops : Array Oper} {o : Oper} {i : Nat} {a : Act} {w : World} {K : Act → World → Prop} {Q : Exit → Act → World → Prop} (ho : ops[i]? = some o) (hg : o.guard = none) (h : o.wp P a w K Q) : wpOp P ops Q i K a w := by
  unfold wpOp
  simp only [ho]
  rw [if_pos (by simp [Region.wanted, hg])]
  exact .inl h
theorem step_invokes {ops : Array Oper} {o : Oper} {a : Act} {w : World} {K : Act → World → Prop} {Q : Exit → Act → World → Prop} {E : Prop} (hgd : o.guard = none) (x : Operand) (nm : String)
    (ho : o.op = .call { callee := .invoke x nm, args := #[], argTypes := #[] }) (T : TypeId) (q : Value) (k : Nat) (hx : a.eval x = .iface T q) (hm : ∀ w, (method 464 T q nm).run Tryz.prog w = .ok (k, q) w) (hk : ∀ args w, (callFunc k args).run Tryz.prog w = .ok (.enter k args) w)
    (h : Calls Tryz.prog k #[q] w (fun e w' => match e with | .returned u => K (a.put o.dst u) w' | .panicked c => Q (.panic c) a w' | .outgrown => LetsOut Q)) :
    if Region.wanted o (yielded ops a.tmps) = true then Oper.wp Tryz.prog o a w K Q else E := by
  have hw : Region.wanted o (yielded ops a.tmps) = true := by simp [Region.wanted, hgd]
  rw [if_pos hw]
  unfold Oper.wp execOp
  have hp : (Tryz.prog.types.size + Made.depth) = 464 := by kernel_rfl
  simp only [ho, resolve, hx, Sem.run_bind, Sem.run_pure, Result.andThen_ok, List.map_toArray, List.map_nil]
  simp [invoke, callMethod, go_sem]
  have hp' : Tryz.prog.types.size + 100 = 464 := by kernel_rfl
  simp [hp', hm, hk]
  rw [Oper.upon_enter]
  refine h.mono ?_
  intro e w' h
  cases e <;> exact h
theorem GVb.low {w : World} {g : Nat} (h : GVb w g) : GVb w (min g w.heap.size) := by
  obtain ⟨w0, h0, h1, h2⟩ := h
  exact ⟨w0, h0, h1, Nat.le_min.2 ⟨h2, h1.size⟩⟩
def isP (u : Value) (b : Nat) : Prop := u = .pointer (some ⟨b, 0, none⟩)
theorem isP_inj {b c : Nat} (h : isP (.pointer (some ⟨b, 0, none⟩)) c) : c = b := by
  simp [isP] at h
  exact h.symm
structure BoxI (n0 : Nat) (w : World) (la ls : Bool) (u f : Value) : Prop where
  no : la = false → ∀ b, ¬ isP u b
  yes : la = true → ∃ p x, u = .pointer (some ⟨p, 0, none⟩) ∧ n0 ≤ p ∧ w.heap[p]? = some (.cells #[x] 148 (0, 0)) ∧ (ls = true → x = f)
section
variable {n0 : Nat} {w w' : World} {la ls : Bool} {u f : Value}
theorem BoxI.below (h : BoxI n0 w la ls u f) (hb : Below w.heap.size w w') : BoxI n0 w' la ls u f :=
  ⟨h.no, fun e => let ⟨p, x, h1, h2, h3, h4⟩ := h.yes e; ⟨p, x, h1, h2, blk_below h3 hb, h4⟩⟩
theorem BoxI.new (hn : n0 ≤ w.heap.size) (x f : Value) : BoxI n0 (w.alloc (.cells #[x] 148)) true false (.pointer (some ⟨w.heap.size, 0, none⟩)) f :=
  ⟨fun h => (by cases h), fun _ => ⟨_, x, rfl, hn, blk_new _ _, fun h => (by cases h)⟩⟩
theorem BoxI.far (h : BoxI n0 w la ls u f) {p : Nat} (hp : ¬ isP u p) (v : Value) : BoxI n0 (w.setCell ⟨p, 0, none⟩ v) la ls u f :=
  ⟨h.no, fun e => let ⟨q, x, h1, h2, h3, h4⟩ := h.yes e; ⟨q, x, h1, h2, blk_far h3 (by rintro rfl; exact hp h1) v, h4⟩⟩
theorem BoxI.put {p : Nat} (h : BoxI n0 w true ls (.pointer (some ⟨p, 0, none⟩)) f) : BoxI n0 (w.setCell ⟨p, 0, none⟩ f) true true (.pointer (some ⟨p, 0, none⟩)) f :=
  ⟨fun h => (by cases h), fun _ => let ⟨q, x, h1, h2, h3, h4⟩ := h.yes rfl; by
    simp at h1; subst h1
    exact ⟨p, f, rfl, h2, blk_put h3 0 f rfl, fun _ => rfl⟩⟩
theorem BoxI.other (h : BoxI n0 w la false u f) (f' : Value) : BoxI n0 w la false u f' := ⟨h.no, fun e => let ⟨q, x, h1, h2, h3, _⟩ := h.yes e; ⟨q, x, h1, h2, h3, fun h => (by cases h)⟩⟩
theorem BoxI.lt (h : BoxI n0 w la ls u f) {b : Nat} (hb : isP u b) : n0 ≤ b ∧ b < w.heap.size := by
  cases la with
  | false => exact absurd hb (h.no rfl b)
  | true =>
    obtain ⟨q, x, h1, h2, h3, _⟩ := h.yes rfl
    rw [h1] at hb
    have := isP_inj hb
    subst this
    exact ⟨h2, blk_lt h3⟩
end
def ClI (X : Nat → Prop) (w : World) (lc : Bool) (f : Value) : Prop := lc = true → ∃ F, ∀ w2, Chg w w2 X → Ev w2 f F
theorem ClI.step {X X' : Nat → Prop} {w w' : World} {lc : Bool} {f : Value} (h : ClI X w lc f) (hc : ∀ w2, Chg w' w2 X' → Chg w w2 X) : ClI X' w' lc f := fun e => let ⟨F, h1⟩ := h e; ⟨F, fun w2 h2 => h1 w2 (hc w2 h2)⟩
def XX (X : Nat → Prop) (u1 u2 u3 : Value) (b : Nat) : Prop := X b ∨ isP u1 b ∨ isP u2 b ∨ isP u3 b
end Go.Proofs.YtahnelihohmjfaaGreatDoor.V
namespace Go.Proofs.YtahnelihohmjfaaGreatDoor.V
open Go.RowKit
set_option linter.unusedVariables false
set_option linter.unusedSimpArgs false
/-! ### rows of closures of the call's own -/
/-- v is a row of function values of the language (its block from base on), held by box b0; they stay what they are however the blocks of X, the box and the row change -/
structure FRow (X : Nat → Prop) (base b0 : Nat) (wr : World) (v : Value) (fs : List Value) (Fs : List (EnvV → Val)) : Prop where
  own : wr.ownsRow base 148 1 v fs.length fs
  n : fs.length = Fs.length
  ev : ∀ w2, Chg wr w2 (fun b => X b ∨ b = b0 ∨ some b = v.ownBlock) → ∀ i, i < fs.length → Ev w2 (fs.getD i undef) (Fs.getD i fun _ => Val.none)
theorem FRow.nil (X : Nat → Prop) (base b0 : Nat) (wr : World) : FRow X base b0 wr (.slice none 0 0) [] [] := ⟨World.ownsRow_nil _ _ _ _, rfl, fun _ _ i h => absurd h (by simp)⟩
theorem FRow.snoc {X : Nat → Prop} {base b0 g cap : Nat} {wr w1 wa w4 w5 : World} {v f : Value} {F : EnvV → Val} {fs : List Value} {Fs : List (EnvV → Val)} (h : FRow X base b0 wr v fs Fs) (hb1 : Below wr.heap.size wr w1) (hba : Below w1.heap.size w1 wa)
    (hf : ∀ w2, Chg w1 w2 (fun b => X b ∨ b = b0 ∨ some b = v.ownBlock) → Ev w2 f F)
    (hown : w4.ownsRow base 148 1 (.slice (some ⟨g, 0, none⟩) (fs.length + 1) cap) (fs.length + 1) (fs ++ [f])) (hgr : wa.grownBy w4 v.ownBlock) (hat : v.ownBlock = some g ∨ g = wa.heap.size) (hb0 : b0 < base) (hc5 : Chg w4 w5 (· = b0)) :
    FRow X base b0 w5 (.slice (some ⟨g, 0, none⟩) (fs.length + 1) cap) (fs ++ [f]) (Fs ++ [F]) := by
  have hca4 : Chg wa w4 (fun b => some b = v.ownBlock) := ⟨hgr.os, hgr.tape, hgr.output, hgr.size, fun i hi hn => hgr.block i hi hn⟩
  have hown5 := own_chg hown hc5 (fun q hq => by have := (own_lt hown q hq).1; omega)
  have hsub : ∀ (W w2 : World), Chg W wa (fun b => X b ∨ b = b0 ∨ some b = v.ownBlock) → Chg w5 w2 (fun b => X b ∨ b = b0 ∨ some b = (Value.slice (some ⟨g, 0, none⟩) (fs.length + 1) cap).ownBlock) → Chg W w2 (fun b => X b ∨ b = b0 ∨ some b = v.ownBlock) := by
    intro W w2 hW h5
    refine ((hW.then_ hca4 (fun q _ hq => .inr (.inr hq))).then_ hc5 (fun q _ hq => .inr (.inl hq))).then_ h5 (fun q hq h => ?_)
    rcases h with h | h | h
    · exact .inl h
    · exact .inr (.inl h)
    · simp only [Value.ownBlock, Option.some.injEq] at h
      subst h
      rcases hat with hat | hat
      · exact .inr (.inr hat.symm)
      · have := hW.size; omega
  refine ⟨by simpa using hown5, by simp [h.n], fun w2 hc2 i hi => ?_⟩
  simp only [List.length_append, List.length_cons, List.length_nil] at hi
  by_cases hlt : i < fs.length
  · have e1 : (fs ++ [f]).getD i undef = fs.getD i undef := by simp [List.getD_eq_getElem?_getD, List.getElem?_append_left hlt]
    have e2 : (Fs ++ [F]).getD i (fun _ => Val.none) = Fs.getD i (fun _ => Val.none) := by simp [List.getD_eq_getElem?_getD, List.getElem?_append_left (h.n ▸ hlt)]
    rw [e1, e2]
    exact h.ev w2 (hsub wr w2 (Chg.of_below (below_then hb1 hba)) hc2) i hlt
  · obtain rfl : i = fs.length := by omega
    have e1 : (fs ++ [f]).getD fs.length undef = f := by simp [List.getD_eq_getElem?_getD]
    have e2 : (Fs ++ [F]).getD fs.length (fun _ => Val.none) = F := by rw [h.n]; simp [List.getD_eq_getElem?_getD]
    rw [e1, e2]
    exact hf w2 (hsub w1 w2 (Chg.of_below hba) hc2)
/-- the row as all$1 reads it, in any later world -/
theorem FRow.out {X : Nat → Prop} {base b0 : Nat} {wr w2 : World} {v : Value} {fs : List Value} {Fs : List (EnvV → Val)} (h : FRow X base b0 wr v fs Fs) (hm : fs.length ≤ 1000) (hc : Chg wr w2 X) (hX : ∀ b, X b → b < base) : ∃ A c, v = .slice A fs.length c ∧ FnL w2 A c fs ∧ ∀ i, i < Fs.length → Ev w2 (fs.getD i undef) (Fs.getD i fun _ => Val.none) := by
  have hown := own_chg h.own hc (fun q hq hx => by have := (own_lt h.own q hq).1; have := hX q hx; omega)
  have hev := h.ev w2 (hc.sub fun _ _ hx => .inl hx)
  rw [h.n] at hev
  rcases hown.2 with ⟨rfl, h0⟩ | ⟨g, cap, cur, rfl, hg, hh, hn, hm', hs, ht⟩
  · exact ⟨none, 0, by rw [h0], ⟨by omega, hm, fun hp => absurd hp (by omega)⟩, hev⟩
  · refine ⟨_, _, rfl, ⟨hn, hm, fun hp => ⟨_, rfl, fun i hi => ?_⟩⟩, hev⟩
    have e1 : fs[i]? = some (fs.getD i undef) := by simp [List.getD_eq_getElem?_getD, List.getElem?_eq_getElem hi]
    rw [← ht, List.getElem?_take, if_pos (by omega)] at e1
    have e2 := blk_cell hh i
    rw [← Array.getElem?_toList, e1] at e2
    rw [ht] at e2
    rw [add_plain]
    exact e2
theorem infoF : (Tryz.prog.info? 148).map (fun i => (i.zero, i.size, i.bytes)) = some (some .nilFunc, 1, 8) := by kernel_rfl
end Go.Proofs.YtahnelihohmjfaaGreatDoor.V
namespace Go.Proofs.YtahnelihohmjfaaGreatDoor.V
open Go.RowKit
set_option linter.unusedVariables false
set_option linter.unusedSimpArgs false
theorem IfL.ad {Q : Nat → Prop} {w w' : World} {A : Option Addr} {c : Nat} {l : List Value} {X : Nat → Prop} (h : IfL Q w A c l) (hc : Chg w w' X) (hX : ∀ b, X b → Q b → w.heap.size ≤ b) (hp : 0 < l.length) : ∃ ad, A = some ad ∧ ∀ i, i < l.length → w'.cell? (ad.add i) = some (l.getD i undef) := by
  obtain ⟨g, rfl, hq, hl, hcell⟩ := h.h hp
  refine ⟨_, rfl, fun i hi => ?_⟩
  rw [add_plain]
  exact ((ccell hc).1 g i hl (fun hx => by have := hX g hx hq; omega)).trans (hcell i hi)
/-- what 'all' leaves -/
def ReadyL (X : Nat → Prop) (n : Nat) (w : World) (e : Ending) (w' : World) : Prop := ∃ f Fs, Fs.length = n ∧ e = .returned f ∧ (∀ w2, Chg w' w2 X → EvL w2 f Fs) ∧ Below w.heap.size w w'
def AL (X : Nat → Prop) (w : World) (i : Nat) (wr : World) : Prop := ∃ fs Fs v, fs.length = i ∧ wr.heap[w.heap.size]? = some (.cells #[v] 363 (0, 0)) ∧ FRow X (w.heap.size + 1) w.heap.size wr v fs Fs ∧ Below w.heap.size w wr
set_option maxHeartbeats 8000000 in
set_option maxRecDepth 100000 in
theorem all_calls (Q : Nat → Prop) (wN w : World) (X : Nat → Prop) (N0 : Nat) (A : Option Addr) (c : Nat) (l : List Value) (hcX : Chg wN w X) (hX : ∀ b, X b → (Q b → wN.heap.size ≤ b) ∧ N0 ≤ b ∧ b < w.heap.size) (hG : GVb w N0) (hI : IfL Q wN A c l) (hr : ∀ i, i < l.length → RdyOK Q wN (l.getD i undef)) :
    Calls Tryz.prog 286 #[.slice A l.length c] w (ReadyL X l.length w) := by
  obtain ⟨N1, hN1⟩ : ∃ n, min N0 w.heap.size = n := ⟨_, rfl⟩
  have HG := Ad.mk (hN1 ▸ hG.low)
  have HN : Ad (N1 ≤ N0 ∧ N1 ≤ w.heap.size ∧ wN.heap.size ≤ w.heap.size) := ⟨by omega, by omega, hcX.size⟩
  have HCX := Ad.mk hcX
  have HX := Ad.mk hX
  have HI := Ad.mk hI
  have HR := Ad.mk hr
  have hm := hI.m
  obtain ⟨i0, hi0, hz0, hz1, hz2⟩ := info_parts infoF
  have HF := Ad.mk (And.intro hi0 (And.intro hz0 (And.intro hz1 hz2)))
  have hmf : ∀ (fn : Fn) (first cap : Array Value) (w : World), (Instr.makeFunc fn first cap).run Tryz.prog w = .ok (.func fn first cap) w := fun _ _ _ _ => rfl
  clear hcX hX hG hI hr hN1 hi0 hz0 hz1 hz2
  go_enter Tryz.func286, Tryz.ntmps286
  go_wp2_with fail
  go_loopw [8] (fun v8 wr => ∃ i : Nat, i ≤ l.length ∧ v8 = .int .i64 i ∧ Ad (AL X w i wr)) (fun v8 _ => l.length - (intOf v8).toNat)
  case atStart => exact ⟨0, Nat.zero_le _, rfl, ⟨[], [], _, rfl, blk_new _ _, FRow.nil _ _ _ _, below_alloc (Below.refl _ _) _⟩⟩
  case round =>
    obtain ⟨i, hi, rfl, ⟨⟨fs, Fs, v, hfl, hblk, hrow, hbw⟩⟩⟩ := hrel
    by_cases hlt : i < l.length
    · have hcw : Chg wN wr X := HCX.out.trans (Chg.of_below hbw)
      obtain ⟨ad, rfl, hc⟩ := HI.out.ad hcw (fun b hx => (HX.out b hx).1) (by omega)
      have g0 := hc i hlt
      obtain ⟨T, q, k, hq, hm1, hk1, hcall⟩ := HR.out i hlt
      rw [hq] at g0
      have hXs : ∀ b, (X b ∨ b = w.heap.size ∨ some b = v.ownBlock) → (Q b → wN.heap.size ≤ b) ∧ N1 ≤ b ∧ b < wr.heap.size := by
        intro b hb
        have h1 := HN.out
        rcases hb with hb | hb | hb
        · have h2 := HX.out b hb
          have h3 := hbw.size
          exact ⟨h2.1, by omega, by omega⟩
        · have h3 := blk_lt hblk
          exact ⟨fun _ => by omega, by omega, by omega⟩
        · have h3 := own_lt hrow.own b hb.symm
          exact ⟨fun _ => by omega, by omega, by omega⟩
      have HC := Ad.mk (hcall (fun b => X b ∨ b = w.heap.size ∨ some b = v.ownBlock) N1 wr.drew ((hcw.sub fun _ _ h => .inl h).trans (Chg.of_below (Below.refl _ _).drew)) hXs (by obtain ⟨w0, h0, h1, h2⟩ := HG.out; exact ⟨w0, h0, below_then (below_then h1 hbw) (Below.refl _ _).drew, h2⟩))
      have HROW := Ad.mk hrow
      have HBW := Ad.mk hbw
      have HBLK := Ad.mk hblk
      have t0 : wr.cell? ⟨w.heap.size, 0, none⟩ = some v := blk_cell hblk 0
      have tf := fun j => blk_frozen hblk j
      have tl := blk_lt hblk
      have j0 : (0 : Int) ≤ (i : Int) := by omega
      have j1 : (i : Int) < (l.length : Int) := by omega
      clear hc hcall hcw hrow hbw hblk hXs hq
      go_wp2_with fail
      go_region_law (first
        | (refine step_invokes rfl _ _ rfl T q k (by rfl) hm1 hk1 ?_; refine HC.out.mono ?_; rintro e1 w1 ⟨f, F, rfl, hev, hb1⟩; obtain ⟨kf, cf, rfl, _⟩ := (hev w1 (Chg.refl _ _)).calls; have HB1 := Ad.mk (below_then (Below.refl _ wr).drew hb1); have HEV := Ad.mk hev; have X1 := Ad.mk (blk_below HBLK.out HB1.out); have u0 : w1.cell? ⟨w.heap.size, 0, none⟩ = some v := blk_cell X1.out 0; have uf := (fun j => blk_frozen X1.out j); have ul := blk_lt X1.out; clear hb1 hev)
        | (go_must (refine step_append_lies _ rfl _ _ 363 (by rfl) (w.heap.size + 1) 148 i0 _ 1 8 Tryz.underlying363 HF.out.1 HF.out.2.1 HF.out.2.2.1 HF.out.2.2.2 rfl (by omega) v fs.length fs (by rfl) (own_chg HROW.out.own (Chg.of_below (S := fun _ => False) (below_then HB1.out (below_alloc (Below.refl _ _) _))) (fun _ _ h => h)) ⟨w1.heap.size, 0, none⟩ 1 1 [.func (.func kf) #[] cf] (by rfl) rfl (World.news_of_block (blk_new _ _)) (by simp [Value.oneCell']) (by omega) (by unfold maxLen; omega) (by omega) (by simp; omega) _ rfl ?_); intro g2 cp w4 hown4 hgrow hat hlt4; have hx4 := (hgrow.block w.heap.size (by simp; omega) (fun h => by have := (own_lt HROW.out.own _ h.symm).1; omega)).trans (blk_alloc X1.out _); have v0 : w4.cell? ⟨w.heap.size, 0, none⟩ = some v := blk_cell hx4 0; have vf := (fun j => blk_frozen hx4 j); have vl := blk_lt hx4; have X4 := Ad.mk hx4; have HOWN := Ad.mk hown4; have HGR := Ad.mk hgrow; have HAT := Ad.mk hat; clear hx4 hown4 hgrow hat))
      all_goals
        go_wp2_with fail
        go_roundw
        case measure => simp [intOf]; omega
        case rel =>
          have hs := FRow.snoc HROW.out HB1.out (below_alloc (Below.refl _ _) _) HEV.out HOWN.out HGR.out HAT.out (Nat.lt_succ_self _) ((Chg.refl _ (· = w.heap.size)).set rfl 0 (.slice (some ⟨g2, 0, none⟩) (fs.length + 1) cp))
          have hblk := blk_put X4.out 0 (.slice (some ⟨g2, 0, none⟩) (fs.length + 1) cp) rfl
          have hc4 : Chg (w1.alloc (Obj.cells #[Value.func (Fn.func kf) #[] cf] 148)) w4 (fun b => some b = v.ownBlock) := ⟨HGR.out.os, HGR.out.tape, HGR.out.output, HGR.out.size, fun i hi hn => HGR.out.block i hi hn⟩
          have hbe := below_chg (below_chg (below_then HBW.out (below_then HB1.out (below_alloc (Below.refl _ _) _))) hc4 (fun b hb => by have := (own_lt HROW.out.own b hb.symm).1; omega)) ((Chg.refl w4 (· = w.heap.size)).set rfl 0 (.slice (some ⟨g2, 0, none⟩) (fs.length + 1) cp)) (fun b hb => by have h : b = w.heap.size := hb; omega)
          rw [hfl] at hs hblk hbe
          exact ⟨i + 1, by omega, by go_num, ⟨_, _, _, by simp [hfl], hblk, hs, hbe⟩⟩
    · have hil : fs.length = l.length := by omega
      have HXS : Ad (∀ b, X b → b < w.heap.size + 1) := ⟨fun b h => by have := (HX.out b h).2.2; omega⟩
      have HXB : Ad (¬ X w.heap.size) := ⟨fun h => by have := (HX.out _ h).2.2; omega⟩
      have HROW := Ad.mk hrow
      have HBLK := Ad.mk hblk
      have HBW := Ad.mk hbw
      clear hrow hblk hbw
      go_wp2_with fail
      go_ret
      refine ⟨_, Fs, by rw [← HROW.out.n, hil], rfl, fun w2 hc2 => ?_, HBW.out⟩
      obtain ⟨A', c', hv, hfnl, hev⟩ := HROW.out.out (by omega) hc2 HXS.out
      have hb2 := (hc2.block w.heap.size (blk_lt HBLK.out) HXB.out).trans HBLK.out
      rw [hv] at hb2
      refine ⟨⟨_, _, rfl, enters Tryz.func288 (by kernel_rfl) (by kernel_rfl), fun w' a E Q hb' hE hQ hok => all1_calls w2 w' w.heap.size A' c' fs Fs HROW.out.n hb2 hfnl (fun i hi => hev i (HROW.out.n ▸ hi)) a E Q hb' hE hQ hok⟩, fun E hok F hF => ?_⟩
      obtain ⟨j, hj, rfl⟩ := List.mem_iff_getElem.1 hF
      have := (hev j hj).ok E hok
      rwa [List.getD_eq_getElem?_getD, List.getElem?_eq_getElem hj] at this
end Go.Proofs.YtahnelihohmjfaaGreatDoor.V
namespace Go.Proofs.YtahnelihohmjfaaGreatDoor.V
open Go.RowKit
set_option linter.unusedVariables false
set_option linter.unusedSimpArgs false
set_option maxHeartbeats 4000000 in
set_option maxRecDepth 100000 in
theorem list_ready (b : Nat) (A : Option Addr) (c : Nat) (l : List Value) (w : World) (hb : w.heap[b]? = some (.cells #[.slice A l.length c] 218 (0, 0))) (Q : Nat → Prop) (wN : World) (hI : IfL Q wN A c l) (hr : ∀ i, i < l.length → RdyOK Q wN (l.getD i undef)) (X : Nat → Prop) (N0 : Nat) (hcX : Chg wN w X) (hX : ∀ b, X b → (Q b → wN.heap.size ≤ b) ∧ N0 ≤ b ∧ b < w.heap.size) (hG : GVb w N0) : Calls Tryz.prog 285 #[.pointer (some ⟨b, 0, none⟩)] w (ReadyR X w) := by
  have c0 := blk_cell hb 0
  simp at c0
  have hl := blk_lt hb
  have HA := Ad.mk (all_calls Q wN w X N0 A c l hcX hX hG hI hr)
  have HXS : Ad (∀ b, X b → b < w.heap.size) := ⟨fun b h => (hX b h).2.2⟩
  have hmf : ∀ (fn : Fn) (first cap : Array Value) (w : World), (Instr.makeFunc fn first cap).run Tryz.prog w = .ok (.func fn first cap) w := fun _ _ _ _ => rfl
  have hst := store_func'
  clear hb hI hr hcX hX hG
  go_enter Tryz.func285, Tryz.ntmps285
  go_wp2_with (go_at_call 286; refine HA.out.mono ?_; rintro e1 w1 ⟨f, Fs, hlen, rfl, hev, hb1⟩; have HB1 := Ad.mk hb1; have HEV := Ad.mk hev; have HXS1 : Ad (∀ b, X b → b < w1.heap.size) := (⟨fun b h => Nat.lt_of_lt_of_le (HXS.out b h) hb1.size⟩); have l1 := Nat.lt_of_lt_of_le hl hb1.size; obtain ⟨kf, cap, rfl, _⟩ := (hev w1 (Chg.refl _ _)).calls; clear hb1 hev hlen)
  go_ret
  exact ⟨_, fun E => fitV (Val.list (Fs.map (fun (F : EnvV → Val) => F E))), rfl, fun w2 hc2 => ⟨⟨_, _, rfl, enters Tryz.func287 (by kernel_rfl) (by kernel_rfl), fun w' a E Q hb' hE hQ hok => list1_calls w1.heap.size _ Fs w2 w' (chg_new hc2 HXS1.out) (HEV.out w2 (chg_cut hc2)) a E Q hb' hE hQ hok⟩, fun E _ => fit_ok _⟩, below_then HB1.out (below_alloc (Below.refl _ _) _)⟩
/-! ### the box of a builtin, filled in whatever order -/
structure BoxG (T : TypeId) (m n0 : Nat) (w : World) (la ls : Bool) (u : Value) (cs : Array Value) : Prop where
  no : la = false → ∀ b, ¬ isP u b
  yes : la = true → ∃ p xs, u = .pointer (some ⟨p, 0, none⟩) ∧ n0 ≤ p ∧ w.heap[p]? = some (.cells xs T (0, 0)) ∧ xs.size = m ∧ (ls = true → xs = cs)
section
variable {T : TypeId} {m n0 : Nat} {w w' : World} {la ls : Bool} {u : Value} {cs : Array Value}
theorem BoxG.below (h : BoxG T m n0 w la ls u cs) (hb : Below w.heap.size w w') : BoxG T m n0 w' la ls u cs :=
  ⟨h.no, fun e => let ⟨p, x, h1, h2, h3, h4⟩ := h.yes e; ⟨p, x, h1, h2, blk_below h3 hb, h4⟩⟩
theorem BoxG.new (hn : n0 ≤ w.heap.size) (xs cs : Array Value) (hm : xs.size = m) : BoxG T m n0 (w.alloc (.cells xs T)) true false (.pointer (some ⟨w.heap.size, 0, none⟩)) cs :=
  ⟨fun h => (by cases h), fun _ => ⟨_, xs, rfl, hn, blk_new _ _, hm, fun h => (by cases h)⟩⟩
theorem BoxG.chg {S : Nat → Prop} (h : BoxG T m n0 w la ls u cs) (hc : Chg w w' S) (hS : ∀ q, S q → ¬ isP u q) : BoxG T m n0 w' la ls u cs :=
  ⟨h.no, fun e => let ⟨q, x, h1, h2, h3, h4⟩ := h.yes e; ⟨q, x, h1, h2, (hc.block q (blk_lt h3) (fun hs => hS q hs h1)).trans h3, h4⟩⟩
theorem BoxG.lt (h : BoxG T m n0 w la ls u cs) {b : Nat} (hb : isP u b) : n0 ≤ b ∧ b < w.heap.size := by
  cases la with
  | false => exact absurd hb (h.no rfl b)
  | true =>
    obtain ⟨q, x, h1, h2, h3, _⟩ := h.yes rfl
    rw [h1] at hb
    have := isP_inj hb
    subst this
    exact ⟨h2, blk_lt h3⟩
theorem BoxG.other (h : BoxG T m n0 w la false u cs) (cs' : Array Value) : BoxG T m n0 w la false u cs' := ⟨h.no, fun e => let ⟨q, x, h1, h2, h3, h4, _⟩ := h.yes e; ⟨q, x, h1, h2, h3, h4, fun h => (by cases h)⟩⟩
theorem BoxG.full {p : Nat} (hn : n0 ≤ p) (hp : w.heap[p]? = some (.cells cs T (0, 0))) (hm : cs.size = m) : BoxG T m n0 w true true (.pointer (some ⟨p, 0, none⟩)) cs := ⟨fun h => (by cases h), fun _ => ⟨p, cs, rfl, hn, hp, hm, fun _ => rfl⟩⟩
end
theorem arr1 {xs : Array Value} (h : xs.size = 1) : ∃ a, xs = #[a] := by
  obtain ⟨xs⟩ := xs
  match xs, h with
  | [a], _ => exact ⟨a, rfl⟩
theorem arr3 {xs : Array Value} (h : xs.size = 3) : ∃ a b c, xs = #[a, b, c] := by
  obtain ⟨xs⟩ := xs
  match xs, h with
  | [a, b, c], _ => exact ⟨a, b, c, rfl⟩
def YY (X : Nat → Prop) (u1 u2 : Value) (b : Nat) : Prop := X b ∨ isP u1 b ∨ isP u2 b
structure callI (X : Nat → Prop) (w0 : World) (b : Nat) (sl fb : Value) (cf : Array Value) (n : Nat) (L : Nat → Bool) (a : Act) (w : World) : Prop where
  tk : L 0 = true ∧ L 1 = true ∧ L 2 = true ∧ L 5 = true ∧ L 6 = true ∧ L 7 = true
  bw : Below w0.heap.size w0 w
  st : ∃ u3 u4 u8 u13 u9 : Value, a = { tmps := #[.pointer (some ⟨b, 0, none⟩), undef, .nilFunc, u3, u4, .pointer (some ⟨b, 0, none⟩), .pointer (some ⟨b, 0, none⟩), .pointer (some ⟨b, 3, none⟩), u8, u9, .pointer (some ⟨b, 0, none⟩), .pointer (some ⟨b, 0, none⟩), .pointer (some ⟨b, 0, none⟩), u13, undef], defers := [] } ∧ (L 3 = true → u8 = sl) ∧ (L 8 = true → u13 = fb) ∧ BoxG 361 1 w0.heap.size w (L 9) (L 11) u3 #[u9] ∧ BoxG 222 3 w0.heap.size w (L 10) (L 12) u4 cf ∧ (∀ q, isP u3 q → ¬ isP u4 q) ∧ (L 4 = true → ∃ Fs, Fs.length = n ∧ ∀ w2, Chg w w2 (YY X u3 u4) → EvL w2 u9 Fs)
  sc1 : L 11 = true → L 4 = true ∧ L 9 = true
  sc2 : L 12 = true → L 10 = true
set_option maxHeartbeats 8000000 in
set_option maxRecDepth 100000 in
theorem call_ready (b : Nat) (s : ByteArray) (k : Nat) (D : List Val → Val) (A : Option Addr) (c : Nat) (l : List Value) (w : World) (hb : w.heap[b]? = some (.cells #[.string s, .int .i64 l.length, .func (.func k) #[] #[], .slice A l.length c] 224 (0, 0))) (hk : ∀ args w, (callFunc k args).run Tryz.prog w = .ok (.enter k args) w) (hd : DoG k l.length D)
    (Q : Nat → Prop) (wN : World) (hI : IfL Q wN A c l) (hr : ∀ i, i < l.length → RdyOK Q wN (l.getD i undef)) (X : Nat → Prop) (N0 : Nat) (hcX : Chg wN w X) (hX : ∀ b, X b → (Q b → wN.heap.size ≤ b) ∧ N0 ≤ b ∧ b < w.heap.size) (hG : GVb w N0) : Calls Tryz.prog 289 #[.pointer (some ⟨b, 0, none⟩)] w (ReadyR X w) := by
  have c0 := blk_cell hb 0
  have c1 := blk_cell hb 1
  have c2 := blk_cell hb 2
  have c3 := blk_cell hb 3
  simp at c0 c1 c2 c3
  have hl := blk_lt hb
  obtain ⟨N1, hN1⟩ : ∃ n, min N0 w.heap.size = n := ⟨_, rfl⟩
  have HG := Ad.mk (hN1 ▸ hG.low)
  have HN : Ad (N1 ≤ N0 ∧ N1 ≤ w.heap.size ∧ wN.heap.size ≤ w.heap.size) := ⟨by omega, by omega, hcX.size⟩
  have HCX := Ad.mk hcX
  have HX := Ad.mk hX
  have HI := Ad.mk hI
  have HR := Ad.mk hr
  have HK := Ad.mk hk
  have HD := Ad.mk hd
  have hmf : ∀ (fn : Fn) (first cap : Array Value) (w : World), (Instr.makeFunc fn first cap).run Tryz.prog w = .ok (.func fn first cap) w := fun _ _ _ _ => rfl
  have hst := store_func'
  have hen := enters Tryz.func286 (by kernel_rfl) (by kernel_rfl)
  clear hb hN1 hcX hX hG hI hr hk hd
  go_enter Tryz.func289, Tryz.ntmps289
  go_upto_region 1 with (fail)
  refine wp_region_any (by kernel_rfl) ?_
  change wpAny _ _ _ _ _ _ _ (World.drew _)
  refine wpAny_take (i := 0) (v := ?_) rfl (by kernel_rfl) (by kernel_rfl) (by kernel_rfl) (fun _ _ _ h => h) (Or.inl ⟨by rfl, ?hy⟩) ?_
  case hy => intro w; go_simp; try with_reducible rfl
  refine wpAny_take (i := 1) (v := ?_) rfl (by kernel_rfl) (by kernel_rfl) (by kernel_rfl) (fun _ _ _ h => h) (Or.inl ⟨by rfl, ?hy⟩) ?_
  case hy => intro w; go_simp; try with_reducible rfl
  refine wpAny_take (i := 2) (v := ?_) rfl (by kernel_rfl) (by kernel_rfl) (by kernel_rfl) (fun _ _ _ h => h) (Or.inl ⟨by rfl, ?hy⟩) ?_
  case hy => intro w; go_simp; try with_reducible rfl
  refine wpAny_take (i := 5) (v := ?_) rfl (by kernel_rfl) (by kernel_rfl) (by kernel_rfl) (fun _ _ _ h => h) (Or.inl ⟨by rfl, ?hy⟩) ?_
  case hy => intro w; go_simp; try with_reducible rfl
  refine wpAny_take (i := 6) (v := ?_) rfl (by kernel_rfl) (by kernel_rfl) (by kernel_rfl) (fun _ _ _ h => h) (Or.inl ⟨by rfl, ?hy⟩) ?_
  case hy => intro w; go_simp; try with_reducible rfl
  refine wpAny_take (i := 7) (v := ?_) rfl (by kernel_rfl) (by kernel_rfl) (by kernel_rfl) (fun _ _ _ h => h) (Or.inl ⟨by rfl, ?hy⟩) ?_
  case hy => intro w; go_simp; try with_reducible rfl
  refine wpAny_inv (callI X w b (.slice A l.length c) (.agg #[.string s, .int .i64 l.length, .func (.func k) #[] #[]]) #[.string s, .int .i64 l.length, .func (.func k) #[] #[]] l.length) (by kernel_rfl) ?step ?fin _ _ _ _ (by rfl) (by decide) ?start
  case start => exact ⟨by decide, (Below.refl _ _).drew, ⟨_, _, _, _, _, rfl, fun h => absurd h (by decide), fun h => absurd h (by decide), ⟨fun _ q h => by simp [isP, undef] at h, fun h => absurd h (by decide)⟩, ⟨fun _ q h => by simp [isP, undef] at h, fun h => absurd h (by decide)⟩, fun q h => by simp [isP, undef] at h, fun h => absurd h (by decide)⟩, fun h => absurd h (by decide), fun h => absurd h (by decide)⟩
  case step =>
    intro L i o a w1 ho hLi hdep ⟨htk, hB, ⟨u3, u4, u8, u13, u9, ha, hl1, hl2, hb1, hb2, hd12, hc1⟩, hs1, hs2⟩
    subst ha
    have hi : i < 13 := (Array.getElem?_eq_some_iff.1 ho).1
    have hXs : ∀ q, YY X u3 u4 q → (Q q → wN.heap.size ≤ q) ∧ N1 ≤ q ∧ q < w1.heap.size := by
      have h1 := HN.out
      have h2 := hB.size
      rintro q (h | h | h)
      · have h3 := HX.out q h
        exact ⟨h3.1, by omega, by omega⟩
      · have h3 := hb1.lt h
        exact ⟨fun _ => by omega, by omega, by omega⟩
      · have h3 := hb2.lt h
        exact ⟨fun _ => by omega, by omega, by omega⟩
    have hcN : Chg wN w1 (YY X u3 u4) := (HCX.out.trans (Chg.of_below hB)).sub (fun _ _ h => .inl h)
    have hGN : GVb w1 N1 := by obtain ⟨w0, h0, h1, h2⟩ := HG.out; exact ⟨w0, h0, below_then h1 hB, h2⟩
    have hcs : i = 0 ∨ i = 1 ∨ i = 2 ∨ i = 3 ∨ i = 4 ∨ i = 5 ∨ i = 6 ∨ i = 7 ∨ i = 8 ∨ i = 9 ∨ i = 10 ∨ i = 11 ∨ i = 12 := by omega
    rcases hcs with rfl | rfl | rfl | rfl | rfl | rfl | rfl | rfl | rfl | rfl | rfl | rfl | rfl
    · exact absurd (hLi.symm.trans htk.1) (by decide)
    · exact absurd (hLi.symm.trans htk.2.1) (by decide)
    · exact absurd (hLi.symm.trans htk.2.2.1) (by decide)
    · cases ho
      refine wpOp_of rfl rfl ?_
      have t1 := cell_below hB c3
      unfold Oper.wp
      go_simp
      exact ⟨htk, hB, ⟨u3, u4, _, u13, u9, rfl, fun _ => rfl, hl2, hb1, hb2, hd12, hc1⟩, hs1, hs2⟩
    · cases ho
      refine wpOp_of rfl rfl ?_
      have e1 : L 3 = true := by simp [Region.binds] at hdep; first | exact hdep | exact hdep.1 | exact hdep.2 | exact hdep.2.1
      have e2 : L 11 = false := by cases h : L 11 with | false => rfl | true => exact absurd (hLi.symm.trans (hs1 h).1) (by decide)
      have e3 := hl1 e1
      subst e3
      have hcall := all_calls Q wN w1 (YY X u3 u4) N1 A c l hcN hXs hGN HI.out HR.out
      unfold Oper.wp
      go_simp
      refine hcall.mono ?_
      rintro e w2 ⟨f, Fs, hlen, rfl, hev, hb⟩
      have hbj : BoxG 361 1 w.heap.size w2 (L 9) (L 11) u3 #[f] := by have h := hb1.below hb; rw [e2] at h ⊢; exact h.other _
      exact ⟨htk, below_then hB hb, ⟨u3, u4, _, u13, f, rfl, fun _ => rfl, hl2, hbj, hb2.below hb, hd12, fun _ => ⟨Fs, hlen, hev⟩⟩, fun h => ⟨rfl, (hs1 h).2⟩, hs2⟩
    · exact absurd (hLi.symm.trans htk.2.2.2.1) (by decide)
    · exact absurd (hLi.symm.trans htk.2.2.2.2.1) (by decide)
    · exact absurd (hLi.symm.trans htk.2.2.2.2.2) (by decide)
    · cases ho
      refine wpOp_of rfl rfl ?_
      have t0 := cell_below hB c0
      have t1 := cell_below hB c1
      have t2 := cell_below hB c2
      unfold Oper.wp
      go_simp
      exact ⟨htk, hB, ⟨u3, u4, u8, _, u9, rfl, hl1, fun _ => rfl, hb1, hb2, hd12, hc1⟩, hs1, hs2⟩
    · cases ho
      refine wpOp_of rfl rfl ?_
      have e2 : L 11 = false := by cases h : L 11 with | false => rfl | true => exact absurd (hLi.symm.trans (hs1 h).2) (by decide)
      have hB1 := hB.size
      unfold Oper.wp
      go_simp
      have hba := below_alloc (Below.refl _ w1) (.cells #[.nilFunc] 361)
      have hbj : BoxG 361 1 w.heap.size (w1.alloc (.cells #[.nilFunc] 361)) true (L 11) (.pointer (some ⟨w1.heap.size, 0, none⟩)) #[u9] := by rw [e2]; exact BoxG.new hB1 _ _ rfl
      have hstp : ∀ w3, Chg (w1.alloc (.cells #[.nilFunc] 361)) w3 (YY X (.pointer (some ⟨w1.heap.size, 0, none⟩)) u4) → Chg w1 w3 (YY X u3 u4) := fun w3 h => (Chg.of_below hba).then_ h (fun q hq hx => by
        rcases hx with hx | hx | hx
        · exact .inl hx
        · have := isP_inj hx; omega
        · exact .inr (.inr hx))
      exact ⟨htk, below_then hB hba, ⟨_, u4, u8, u13, u9, rfl, hl1, hl2, hbj, hb2.below hba, fun q h1 h2 => by have := isP_inj h1; have := hb2.lt h2; omega, fun h => let ⟨Fs, h1, h2⟩ := hc1 h; ⟨Fs, h1, fun w3 h3 => h2 w3 (hstp w3 h3)⟩⟩, fun h => ⟨(hs1 h).1, rfl⟩, hs2⟩
    · cases ho
      refine wpOp_of rfl rfl ?_
      have e2 : L 12 = false := by cases h : L 12 with | false => rfl | true => exact absurd (hLi.symm.trans (hs2 h)) (by decide)
      have hB1 := hB.size
      unfold Oper.wp
      go_simp
      have hba := below_alloc (Below.refl _ w1) (.cells #[.string ⟨#[]⟩, .int .i64 0, .nilFunc] 222)
      have hbj : BoxG 222 3 w.heap.size (w1.alloc (.cells #[.string ⟨#[]⟩, .int .i64 0, .nilFunc] 222)) true (L 12) (.pointer (some ⟨w1.heap.size, 0, none⟩)) #[.string s, .int .i64 l.length, .func (.func k) #[] #[]] := by rw [e2]; exact BoxG.new hB1 _ _ rfl
      have hstp : ∀ w3, Chg (w1.alloc (.cells #[.string ⟨#[]⟩, .int .i64 0, .nilFunc] 222)) w3 (YY X u3 (.pointer (some ⟨w1.heap.size, 0, none⟩))) → Chg w1 w3 (YY X u3 u4) := fun w3 h => (Chg.of_below hba).then_ h (fun q hq hx => by
        rcases hx with hx | hx | hx
        · exact .inl hx
        · exact .inr (.inl hx)
        · have := isP_inj hx; omega)
      exact ⟨htk, below_then hB hba, ⟨u3, _, u8, u13, u9, rfl, hl1, hl2, hb1.below hba, hbj, fun q h1 h2 => by have := isP_inj h2; have := hb1.lt h1; omega, fun h => let ⟨Fs, h1, h2⟩ := hc1 h; ⟨Fs, h1, fun w3 h3 => h2 w3 (hstp w3 h3)⟩⟩, hs1, fun h => rfl⟩
    · cases ho
      refine wpOp_of rfl rfl ?_
      simp [Region.binds] at hdep
      have HL1 := Ad.mk hl1; have HL2 := Ad.mk hl2; clear hl1 hl2
      have e1 : L 9 = true := by first | exact hdep | exact hdep.1 | exact hdep.2 | exact hdep.2.1 | exact hdep.2.2
      have e2 : L 4 = true := by first | exact hdep | exact hdep.1 | exact hdep.2 | exact hdep.2.1 | exact hdep.2.2
      obtain ⟨p, x, hu, hp0, hpx, hxs, _⟩ := hb1.yes e1
      subst hu
      obtain ⟨x0, rfl⟩ := arr1 hxs
      obtain ⟨Fs, hlen, hF⟩ := hc1 e2
      obtain ⟨kf, cf, hf, _⟩ := (hF w1 (Chg.refl _ _)).calls
      subst hf
      have t1 := blk_cell hpx 0
      have t2 := fun m => blk_frozen hpx m
      have tl := blk_lt hpx
      simp at t1
      have HB1 := Ad.mk hb1; have HB2 := Ad.mk hb2; have HF := Ad.mk hF; clear hb1 hb2 hF hc1
      unfold Oper.wp
      go_simp
      have hcs := (Chg.refl w1 (YY X (.pointer (some ⟨p, 0, none⟩)) u4)).set (.inr (.inl rfl) : YY X (.pointer (some ⟨p, 0, none⟩)) u4 p) 0 (.func (.func kf) #[] cf)
      have hbs := below_chg hB ((Chg.refl w1 (· = p)).set rfl 0 (.func (.func kf) #[] cf)) (fun q hq => by have h : q = p := hq; omega)
      have hbj : BoxG 361 1 w.heap.size (w1.setCell ⟨p, 0, none⟩ (.func (.func kf) #[] cf)) (L 9) true (.pointer (some ⟨p, 0, none⟩)) #[.func (.func kf) #[] cf] := by rw [e1]; exact BoxG.full hp0 (blk_put hpx 0 _ rfl) rfl
      exact ⟨htk, hbs, ⟨_, u4, _, u13, _, rfl, HL1.out, HL2.out, hbj, HB2.out.chg ((Chg.refl w1 (· = p)).set rfl 0 (.func (.func kf) #[] cf)) (fun q hq => by have h : q = p := hq; subst h; exact hd12 q rfl), hd12, fun _ => ⟨Fs, hlen, fun w3 h => HF.out w3 (hcs.trans h)⟩⟩, fun _ => ⟨e2, e1⟩, hs2⟩
    · cases ho
      refine wpOp_of rfl rfl ?_
      simp [Region.binds] at hdep
      have e1 : L 10 = true := by first | exact hdep | exact hdep.1 | exact hdep.2 | exact hdep.2.1 | exact hdep.2.2
      have e2 : L 8 = true := by first | exact hdep | exact hdep.1 | exact hdep.2 | exact hdep.2.1 | exact hdep.2.2
      obtain ⟨p, x, hu, hp0, hpx, hxs, _⟩ := hb2.yes e1
      subst hu
      obtain ⟨x0, x1, x2, rfl⟩ := arr3 hxs
      have e3 := hl2 e2
      subst e3
      have HL1 := Ad.mk hl1; clear hl1 hl2
      have t0 := blk_cell hpx 0
      have t1 := blk_cell hpx 1
      have t2 := blk_cell hpx 2
      have t3 := fun m => blk_frozen hpx m
      have tl := blk_lt hpx
      simp at t0 t1 t2
      have HB1 := Ad.mk hb1; have HB2 := Ad.mk hb2; have HC1 := Ad.mk hc1; clear hb1 hb2 hc1
      unfold Oper.wp
      go_simp
      have hcs := (((Chg.refl w1 (YY X u3 (.pointer (some ⟨p, 0, none⟩)))).set (.inr (.inr rfl) : YY X u3 (.pointer (some ⟨p, 0, none⟩)) p) 0 (.string s)).set (.inr (.inr rfl) : YY X u3 (.pointer (some ⟨p, 0, none⟩)) p) 1 (.int .i64 l.length)).set (.inr (.inr rfl) : YY X u3 (.pointer (some ⟨p, 0, none⟩)) p) 2 (.func (.func k) #[] #[])
      have hcp := (((Chg.refl w1 (· = p)).set rfl 0 (.string s)).set rfl 1 (.int .i64 l.length)).set rfl 2 (.func (.func k) #[] #[])
      have hbs := below_chg hB hcp (fun q hq => by have h : q = p := hq; omega)
      have hbj := BoxG.full (T := 222) (m := 3) (n0 := w.heap.size) (cs := #[.string s, .int .i64 l.length, .func (.func k) #[] #[]]) hp0 (blk_put (blk_put (blk_put hpx 0 (.string s) rfl) 1 (.int .i64 l.length) rfl) 2 (.func (.func k) #[] #[]) rfl) rfl
      have hbj' : BoxG 222 3 w.heap.size (((w1.setCell ⟨p, 0, none⟩ (.string s)).setCell ⟨p, 1, none⟩ (.int .i64 l.length)).setCell ⟨p, 2, none⟩ (.func (.func k) #[] #[])) (L 10) true (.pointer (some ⟨p, 0, none⟩)) #[.string s, .int .i64 l.length, .func (.func k) #[] #[]] := by rw [e1]; exact hbj
      exact ⟨htk, hbs, ⟨u3, _, u8, _, u9, rfl, HL1.out, fun _ => rfl, HB1.out.chg hcp (fun q hq h1 => by have h : q = p := hq; subst h; exact hd12 q h1 rfl), hbj', hd12, fun h => let ⟨Fs, h1, h2⟩ := HC1.out h; ⟨Fs, h1, fun w3 h3 => h2 w3 (hcs.trans h3)⟩⟩, hs1, fun _ => e1⟩
  case fin =>
    intro L a w1 hL ⟨htk, hB, ⟨u3, u4, u8, u13, u9, ha, hl1, hl2, hb1, hb2, hd12, hc1⟩, _, _⟩
    subst ha
    obtain ⟨p1, x1, hu1, hq1, hp1, _, hx1⟩ := hb1.yes (hL 9 (by decide))
    subst hu1
    have h1 := hx1 (hL 11 (by decide))
    subst h1
    obtain ⟨p2, x2, hu2, hq2, hp2, _, hx2⟩ := hb2.yes (hL 10 (by decide))
    subst hu2
    have h2 := hx2 (hL 12 (by decide))
    subst h2
    obtain ⟨Fs, hlen, hF⟩ := hc1 (hL 4 (by decide))
    have HP1 := Ad.mk hp1
    have HP2 := Ad.mk hp2
    have HQ1 := Ad.mk hq1
    have HQ2 := Ad.mk hq2
    have HF := Ad.mk hF
    have HLEN := Ad.mk hlen
    have HBW := Ad.mk hB
    have HXS : Ad (∀ q, X q → q < w.heap.size) := ⟨fun q h => (HX.out q h).2.2⟩
    have HXN : Ad (∀ q, X q → N1 ≤ q) := ⟨fun q h => by have := (HX.out q h).2.1; have := HN.out; omega⟩
    have HG1 : Ad (GVb w1 N1) := ⟨by obtain ⟨w0, h0, h1, h2⟩ := HG.out; exact ⟨w0, h0, below_then h1 hB, h2⟩⟩
    have tl := Nat.lt_of_lt_of_le hl hB.size
    clear hp1 hp2 hq1 hq2 hx1 hx2 hb1 hb2 hB hL hl1 hl2 hd12 hc1 hF hlen c0 c1 c2 c3
    go_wp2_with fail
    go_ret
    refine ⟨_, fun E => fitV (D (Fs.map (fun (F : EnvV → Val) => F E))), rfl, fun w2 hc2 => ⟨⟨_, _, rfl, enters Tryz.func290 (by kernel_rfl) (by kernel_rfl), fun w' a E Q hb' hE hQ hok => call1_calls w2 w' p2 s l.length k D p1 u9 Fs ((hc2.block p2 (blk_lt HP2.out) (fun h => by have := HXS.out _ h; have := HQ2.out; omega)).trans HP2.out) HK.out (HLEN.out ▸ HD.out) (HG1.out.chgS hc2 HXN.out).gv ((hc2.block p1 (blk_lt HP1.out) (fun h => by have := HXS.out _ h; have := HQ1.out; omega)).trans HP1.out) (HF.out w2 (hc2.sub fun _ _ h => .inl h)) a E Q hb' hE hQ hok⟩, fun E _ => fit_ok _⟩, HBW.out⟩
end Go.Proofs.YtahnelihohmjfaaGreatDoor.V
namespace Go.Proofs.YtahnelihohmjfaaGreatDoor.V
open Go.RowKit
set_option linter.unusedVariables false
set_option linter.unusedSimpArgs false
structure binaryI (X : Nat → Prop) (w0 : World) (b : Nat) (n1 n2 : Value) (L : Nat → Bool) (a : Act) (w : World) : Prop where
  tk : L 0 = true ∧ L 1 = true ∧ L 2 = true ∧ L 5 = true ∧ L 6 = true ∧ L 7 = true
  bw : Below w0.heap.size w0 w
  st : ∃ u3 u4 u9 u14 u10 u15 : Value, a = { tmps := #[.pointer (some ⟨b, 0, none⟩), undef, .nilFunc, u3, u4, undef, .pointer (some ⟨b, 0, none⟩), .pointer (some ⟨b, 0, none⟩), .pointer (some ⟨b, 1, none⟩), u9, u10, .pointer (some ⟨b, 0, none⟩), .pointer (some ⟨b, 0, none⟩), .pointer (some ⟨b, 2, none⟩), u14, u15, undef, undef, undef, undef, undef, undef, undef, undef, undef, undef, undef, undef, undef, undef, undef], defers := [] } ∧ (L 3 = true → u9 = n1) ∧ (L 8 = true → u14 = n2) ∧ BoxI w0.heap.size w (L 10) (L 12) u3 u10 ∧ BoxI w0.heap.size w (L 11) (L 13) u4 u15 ∧ (∀ q, isP u3 q → ¬ isP u4 q) ∧ ClI (XX X u3 u4 undef) w (L 4) u10 ∧ ClI (XX X u3 u4 undef) w (L 9) u15
  sc1 : L 12 = true → L 4 = true ∧ L 10 = true
  sc2 : L 13 = true → L 9 = true ∧ L 11 = true
set_option maxHeartbeats 8000000 in
set_option maxRecDepth 100000 in
theorem binary_ready (b : Nat) (op : ByteArray) (n1 n2 : Value) (w : World) (hb : w.heap[b]? = some (.cells #[.string op, n1, n2] 210 (0, 0))) (Q : Nat → Prop) (wN : World) (ha1 : RdyOK Q wN n1) (ha2 : RdyOK Q wN n2) (X : Nat → Prop) (N0 : Nat) (hcX : Chg wN w X) (hX : ∀ b, X b → (Q b → wN.heap.size ≤ b) ∧ N0 ≤ b ∧ b < w.heap.size) (hG : GVb w N0) : Calls Tryz.prog 278 #[.pointer (some ⟨b, 0, none⟩)] w (ReadyR X w) := by
  obtain ⟨T1, q1, k1, rfl, hm1, hk1, hc1⟩ := ha1
  obtain ⟨T2, q2, k2, rfl, hm2, hk2, hc2⟩ := ha2
  have c1 := blk_cell hb 1
  have c2 := blk_cell hb 2
  have c0 := blk_cell hb 0
  simp at c0 c1 c2
  have hl := blk_lt hb
  obtain ⟨N1, hN1⟩ : ∃ n, min N0 w.heap.size = n := ⟨_, rfl⟩
  have HG := Ad.mk (hN1 ▸ hG.low)
  have HN : Ad (N1 ≤ N0 ∧ N1 ≤ w.heap.size ∧ wN.heap.size ≤ w.heap.size) := ⟨by omega, by omega, hcX.size⟩
  have HCX := Ad.mk hcX
  have HX := Ad.mk hX
  have HC1 := Ad.mk hc1
  have HC2 := Ad.mk hc2
  have HB := Ad.mk hb
  have hmf : ∀ (fn : Fn) (first cap : Array Value) (w : World), (Instr.makeFunc fn first cap).run Tryz.prog w = .ok (.func fn first cap) w := fun _ _ _ _ => rfl
  have hst := store_func'
  clear hb hN1 hcX hX hG hc1 hc2
  go_enter Tryz.func278, Tryz.ntmps278
  go_upto_region 1 with (fail)
  refine wp_region_any (by kernel_rfl) ?_
  change wpAny _ _ _ _ _ _ _ (World.drew _)
  refine wpAny_take (i := 0) (v := ?_) rfl (by kernel_rfl) (by kernel_rfl) (by kernel_rfl) (fun _ _ _ h => h) (Or.inl ⟨by rfl, ?hy⟩) ?_
  case hy => intro w; go_simp; try with_reducible rfl
  refine wpAny_take (i := 1) (v := ?_) rfl (by kernel_rfl) (by kernel_rfl) (by kernel_rfl) (fun _ _ _ h => h) (Or.inl ⟨by rfl, ?hy⟩) ?_
  case hy => intro w; go_simp; try with_reducible rfl
  refine wpAny_take (i := 2) (v := ?_) rfl (by kernel_rfl) (by kernel_rfl) (by kernel_rfl) (fun _ _ _ h => h) (Or.inl ⟨by rfl, ?hy⟩) ?_
  case hy => intro w; go_simp; try with_reducible rfl
  refine wpAny_take (i := 5) (v := ?_) rfl (by kernel_rfl) (by kernel_rfl) (by kernel_rfl) (fun _ _ _ h => h) (Or.inl ⟨by rfl, ?hy⟩) ?_
  case hy => intro w; go_simp; try with_reducible rfl
  refine wpAny_take (i := 6) (v := ?_) rfl (by kernel_rfl) (by kernel_rfl) (by kernel_rfl) (fun _ _ _ h => h) (Or.inl ⟨by rfl, ?hy⟩) ?_
  case hy => intro w; go_simp; try with_reducible rfl
  refine wpAny_take (i := 7) (v := ?_) rfl (by kernel_rfl) (by kernel_rfl) (by kernel_rfl) (fun _ _ _ h => h) (Or.inl ⟨by rfl, ?hy⟩) ?_
  case hy => intro w; go_simp; try with_reducible rfl
  refine wpAny_inv (binaryI X w b (.iface T1 q1) (.iface T2 q2)) (by kernel_rfl) ?step ?fin _ _ _ _ (by rfl) (by decide) ?start
  case start => exact ⟨by decide, (Below.refl _ _).drew, ⟨_, _, _, _, _, _, rfl, fun h => absurd h (by decide), fun h => absurd h (by decide), ⟨fun _ q h => by simp [isP, undef] at h, fun h => absurd h (by decide)⟩, ⟨fun _ q h => by simp [isP, undef] at h, fun h => absurd h (by decide)⟩, fun q h => by simp [isP, undef] at h, fun h => absurd h (by decide), fun h => absurd h (by decide)⟩, fun h => absurd h (by decide), fun h => absurd h (by decide)⟩
  case step =>
    intro L i o a w1 ho hLi hdep ⟨htk, hB, ⟨u3, u4, u9, u14, u10, u15, ha, hl1, hl2, hb1, hb2, hd12, hc1, hc2⟩, hs1, hs2⟩
    subst ha
    have hi : i < 14 := (Array.getElem?_eq_some_iff.1 ho).1
    have hXs : ∀ q, XX X u3 u4 undef q → (Q q → wN.heap.size ≤ q) ∧ N1 ≤ q ∧ q < w1.heap.size := by
      have h1 := HN.out
      have h2 := hB.size
      rintro q (h | h | h | h)
      · have h3 := HX.out q h
        exact ⟨h3.1, by omega, by omega⟩
      · have h3 := hb1.lt h
        exact ⟨fun _ => by omega, by omega, by omega⟩
      · have h3 := hb2.lt h
        exact ⟨fun _ => by omega, by omega, by omega⟩
      · simp [isP, undef] at h
    have hcN : Chg wN w1 (XX X u3 u4 undef) := (HCX.out.trans (Chg.of_below hB)).sub (fun _ _ h => .inl h)
    have hGN : GVb w1 N1 := by obtain ⟨w0, h0, h1, h2⟩ := HG.out; exact ⟨w0, h0, below_then h1 hB, h2⟩
    have hcs : i = 0 ∨ i = 1 ∨ i = 2 ∨ i = 3 ∨ i = 4 ∨ i = 5 ∨ i = 6 ∨ i = 7 ∨ i = 8 ∨ i = 9 ∨ i = 10 ∨ i = 11 ∨ i = 12 ∨ i = 13 := by omega
    rcases hcs with rfl | rfl | rfl | rfl | rfl | rfl | rfl | rfl | rfl | rfl | rfl | rfl | rfl | rfl
    · exact absurd (hLi.symm.trans htk.1) (by decide)
    · exact absurd (hLi.symm.trans htk.2.1) (by decide)
    · exact absurd (hLi.symm.trans htk.2.2.1) (by decide)
    · cases ho
      refine wpOp_of rfl rfl ?_
      have t1 := cell_below hB c1
      unfold Oper.wp
      go_simp
      exact ⟨htk, hB, ⟨u3, u4, _, u14, u10, u15, rfl, fun _ => rfl, hl2, hb1, hb2, hd12, hc1, hc2⟩, hs1, hs2⟩
    · cases ho
      refine wpOp_of rfl rfl ?_
      have e1 : L 3 = true := by simp [Region.binds] at hdep; first | exact hdep | exact hdep.1 | exact hdep.2 | exact hdep.2.1
      have e2 : L 12 = false := by cases h : L 12 with | false => rfl | true => exact absurd (hLi.symm.trans (hs1 h).1) (by decide)
      have e3 := hl1 e1
      subst e3
      have hcall := HC1.out (XX X u3 u4 undef) N1 w1 hcN hXs hGN
      unfold Oper.wp
      go_simp
      refine hcall.mono ?_
      rintro e w2 ⟨f, F, rfl, hev, hb⟩
      have hbj : BoxI w.heap.size w2 (L 10) (L 12) u3 f := by have h := hb1.below hb; rw [e2] at h ⊢; exact h.other f
      have hstp : ∀ w3, Chg w2 w3 (XX X u3 u4 undef) → Chg w1 w3 (XX X u3 u4 undef) := fun w3 h => (Chg.of_below hb).trans h
      exact ⟨htk, below_then hB hb, ⟨u3, u4, _, u14, f, u15, rfl, fun _ => rfl, hl2, hbj, hb2.below hb, hd12, fun _ => ⟨F, hev⟩, hc2.step hstp⟩, fun h => ⟨rfl, (hs1 h).2⟩, hs2⟩
    · exact absurd (hLi.symm.trans htk.2.2.2.1) (by decide)
    · exact absurd (hLi.symm.trans htk.2.2.2.2.1) (by decide)
    · exact absurd (hLi.symm.trans htk.2.2.2.2.2) (by decide)
    · cases ho
      refine wpOp_of rfl rfl ?_
      have t1 := cell_below hB c2
      unfold Oper.wp
      go_simp
      exact ⟨htk, hB, ⟨u3, u4, u9, _, u10, u15, rfl, hl1, fun _ => rfl, hb1, hb2, hd12, hc1, hc2⟩, hs1, hs2⟩
    · cases ho
      refine wpOp_of rfl rfl ?_
      have e1 : L 8 = true := by simp [Region.binds] at hdep; first | exact hdep | exact hdep.1 | exact hdep.2 | exact hdep.2.1
      have e2 : L 13 = false := by cases h : L 13 with | false => rfl | true => exact absurd (hLi.symm.trans (hs2 h).1) (by decide)
      have e3 := hl2 e1
      subst e3
      have hcall := HC2.out (XX X u3 u4 undef) N1 w1 hcN hXs hGN
      unfold Oper.wp
      go_simp
      refine hcall.mono ?_
      rintro e w2 ⟨f, F, rfl, hev, hb⟩
      have hbj : BoxI w.heap.size w2 (L 11) (L 13) u4 f := by have h := hb2.below hb; rw [e2] at h ⊢; exact h.other f
      have hstp : ∀ w3, Chg w2 w3 (XX X u3 u4 undef) → Chg w1 w3 (XX X u3 u4 undef) := fun w3 h => (Chg.of_below hb).trans h
      exact ⟨htk, below_then hB hb, ⟨u3, u4, u9, _, u10, f, rfl, hl1, fun _ => rfl, hb1.below hb, hbj, hd12, hc1.step hstp, fun _ => ⟨F, hev⟩⟩, hs1, fun h => ⟨rfl, (hs2 h).2⟩⟩
    · cases ho
      refine wpOp_of rfl rfl ?_
      have e2 : L 12 = false := by cases h : L 12 with | false => rfl | true => exact absurd (hLi.symm.trans (hs1 h).2) (by decide)
      have hB1 := hB.size
      unfold Oper.wp
      go_simp
      have hba := below_alloc (Below.refl _ w1) (.cells #[.nilFunc] 148)
      have hbj : BoxI w.heap.size (w1.alloc (.cells #[.nilFunc] 148)) true (L 12) (.pointer (some ⟨w1.heap.size, 0, none⟩)) u10 := by rw [e2]; exact BoxI.new hB1 _ _
      have hstp : ∀ w3, Chg (w1.alloc (.cells #[.nilFunc] 148)) w3 (XX X (.pointer (some ⟨w1.heap.size, 0, none⟩)) u4 undef) → Chg w1 w3 (XX X u3 u4 undef) := fun w3 h => (Chg.of_below hba).then_ h (fun q hq hx => by
        rcases hx with hx | hx | hx | hx
        · exact .inl hx
        · have := isP_inj hx; omega
        · exact .inr (.inr (.inl hx))
        · exact .inr (.inr (.inr hx)))
      exact ⟨htk, below_then hB hba, ⟨_, u4, u9, u14, u10, u15, rfl, hl1, hl2, hbj, hb2.below hba, fun q h1 h2 => by have := isP_inj h1; have := hb2.lt h2; omega, hc1.step hstp, hc2.step hstp⟩, fun h => ⟨(hs1 h).1, rfl⟩, hs2⟩
    · cases ho
      refine wpOp_of rfl rfl ?_
      have e2 : L 13 = false := by cases h : L 13 with | false => rfl | true => exact absurd (hLi.symm.trans (hs2 h).2) (by decide)
      have hB1 := hB.size
      unfold Oper.wp
      go_simp
      have hba := below_alloc (Below.refl _ w1) (.cells #[.nilFunc] 148)
      have hbj : BoxI w.heap.size (w1.alloc (.cells #[.nilFunc] 148)) true (L 13) (.pointer (some ⟨w1.heap.size, 0, none⟩)) u15 := by rw [e2]; exact BoxI.new hB1 _ _
      have hstp : ∀ w3, Chg (w1.alloc (.cells #[.nilFunc] 148)) w3 (XX X u3 (.pointer (some ⟨w1.heap.size, 0, none⟩)) undef) → Chg w1 w3 (XX X u3 u4 undef) := fun w3 h => (Chg.of_below hba).then_ h (fun q hq hx => by
        rcases hx with hx | hx | hx | hx
        · exact .inl hx
        · exact .inr (.inl hx)
        · have := isP_inj hx; omega
        · exact .inr (.inr (.inr hx)))
      exact ⟨htk, below_then hB hba, ⟨u3, _, u9, u14, u10, u15, rfl, hl1, hl2, hb1.below hba, hbj, fun q h1 h2 => by have := isP_inj h2; have := hb1.lt h1; omega, hc1.step hstp, hc2.step hstp⟩, hs1, fun h => ⟨(hs2 h).1, rfl⟩⟩
    · cases ho
      refine wpOp_of rfl rfl ?_
      simp [Region.binds] at hdep
      have HL1 := Ad.mk hl1; clear hl1; have HL2 := Ad.mk hl2; clear hl2
      have e1 : L 10 = true := by first | exact hdep | exact hdep.1 | exact hdep.2 | exact hdep.2.1 | exact hdep.2.2
      have e2 : L 4 = true := by first | exact hdep | exact hdep.1 | exact hdep.2 | exact hdep.2.1 | exact hdep.2.2
      obtain ⟨p, x, hu, hp0, hpx, _⟩ := hb1.yes e1
      subst hu
      obtain ⟨F, hF⟩ := hc1 e2
      obtain ⟨kf, cf, hf, _⟩ := (hF w1 (Chg.refl _ _)).calls
      subst hf
      have t1 := blk_cell hpx 0
      have t2 := fun m => blk_frozen hpx m
      have tl := blk_lt hpx
      simp at t1
      unfold Oper.wp
      go_simp
      have hcs := (Chg.refl w1 (XX X (.pointer (some ⟨p, 0, none⟩)) u4 undef)).set (.inr (.inl rfl) : (XX X (.pointer (some ⟨p, 0, none⟩)) u4 undef) p) 0 (.func (.func kf) #[] cf)
      have hbs := below_chg hB ((Chg.refl w1 (· = p)).set rfl 0 (.func (.func kf) #[] cf)) (fun q hq => by have h : q = p := hq; omega)
      have hbj : BoxI w.heap.size (w1.setCell ⟨p, 0, none⟩ (.func (.func kf) #[] cf)) (L 10) true (.pointer (some ⟨p, 0, none⟩)) (.func (.func kf) #[] cf) := by have h := hb1; rw [e1] at h ⊢; exact h.put
      exact ⟨htk, hbs, ⟨_, u4, u9, u14, _, u15, rfl, HL1.out, HL2.out, hbj, hb2.far (hd12 p rfl) _, hd12, hc1.step (fun w3 h => hcs.trans h), hc2.step (fun w3 h => hcs.trans h)⟩, fun _ => ⟨e2, e1⟩, hs2⟩
    · cases ho
      refine wpOp_of rfl rfl ?_
      simp [Region.binds] at hdep
      have HL1 := Ad.mk hl1; clear hl1; have HL2 := Ad.mk hl2; clear hl2
      have e1 : L 11 = true := by first | exact hdep | exact hdep.1 | exact hdep.2 | exact hdep.2.1 | exact hdep.2.2
      have e2 : L 9 = true := by first | exact hdep | exact hdep.1 | exact hdep.2 | exact hdep.2.1 | exact hdep.2.2
      obtain ⟨p, x, hu, hp0, hpx, _⟩ := hb2.yes e1
      subst hu
      obtain ⟨F, hF⟩ := hc2 e2
      obtain ⟨kf, cf, hf, _⟩ := (hF w1 (Chg.refl _ _)).calls
      subst hf
      have t1 := blk_cell hpx 0
      have t2 := fun m => blk_frozen hpx m
      have tl := blk_lt hpx
      simp at t1
      unfold Oper.wp
      go_simp
      have hcs := (Chg.refl w1 (XX X u3 (.pointer (some ⟨p, 0, none⟩)) undef)).set (.inr (.inr (.inl rfl)) : (XX X u3 (.pointer (some ⟨p, 0, none⟩)) undef) p) 0 (.func (.func kf) #[] cf)
      have hbs := below_chg hB ((Chg.refl w1 (· = p)).set rfl 0 (.func (.func kf) #[] cf)) (fun q hq => by have h : q = p := hq; omega)
      have hbj : BoxI w.heap.size (w1.setCell ⟨p, 0, none⟩ (.func (.func kf) #[] cf)) (L 11) true (.pointer (some ⟨p, 0, none⟩)) (.func (.func kf) #[] cf) := by have h := hb2; rw [e1] at h ⊢; exact h.put
      exact ⟨htk, hbs, ⟨u3, _, u9, u14, u10, _, rfl, HL1.out, HL2.out, hb1.far (fun h => hd12 p h rfl) _, hbj, hd12, hc1.step (fun w3 h => hcs.trans h), hc2.step (fun w3 h => hcs.trans h)⟩, hs1, fun _ => ⟨e2, e1⟩⟩
  case fin =>
    intro L a w1 hL ⟨htk, hB, ⟨u3, u4, u9, u14, u10, u15, ha, hl1, hl2, hb1, hb2, hd12, hc1, hc2⟩, _, _⟩
    subst ha
    obtain ⟨p1, x1, hu1, hq1, hp1, hx1⟩ := hb1.yes (hL 10 (by decide))
    subst hu1
    have h1 := hx1 (hL 12 (by decide))
    subst h1
    obtain ⟨F1, hF1⟩ := hc1 (hL 4 (by decide))
    obtain ⟨p2, x2, hu2, hq2, hp2, hx2⟩ := hb2.yes (hL 11 (by decide))
    subst hu2
    have h2 := hx2 (hL 13 (by decide))
    subst h2
    obtain ⟨F2, hF2⟩ := hc2 (hL 9 (by decide))
    have HP1 := Ad.mk hp1
    have HF1 := Ad.mk hF1
    have HQ1 := Ad.mk hq1
    have HP2 := Ad.mk hp2
    have HF2 := Ad.mk hF2
    have HQ2 := Ad.mk hq2
    have HBW := Ad.mk hB
    have HXS : Ad (∀ q, X q → q < w.heap.size) := ⟨fun q h => (HX.out q h).2.2⟩
    have tl := Nat.lt_of_lt_of_le hl hB.size
    have t0 := cell_below hB c0
    clear hp1 hp2 hF1 hF2 hq1 hq2 hx1 hx2 hb1 hb2 hB hL hl1 hl2 hd12 hc1 hc2 hm1 hm2 hk1 hk2
    clear c0 c1 c2
    go_wp2_with fail
    · go_ret
      exact ⟨_, fun E => Val.bool (truthV (F1 E) || truthV (F2 E)), rfl, fun w2 hc2 => ⟨⟨_, _, rfl, enters Tryz.func279 (by kernel_rfl) (by kernel_rfl), fun w' a E Q hb' hE hQ hok => or_calls w2 w' p1 x1 F1 p2 x2 F2 ((hc2.block p1 (blk_lt HP1.out) (fun h => by have := HXS.out _ h; have := HQ1.out; omega)).trans HP1.out) (HF1.out w2 (hc2.sub fun _ _ h => .inl h)) ((hc2.block p2 (blk_lt HP2.out) (fun h => by have := HXS.out _ h; have := HQ2.out; omega)).trans HP2.out) (HF2.out w2 (hc2.sub fun _ _ h => .inl h)) a E Q hb' hE hQ hok⟩, fun E hok => valid_bool _⟩, HBW.out⟩
    · go_ret
      exact ⟨_, fun E => Val.bool (truthV (F1 E) && truthV (F2 E)), rfl, fun w2 hc2 => ⟨⟨_, _, rfl, enters Tryz.func280 (by kernel_rfl) (by kernel_rfl), fun w' a E Q hb' hE hQ hok => and_calls w2 w' p1 x1 F1 p2 x2 F2 ((hc2.block p1 (blk_lt HP1.out) (fun h => by have := HXS.out _ h; have := HQ1.out; omega)).trans HP1.out) (HF1.out w2 (hc2.sub fun _ _ h => .inl h)) ((hc2.block p2 (blk_lt HP2.out) (fun h => by have := HXS.out _ h; have := HQ2.out; omega)).trans HP2.out) (HF2.out w2 (hc2.sub fun _ _ h => .inl h)) a E Q hb' hE hQ hok⟩, fun E hok => valid_bool _⟩, HBW.out⟩
    · go_ret
      exact ⟨_, fun E => fitV (worthV op (F1 E) (F2 E)), rfl, fun w2 hc2 => ⟨⟨_, _, rfl, enters Tryz.func281 (by kernel_rfl) (by kernel_rfl), fun w' a E Q hb' hE hQ hok => op_calls w2 w' w1.heap.size op p1 x1 F1 p2 x2 F2 (chg_new hc2 (fun q h => Nat.lt_of_lt_of_le (HXS.out q h) HBW.out.size)) (((chg_cut hc2).block p1 (blk_lt HP1.out) (fun h => by have := HXS.out _ h; have := HQ1.out; omega)).trans HP1.out) (HF1.out w2 ((chg_cut hc2).sub fun _ _ h => .inl h)) (((chg_cut hc2).block p2 (blk_lt HP2.out) (fun h => by have := HXS.out _ h; have := HQ2.out; omega)).trans HP2.out) (HF2.out w2 ((chg_cut hc2).sub fun _ _ h => .inl h)) a E Q hb' hE hQ hok⟩, fun E hok => fit_ok _⟩, below_then HBW.out (below_alloc (Below.refl _ _) _)⟩
end Go.Proofs.YtahnelihohmjfaaGreatDoor.V
namespace Go.Proofs.YtahnelihohmjfaaGreatDoor.V
open Go.RowKit
set_option linter.unusedVariables false
set_option linter.unusedSimpArgs false
structure condI (X : Nat → Prop) (w0 : World) (b : Nat) (n1 n2 n3 : Value) (L : Nat → Bool) (a : Act) (w : World) : Prop where
  tk : L 0 = true ∧ L 1 = true ∧ L 2 = true ∧ L 5 = true ∧ L 6 = true ∧ L 7 = true ∧ L 10 = true ∧ L 11 = true ∧ L 12 = true
  bw : Below w0.heap.size w0 w
  st : ∃ u3 u4 u5 u9 u14 u19 u10 u15 u20 : Value, a = { tmps := #[.pointer (some ⟨b, 0, none⟩), undef, .nilFunc, u3, u4, u5, .pointer (some ⟨b, 0, none⟩), .pointer (some ⟨b, 0, none⟩), .pointer (some ⟨b, 0, none⟩), u9, u10, .pointer (some ⟨b, 0, none⟩), .pointer (some ⟨b, 0, none⟩), .pointer (some ⟨b, 1, none⟩), u14, u15, .pointer (some ⟨b, 0, none⟩), .pointer (some ⟨b, 0, none⟩), .pointer (some ⟨b, 2, none⟩), u19, u20, undef], defers := [] } ∧ (L 3 = true → u9 = n1) ∧ (L 8 = true → u14 = n2) ∧ (L 13 = true → u19 = n3) ∧ BoxI w0.heap.size w (L 15) (L 18) u3 u10 ∧ BoxI w0.heap.size w (L 16) (L 19) u4 u15 ∧ BoxI w0.heap.size w (L 17) (L 20) u5 u20 ∧ (∀ q, isP u3 q → ¬ isP u4 q) ∧ (∀ q, isP u3 q → ¬ isP u5 q) ∧ (∀ q, isP u4 q → ¬ isP u5 q) ∧ ClI (XX X u3 u4 u5) w (L 4) u10 ∧ ClI (XX X u3 u4 u5) w (L 9) u15 ∧ ClI (XX X u3 u4 u5) w (L 14) u20
  sc1 : L 18 = true → L 4 = true ∧ L 15 = true
  sc2 : L 19 = true → L 9 = true ∧ L 16 = true
  sc3 : L 20 = true → L 14 = true ∧ L 17 = true
set_option maxHeartbeats 8000000 in
set_option maxRecDepth 100000 in
theorem cond_ready (b : Nat) (n1 n2 n3 : Value) (w : World) (hb : w.heap[b]? = some (.cells #[n1, n2, n3] 213 (0, 0))) (Q : Nat → Prop) (wN : World) (ha1 : RdyOK Q wN n1) (ha2 : RdyOK Q wN n2) (ha3 : RdyOK Q wN n3) (X : Nat → Prop) (N0 : Nat) (hcX : Chg wN w X) (hX : ∀ b, X b → (Q b → wN.heap.size ≤ b) ∧ N0 ≤ b ∧ b < w.heap.size) (hG : GVb w N0) : Calls Tryz.prog 283 #[.pointer (some ⟨b, 0, none⟩)] w (ReadyR X w) := by
  obtain ⟨T1, q1, k1, rfl, hm1, hk1, hc1⟩ := ha1
  obtain ⟨T2, q2, k2, rfl, hm2, hk2, hc2⟩ := ha2
  obtain ⟨T3, q3, k3, rfl, hm3, hk3, hc3⟩ := ha3
  have c1 := blk_cell hb 0
  have c2 := blk_cell hb 1
  have c3 := blk_cell hb 2
  simp at c1 c2 c3
  have hl := blk_lt hb
  obtain ⟨N1, hN1⟩ : ∃ n, min N0 w.heap.size = n := ⟨_, rfl⟩
  have HG := Ad.mk (hN1 ▸ hG.low)
  have HN : Ad (N1 ≤ N0 ∧ N1 ≤ w.heap.size ∧ wN.heap.size ≤ w.heap.size) := ⟨by omega, by omega, hcX.size⟩
  have HCX := Ad.mk hcX
  have HX := Ad.mk hX
  have HC1 := Ad.mk hc1
  have HC2 := Ad.mk hc2
  have HC3 := Ad.mk hc3
  have HB := Ad.mk hb
  have hmf : ∀ (fn : Fn) (first cap : Array Value) (w : World), (Instr.makeFunc fn first cap).run Tryz.prog w = .ok (.func fn first cap) w := fun _ _ _ _ => rfl
  have hst := store_func'
  clear hb hN1 hcX hX hG hc1 hc2 hc3
  go_enter Tryz.func283, Tryz.ntmps283
  go_upto_region 1 with (fail)
  refine wp_region_any (by kernel_rfl) ?_
  change wpAny _ _ _ _ _ _ _ (World.drew _)
  refine wpAny_take (i := 0) (v := ?_) rfl (by kernel_rfl) (by kernel_rfl) (by kernel_rfl) (fun _ _ _ h => h) (Or.inl ⟨by rfl, ?hy⟩) ?_
  case hy => intro w; go_simp; try with_reducible rfl
  refine wpAny_take (i := 1) (v := ?_) rfl (by kernel_rfl) (by kernel_rfl) (by kernel_rfl) (fun _ _ _ h => h) (Or.inl ⟨by rfl, ?hy⟩) ?_
  case hy => intro w; go_simp; try with_reducible rfl
  refine wpAny_take (i := 2) (v := ?_) rfl (by kernel_rfl) (by kernel_rfl) (by kernel_rfl) (fun _ _ _ h => h) (Or.inl ⟨by rfl, ?hy⟩) ?_
  case hy => intro w; go_simp; try with_reducible rfl
  refine wpAny_take (i := 5) (v := ?_) rfl (by kernel_rfl) (by kernel_rfl) (by kernel_rfl) (fun _ _ _ h => h) (Or.inl ⟨by rfl, ?hy⟩) ?_
  case hy => intro w; go_simp; try with_reducible rfl
  refine wpAny_take (i := 6) (v := ?_) rfl (by kernel_rfl) (by kernel_rfl) (by kernel_rfl) (fun _ _ _ h => h) (Or.inl ⟨by rfl, ?hy⟩) ?_
  case hy => intro w; go_simp; try with_reducible rfl
  refine wpAny_take (i := 7) (v := ?_) rfl (by kernel_rfl) (by kernel_rfl) (by kernel_rfl) (fun _ _ _ h => h) (Or.inl ⟨by rfl, ?hy⟩) ?_
  case hy => intro w; go_simp; try with_reducible rfl
  refine wpAny_take (i := 10) (v := ?_) rfl (by kernel_rfl) (by kernel_rfl) (by kernel_rfl) (fun _ _ _ h => h) (Or.inl ⟨by rfl, ?hy⟩) ?_
  case hy => intro w; go_simp; try with_reducible rfl
  refine wpAny_take (i := 11) (v := ?_) rfl (by kernel_rfl) (by kernel_rfl) (by kernel_rfl) (fun _ _ _ h => h) (Or.inl ⟨by rfl, ?hy⟩) ?_
  case hy => intro w; go_simp; try with_reducible rfl
  refine wpAny_take (i := 12) (v := ?_) rfl (by kernel_rfl) (by kernel_rfl) (by kernel_rfl) (fun _ _ _ h => h) (Or.inl ⟨by rfl, ?hy⟩) ?_
  case hy => intro w; go_simp; try with_reducible rfl
  refine wpAny_inv (condI X w b (.iface T1 q1) (.iface T2 q2) (.iface T3 q3)) (by kernel_rfl) ?step ?fin _ _ _ _ (by rfl) (by decide) ?start
  case start => exact ⟨by decide, (Below.refl _ _).drew, ⟨_, _, _, _, _, _, _, _, _, rfl, fun h => absurd h (by decide), fun h => absurd h (by decide), fun h => absurd h (by decide), ⟨fun _ q h => by simp [isP, undef] at h, fun h => absurd h (by decide)⟩, ⟨fun _ q h => by simp [isP, undef] at h, fun h => absurd h (by decide)⟩, ⟨fun _ q h => by simp [isP, undef] at h, fun h => absurd h (by decide)⟩, fun q h => by simp [isP, undef] at h, fun q h => by simp [isP, undef] at h, fun q h => by simp [isP, undef] at h, fun h => absurd h (by decide), fun h => absurd h (by decide), fun h => absurd h (by decide)⟩, fun h => absurd h (by decide), fun h => absurd h (by decide), fun h => absurd h (by decide)⟩
  case step =>
    intro L i o a w1 ho hLi hdep ⟨htk, hB, ⟨u3, u4, u5, u9, u14, u19, u10, u15, u20, ha, hl1, hl2, hl3, hb1, hb2, hb3, hd12, hd13, hd23, hc1, hc2, hc3⟩, hs1, hs2, hs3⟩
    subst ha
    have hi : i < 21 := (Array.getElem?_eq_some_iff.1 ho).1
    have hXs : ∀ q, XX X u3 u4 u5 q → (Q q → wN.heap.size ≤ q) ∧ N1 ≤ q ∧ q < w1.heap.size := by
      have h1 := HN.out
      have h2 := hB.size
      rintro q (h | h | h | h)
      · have h3 := HX.out q h
        exact ⟨h3.1, by omega, by omega⟩
      · have h3 := hb1.lt h
        exact ⟨fun _ => by omega, by omega, by omega⟩
      · have h3 := hb2.lt h
        exact ⟨fun _ => by omega, by omega, by omega⟩
      · have h3 := hb3.lt h
        exact ⟨fun _ => by omega, by omega, by omega⟩
    have hcN : Chg wN w1 (XX X u3 u4 u5) := (HCX.out.trans (Chg.of_below hB)).sub (fun _ _ h => .inl h)
    have hGN : GVb w1 N1 := by obtain ⟨w0, h0, h1, h2⟩ := HG.out; exact ⟨w0, h0, below_then h1 hB, h2⟩
    have hcs : i = 0 ∨ i = 1 ∨ i = 2 ∨ i = 3 ∨ i = 4 ∨ i = 5 ∨ i = 6 ∨ i = 7 ∨ i = 8 ∨ i = 9 ∨ i = 10 ∨ i = 11 ∨ i = 12 ∨ i = 13 ∨ i = 14 ∨ i = 15 ∨ i = 16 ∨ i = 17 ∨ i = 18 ∨ i = 19 ∨ i = 20 := by omega
    rcases hcs with rfl | rfl | rfl | rfl | rfl | rfl | rfl | rfl | rfl | rfl | rfl | rfl | rfl | rfl | rfl | rfl | rfl | rfl | rfl | rfl | rfl
    · exact absurd (hLi.symm.trans htk.1) (by decide)
    · exact absurd (hLi.symm.trans htk.2.1) (by decide)
    · exact absurd (hLi.symm.trans htk.2.2.1) (by decide)
    · cases ho
      refine wpOp_of rfl rfl ?_
      have t1 := cell_below hB c1
      unfold Oper.wp
      go_simp
      exact ⟨htk, hB, ⟨u3, u4, u5, _, u14, u19, u10, u15, u20, rfl, fun _ => rfl, hl2, hl3, hb1, hb2, hb3, hd12, hd13, hd23, hc1, hc2, hc3⟩, hs1, hs2, hs3⟩
    · cases ho
      refine wpOp_of rfl rfl ?_
      have e1 : L 3 = true := by simp [Region.binds] at hdep; first | exact hdep | exact hdep.1 | exact hdep.2 | exact hdep.2.1
      have e2 : L 18 = false := by cases h : L 18 with | false => rfl | true => exact absurd (hLi.symm.trans (hs1 h).1) (by decide)
      have e3 := hl1 e1
      subst e3
      have hcall := HC1.out (XX X u3 u4 u5) N1 w1 hcN hXs hGN
      unfold Oper.wp
      go_simp
      refine hcall.mono ?_
      rintro e w2 ⟨f, F, rfl, hev, hb⟩
      have hbj : BoxI w.heap.size w2 (L 15) (L 18) u3 f := by have h := hb1.below hb; rw [e2] at h ⊢; exact h.other f
      have hstp : ∀ w3, Chg w2 w3 (XX X u3 u4 u5) → Chg w1 w3 (XX X u3 u4 u5) := fun w3 h => (Chg.of_below hb).trans h
      exact ⟨htk, below_then hB hb, ⟨u3, u4, u5, _, u14, u19, f, u15, u20, rfl, fun _ => rfl, hl2, hl3, hbj, hb2.below hb, hb3.below hb, hd12, hd13, hd23, fun _ => ⟨F, hev⟩, hc2.step hstp, hc3.step hstp⟩, fun h => ⟨rfl, (hs1 h).2⟩, hs2, hs3⟩
    · exact absurd (hLi.symm.trans htk.2.2.2.1) (by decide)
    · exact absurd (hLi.symm.trans htk.2.2.2.2.1) (by decide)
    · exact absurd (hLi.symm.trans htk.2.2.2.2.2.1) (by decide)
    · cases ho
      refine wpOp_of rfl rfl ?_
      have t1 := cell_below hB c2
      unfold Oper.wp
      go_simp
      exact ⟨htk, hB, ⟨u3, u4, u5, u9, _, u19, u10, u15, u20, rfl, hl1, fun _ => rfl, hl3, hb1, hb2, hb3, hd12, hd13, hd23, hc1, hc2, hc3⟩, hs1, hs2, hs3⟩
    · cases ho
      refine wpOp_of rfl rfl ?_
      have e1 : L 8 = true := by simp [Region.binds] at hdep; first | exact hdep | exact hdep.1 | exact hdep.2 | exact hdep.2.1
      have e2 : L 19 = false := by cases h : L 19 with | false => rfl | true => exact absurd (hLi.symm.trans (hs2 h).1) (by decide)
      have e3 := hl2 e1
      subst e3
      have hcall := HC2.out (XX X u3 u4 u5) N1 w1 hcN hXs hGN
      unfold Oper.wp
      go_simp
      refine hcall.mono ?_
      rintro e w2 ⟨f, F, rfl, hev, hb⟩
      have hbj : BoxI w.heap.size w2 (L 16) (L 19) u4 f := by have h := hb2.below hb; rw [e2] at h ⊢; exact h.other f
      have hstp : ∀ w3, Chg w2 w3 (XX X u3 u4 u5) → Chg w1 w3 (XX X u3 u4 u5) := fun w3 h => (Chg.of_below hb).trans h
      exact ⟨htk, below_then hB hb, ⟨u3, u4, u5, u9, _, u19, u10, f, u20, rfl, hl1, fun _ => rfl, hl3, hb1.below hb, hbj, hb3.below hb, hd12, hd13, hd23, hc1.step hstp, fun _ => ⟨F, hev⟩, hc3.step hstp⟩, hs1, fun h => ⟨rfl, (hs2 h).2⟩, hs3⟩
    · exact absurd (hLi.symm.trans htk.2.2.2.2.2.2.1) (by decide)
    · exact absurd (hLi.symm.trans htk.2.2.2.2.2.2.2.1) (by decide)
    · exact absurd (hLi.symm.trans htk.2.2.2.2.2.2.2.2) (by decide)
    · cases ho
      refine wpOp_of rfl rfl ?_
      have t1 := cell_below hB c3
      unfold Oper.wp
      go_simp
      exact ⟨htk, hB, ⟨u3, u4, u5, u9, u14, _, u10, u15, u20, rfl, hl1, hl2, fun _ => rfl, hb1, hb2, hb3, hd12, hd13, hd23, hc1, hc2, hc3⟩, hs1, hs2, hs3⟩
    · cases ho
      refine wpOp_of rfl rfl ?_
      have e1 : L 13 = true := by simp [Region.binds] at hdep; first | exact hdep | exact hdep.1 | exact hdep.2 | exact hdep.2.1
      have e2 : L 20 = false := by cases h : L 20 with | false => rfl | true => exact absurd (hLi.symm.trans (hs3 h).1) (by decide)
      have e3 := hl3 e1
      subst e3
      have hcall := HC3.out (XX X u3 u4 u5) N1 w1 hcN hXs hGN
      unfold Oper.wp
      go_simp
      refine hcall.mono ?_
      rintro e w2 ⟨f, F, rfl, hev, hb⟩
      have hbj : BoxI w.heap.size w2 (L 17) (L 20) u5 f := by have h := hb3.below hb; rw [e2] at h ⊢; exact h.other f
      have hstp : ∀ w3, Chg w2 w3 (XX X u3 u4 u5) → Chg w1 w3 (XX X u3 u4 u5) := fun w3 h => (Chg.of_below hb).trans h
      exact ⟨htk, below_then hB hb, ⟨u3, u4, u5, u9, u14, _, u10, u15, f, rfl, hl1, hl2, fun _ => rfl, hb1.below hb, hb2.below hb, hbj, hd12, hd13, hd23, hc1.step hstp, hc2.step hstp, fun _ => ⟨F, hev⟩⟩, hs1, hs2, fun h => ⟨rfl, (hs3 h).2⟩⟩
    · cases ho
      refine wpOp_of rfl rfl ?_
      have e2 : L 18 = false := by cases h : L 18 with | false => rfl | true => exact absurd (hLi.symm.trans (hs1 h).2) (by decide)
      have hB1 := hB.size
      unfold Oper.wp
      go_simp
      have hba := below_alloc (Below.refl _ w1) (.cells #[.nilFunc] 148)
      have hbj : BoxI w.heap.size (w1.alloc (.cells #[.nilFunc] 148)) true (L 18) (.pointer (some ⟨w1.heap.size, 0, none⟩)) u10 := by rw [e2]; exact BoxI.new hB1 _ _
      have hstp : ∀ w3, Chg (w1.alloc (.cells #[.nilFunc] 148)) w3 (XX X (.pointer (some ⟨w1.heap.size, 0, none⟩)) u4 u5) → Chg w1 w3 (XX X u3 u4 u5) := fun w3 h => (Chg.of_below hba).then_ h (fun q hq hx => by
        rcases hx with hx | hx | hx | hx
        · exact .inl hx
        · have := isP_inj hx; omega
        · exact .inr (.inr (.inl hx))
        · exact .inr (.inr (.inr hx)))
      exact ⟨htk, below_then hB hba, ⟨_, u4, u5, u9, u14, u19, u10, u15, u20, rfl, hl1, hl2, hl3, hbj, hb2.below hba, hb3.below hba, fun q h1 h2 => by have := isP_inj h1; have := hb2.lt h2; omega, fun q h1 h2 => by have := isP_inj h1; have := hb3.lt h2; omega, hd23, hc1.step hstp, hc2.step hstp, hc3.step hstp⟩, fun h => ⟨(hs1 h).1, rfl⟩, hs2, hs3⟩
    · cases ho
      refine wpOp_of rfl rfl ?_
      have e2 : L 19 = false := by cases h : L 19 with | false => rfl | true => exact absurd (hLi.symm.trans (hs2 h).2) (by decide)
      have hB1 := hB.size
      unfold Oper.wp
      go_simp
      have hba := below_alloc (Below.refl _ w1) (.cells #[.nilFunc] 148)
      have hbj : BoxI w.heap.size (w1.alloc (.cells #[.nilFunc] 148)) true (L 19) (.pointer (some ⟨w1.heap.size, 0, none⟩)) u15 := by rw [e2]; exact BoxI.new hB1 _ _
      have hstp : ∀ w3, Chg (w1.alloc (.cells #[.nilFunc] 148)) w3 (XX X u3 (.pointer (some ⟨w1.heap.size, 0, none⟩)) u5) → Chg w1 w3 (XX X u3 u4 u5) := fun w3 h => (Chg.of_below hba).then_ h (fun q hq hx => by
        rcases hx with hx | hx | hx | hx
        · exact .inl hx
        · exact .inr (.inl hx)
        · have := isP_inj hx; omega
        · exact .inr (.inr (.inr hx)))
      exact ⟨htk, below_then hB hba, ⟨u3, _, u5, u9, u14, u19, u10, u15, u20, rfl, hl1, hl2, hl3, hb1.below hba, hbj, hb3.below hba, fun q h1 h2 => by have := isP_inj h2; have := hb1.lt h1; omega, hd13, fun q h1 h2 => by have := isP_inj h1; have := hb3.lt h2; omega, hc1.step hstp, hc2.step hstp, hc3.step hstp⟩, hs1, fun h => ⟨(hs2 h).1, rfl⟩, hs3⟩
    · cases ho
      refine wpOp_of rfl rfl ?_
      have e2 : L 20 = false := by cases h : L 20 with | false => rfl | true => exact absurd (hLi.symm.trans (hs3 h).2) (by decide)
      have hB1 := hB.size
      unfold Oper.wp
      go_simp
      have hba := below_alloc (Below.refl _ w1) (.cells #[.nilFunc] 148)
      have hbj : BoxI w.heap.size (w1.alloc (.cells #[.nilFunc] 148)) true (L 20) (.pointer (some ⟨w1.heap.size, 0, none⟩)) u20 := by rw [e2]; exact BoxI.new hB1 _ _
      have hstp : ∀ w3, Chg (w1.alloc (.cells #[.nilFunc] 148)) w3 (XX X u3 u4 (.pointer (some ⟨w1.heap.size, 0, none⟩))) → Chg w1 w3 (XX X u3 u4 u5) := fun w3 h => (Chg.of_below hba).then_ h (fun q hq hx => by
        rcases hx with hx | hx | hx | hx
        · exact .inl hx
        · exact .inr (.inl hx)
        · exact .inr (.inr (.inl hx))
        · have := isP_inj hx; omega)
      exact ⟨htk, below_then hB hba, ⟨u3, u4, _, u9, u14, u19, u10, u15, u20, rfl, hl1, hl2, hl3, hb1.below hba, hb2.below hba, hbj, hd12, fun q h1 h2 => by have := isP_inj h2; have := hb1.lt h1; omega, fun q h1 h2 => by have := isP_inj h2; have := hb2.lt h1; omega, hc1.step hstp, hc2.step hstp, hc3.step hstp⟩, hs1, hs2, fun h => ⟨(hs3 h).1, rfl⟩⟩
    · cases ho
      refine wpOp_of rfl rfl ?_
      simp [Region.binds] at hdep
      have HL1 := Ad.mk hl1; clear hl1; have HL2 := Ad.mk hl2; clear hl2; have HL3 := Ad.mk hl3; clear hl3
      have e1 : L 15 = true := by first | exact hdep | exact hdep.1 | exact hdep.2 | exact hdep.2.1 | exact hdep.2.2
      have e2 : L 4 = true := by first | exact hdep | exact hdep.1 | exact hdep.2 | exact hdep.2.1 | exact hdep.2.2
      obtain ⟨p, x, hu, hp0, hpx, _⟩ := hb1.yes e1
      subst hu
      obtain ⟨F, hF⟩ := hc1 e2
      obtain ⟨kf, cf, hf, _⟩ := (hF w1 (Chg.refl _ _)).calls
      subst hf
      have t1 := blk_cell hpx 0
      have t2 := fun m => blk_frozen hpx m
      have tl := blk_lt hpx
      simp at t1
      unfold Oper.wp
      go_simp
      have hcs := (Chg.refl w1 (XX X (.pointer (some ⟨p, 0, none⟩)) u4 u5)).set (.inr (.inl rfl) : (XX X (.pointer (some ⟨p, 0, none⟩)) u4 u5) p) 0 (.func (.func kf) #[] cf)
      have hbs := below_chg hB ((Chg.refl w1 (· = p)).set rfl 0 (.func (.func kf) #[] cf)) (fun q hq => by have h : q = p := hq; omega)
      have hbj : BoxI w.heap.size (w1.setCell ⟨p, 0, none⟩ (.func (.func kf) #[] cf)) (L 15) true (.pointer (some ⟨p, 0, none⟩)) (.func (.func kf) #[] cf) := by have h := hb1; rw [e1] at h ⊢; exact h.put
      exact ⟨htk, hbs, ⟨_, u4, u5, u9, u14, u19, _, u15, u20, rfl, HL1.out, HL2.out, HL3.out, hbj, hb2.far (hd12 p rfl) _, hb3.far (hd13 p rfl) _, hd12, hd13, hd23, hc1.step (fun w3 h => hcs.trans h), hc2.step (fun w3 h => hcs.trans h), hc3.step (fun w3 h => hcs.trans h)⟩, fun _ => ⟨e2, e1⟩, hs2, hs3⟩
    · cases ho
      refine wpOp_of rfl rfl ?_
      simp [Region.binds] at hdep
      have HL1 := Ad.mk hl1; clear hl1; have HL2 := Ad.mk hl2; clear hl2; have HL3 := Ad.mk hl3; clear hl3
      have e1 : L 16 = true := by first | exact hdep | exact hdep.1 | exact hdep.2 | exact hdep.2.1 | exact hdep.2.2
      have e2 : L 9 = true := by first | exact hdep | exact hdep.1 | exact hdep.2 | exact hdep.2.1 | exact hdep.2.2
      obtain ⟨p, x, hu, hp0, hpx, _⟩ := hb2.yes e1
      subst hu
      obtain ⟨F, hF⟩ := hc2 e2
      obtain ⟨kf, cf, hf, _⟩ := (hF w1 (Chg.refl _ _)).calls
      subst hf
      have t1 := blk_cell hpx 0
      have t2 := fun m => blk_frozen hpx m
      have tl := blk_lt hpx
      simp at t1
      unfold Oper.wp
      go_simp
      have hcs := (Chg.refl w1 (XX X u3 (.pointer (some ⟨p, 0, none⟩)) u5)).set (.inr (.inr (.inl rfl)) : (XX X u3 (.pointer (some ⟨p, 0, none⟩)) u5) p) 0 (.func (.func kf) #[] cf)
      have hbs := below_chg hB ((Chg.refl w1 (· = p)).set rfl 0 (.func (.func kf) #[] cf)) (fun q hq => by have h : q = p := hq; omega)
      have hbj : BoxI w.heap.size (w1.setCell ⟨p, 0, none⟩ (.func (.func kf) #[] cf)) (L 16) true (.pointer (some ⟨p, 0, none⟩)) (.func (.func kf) #[] cf) := by have h := hb2; rw [e1] at h ⊢; exact h.put
      exact ⟨htk, hbs, ⟨u3, _, u5, u9, u14, u19, u10, _, u20, rfl, HL1.out, HL2.out, HL3.out, hb1.far (fun h => hd12 p h rfl) _, hbj, hb3.far (hd23 p rfl) _, hd12, hd13, hd23, hc1.step (fun w3 h => hcs.trans h), hc2.step (fun w3 h => hcs.trans h), hc3.step (fun w3 h => hcs.trans h)⟩, hs1, fun _ => ⟨e2, e1⟩, hs3⟩
    · cases ho
      refine wpOp_of rfl rfl ?_
      simp [Region.binds] at hdep
      have HL1 := Ad.mk hl1; clear hl1; have HL2 := Ad.mk hl2; clear hl2; have HL3 := Ad.mk hl3; clear hl3
      have e1 : L 17 = true := by first | exact hdep | exact hdep.1 | exact hdep.2 | exact hdep.2.1 | exact hdep.2.2
      have e2 : L 14 = true := by first | exact hdep | exact hdep.1 | exact hdep.2 | exact hdep.2.1 | exact hdep.2.2
      obtain ⟨p, x, hu, hp0, hpx, _⟩ := hb3.yes e1
      subst hu
      obtain ⟨F, hF⟩ := hc3 e2
      obtain ⟨kf, cf, hf, _⟩ := (hF w1 (Chg.refl _ _)).calls
      subst hf
      have t1 := blk_cell hpx 0
      have t2 := fun m => blk_frozen hpx m
      have tl := blk_lt hpx
      simp at t1
      unfold Oper.wp
      go_simp
      have hcs := (Chg.refl w1 (XX X u3 u4 (.pointer (some ⟨p, 0, none⟩)))).set (.inr (.inr (.inr rfl)) : (XX X u3 u4 (.pointer (some ⟨p, 0, none⟩))) p) 0 (.func (.func kf) #[] cf)
      have hbs := below_chg hB ((Chg.refl w1 (· = p)).set rfl 0 (.func (.func kf) #[] cf)) (fun q hq => by have h : q = p := hq; omega)
      have hbj : BoxI w.heap.size (w1.setCell ⟨p, 0, none⟩ (.func (.func kf) #[] cf)) (L 17) true (.pointer (some ⟨p, 0, none⟩)) (.func (.func kf) #[] cf) := by have h := hb3; rw [e1] at h ⊢; exact h.put
      exact ⟨htk, hbs, ⟨u3, u4, _, u9, u14, u19, u10, u15, _, rfl, HL1.out, HL2.out, HL3.out, hb1.far (fun h => hd13 p h rfl) _, hb2.far (fun h => hd23 p h rfl) _, hbj, hd12, hd13, hd23, hc1.step (fun w3 h => hcs.trans h), hc2.step (fun w3 h => hcs.trans h), hc3.step (fun w3 h => hcs.trans h)⟩, hs1, hs2, fun _ => ⟨e2, e1⟩⟩
  case fin =>
    intro L a w1 hL ⟨htk, hB, ⟨u3, u4, u5, u9, u14, u19, u10, u15, u20, ha, hl1, hl2, hl3, hb1, hb2, hb3, hd12, hd13, hd23, hc1, hc2, hc3⟩, _, _, _⟩
    subst ha
    obtain ⟨p1, x1, hu1, hq1, hp1, hx1⟩ := hb1.yes (hL 15 (by decide))
    subst hu1
    have h1 := hx1 (hL 18 (by decide))
    subst h1
    obtain ⟨F1, hF1⟩ := hc1 (hL 4 (by decide))
    obtain ⟨p2, x2, hu2, hq2, hp2, hx2⟩ := hb2.yes (hL 16 (by decide))
    subst hu2
    have h2 := hx2 (hL 19 (by decide))
    subst h2
    obtain ⟨F2, hF2⟩ := hc2 (hL 9 (by decide))
    obtain ⟨p3, x3, hu3, hq3, hp3, hx3⟩ := hb3.yes (hL 17 (by decide))
    subst hu3
    have h3 := hx3 (hL 20 (by decide))
    subst h3
    obtain ⟨F3, hF3⟩ := hc3 (hL 14 (by decide))
    have HP1 := Ad.mk hp1
    have HF1 := Ad.mk hF1
    have HQ1 := Ad.mk hq1
    have HP2 := Ad.mk hp2
    have HF2 := Ad.mk hF2
    have HQ2 := Ad.mk hq2
    have HP3 := Ad.mk hp3
    have HF3 := Ad.mk hF3
    have HQ3 := Ad.mk hq3
    have HBW := Ad.mk hB
    have HXS : Ad (∀ q, X q → q < w.heap.size) := ⟨fun q h => (HX.out q h).2.2⟩
    have tl := Nat.lt_of_lt_of_le hl hB.size
    clear hp1 hp2 hp3 hF1 hF2 hF3 hq1 hq2 hq3 hx1 hx2 hx3 hb1 hb2 hb3 hB hL hl1 hl2 hl3 hd12 hd13 hd23 hc1 hc2 hc3 hm1 hm2 hm3 hk1 hk2 hk3 c1 c2 c3
    go_wp2_with fail
    go_ret
    exact ⟨_, fun E => condV (F1 E) (F2 E) (F3 E), rfl, fun w2 hc2 => ⟨⟨_, _, rfl, enters Tryz.func284 (by kernel_rfl) (by kernel_rfl), fun w' a E Q hb' hE hQ hok => cond_calls w2 w' p1 x1 F1 p2 x2 F2 p3 x3 F3 ((hc2.block p1 (blk_lt HP1.out) (fun h => by have := HXS.out _ h; have := HQ1.out; omega)).trans HP1.out) (HF1.out w2 (hc2.sub fun _ _ h => .inl h)) ((hc2.block p2 (blk_lt HP2.out) (fun h => by have := HXS.out _ h; have := HQ2.out; omega)).trans HP2.out) (HF2.out w2 (hc2.sub fun _ _ h => .inl h)) ((hc2.block p3 (blk_lt HP3.out) (fun h => by have := HXS.out _ h; have := HQ3.out; omega)).trans HP3.out) (HF3.out w2 (hc2.sub fun _ _ h => .inl h)) a E Q hb' hE hQ hok⟩, fun E hok => valid_cond (((HF2.out w2 (hc2.sub fun _ _ h => .inl h))).ok E hok) (((HF3.out w2 (hc2.sub fun _ _ h => .inl h))).ok E hok)⟩, HBW.out⟩
end Go.Proofs.YtahnelihohmjfaaGreatDoor.V
namespace Go.Proofs.YtahnelihohmjfaaGreatDoor.V
open Go.RowKit
set_option linter.unusedVariables false
set_option linter.unusedSimpArgs false
theorem disp_number (b : Nat) (w : World) : (method 464 192 (.pointer (some ⟨b, 0, none⟩)) "eddy/expr.ready").run Tryz.prog w = .ok (269, .pointer (some ⟨b, 0, none⟩)) w := by kernel_rfl
theorem disp_quote (b : Nat) (w : World) : (method 464 196 (.pointer (some ⟨b, 0, none⟩)) "eddy/expr.ready").run Tryz.prog w = .ok (271, .pointer (some ⟨b, 0, none⟩)) w := by kernel_rfl
theorem disp_word (b : Nat) (w : World) : (method 464 202 (.pointer (some ⟨b, 0, none⟩)) "eddy/expr.ready").run Tryz.prog w = .ok (273, .pointer (some ⟨b, 0, none⟩)) w := by kernel_rfl
theorem disp_unary (b : Nat) (w : World) : (method 464 205 (.pointer (some ⟨b, 0, none⟩)) "eddy/expr.ready").run Tryz.prog w = .ok (275, .pointer (some ⟨b, 0, none⟩)) w := by kernel_rfl
theorem disp_binary (b : Nat) (w : World) : (method 464 208 (.pointer (some ⟨b, 0, none⟩)) "eddy/expr.ready").run Tryz.prog w = .ok (278, .pointer (some ⟨b, 0, none⟩)) w := by kernel_rfl
theorem disp_cond (b : Nat) (w : World) : (method 464 211 (.pointer (some ⟨b, 0, none⟩)) "eddy/expr.ready").run Tryz.prog w = .ok (283, .pointer (some ⟨b, 0, none⟩)) w := by kernel_rfl
theorem disp_list (b : Nat) (w : World) : (method 464 214 (.pointer (some ⟨b, 0, none⟩)) "eddy/expr.ready").run Tryz.prog w = .ok (285, .pointer (some ⟨b, 0, none⟩)) w := by kernel_rfl
theorem disp_call (b : Nat) (w : World) : (method 464 219 (.pointer (some ⟨b, 0, none⟩)) "eddy/expr.ready").run Tryz.prog w = .ok (289, .pointer (some ⟨b, 0, none⟩)) w := by kernel_rfl
set_option maxHeartbeats 4000000 in
theorem ready_all {Q : Nat → Prop} {w : World} {n : Nat} {v : Value} (h : NodeAt Q w n v) : RdyOK Q w v := by
  have key : ∀ {b : Nat} {o : Obj} {X : Nat → Prop} {N0 : Nat} {w' : World}, Q b → w.heap[b]? = some o → Chg w w' X → (∀ b, X b → (Q b → w.heap.size ≤ b) ∧ N0 ≤ b ∧ b < w'.heap.size) → w'.heap[b]? = some o ∧ ¬ X b := by
    intro b o X N0 w' hq hb hc hX
    have hx : ¬ X b := fun h => by have h1 := (hX b h).1 hq; have h2 := blk_lt hb; omega
    exact ⟨(hc.block b (blk_lt hb) hx).trans hb, hx⟩
  induction h with
  | number b n hq hb hn => exact ⟨_, _, _, rfl, disp_number b, enters Tryz.func269 (by kernel_rfl) (by kernel_rfl), fun X N0 w' hc hX hG => number_ready b n w' (key hq hb hc hX).1 hn X (key hq hb hc hX).2 (fun q h => (hX q h).2.2)⟩
  | quote b s hq hb hs => exact ⟨_, _, _, rfl, disp_quote b, enters Tryz.func271 (by kernel_rfl) (by kernel_rfl), fun X N0 w' hc hX hG => quote_ready b s w' (key hq hb hc hX).1 hs X (key hq hb hc hX).2 (fun q h => (hX q h).2.2)⟩
  | word b s hq hb hs => exact ⟨_, _, _, rfl, disp_word b, enters Tryz.func273 (by kernel_rfl) (by kernel_rfl), fun X N0 w' hc hX hG => word_ready b s w' (key hq hb hc hX).1 X (key hq hb hc hX).2 (fun q h => (hX q h).2.2)⟩
  | unary b op a n hq hb hs _ i => exact ⟨_, _, _, rfl, disp_unary b, enters Tryz.func275 (by kernel_rfl) (by kernel_rfl), fun X N0 w' hc hX hG => unary_ready b op a w' (key hq hb hc hX).1 Q w i X N0 hc hX hG⟩
  | binary b op a1 a2 n1 n2 hq hb hs _ _ i1 i2 => exact ⟨_, _, _, rfl, disp_binary b, enters Tryz.func278 (by kernel_rfl) (by kernel_rfl), fun X N0 w' hc hX hG => binary_ready b op a1 a2 w' (key hq hb hc hX).1 Q w i1 i2 X N0 hc hX hG⟩
  | cond b a1 a2 a3 n1 n2 n3 hq hb _ _ _ i1 i2 i3 => exact ⟨_, _, _, rfl, disp_cond b, enters Tryz.func283 (by kernel_rfl) (by kernel_rfl), fun X N0 w' hc hX hG => cond_ready b a1 a2 a3 w' (key hq hb hc hX).1 Q w i1 i2 i3 X N0 hc hX hG⟩
  | list b A c l ns hq hb hl hn _ i => exact ⟨_, _, _, rfl, disp_list b, enters Tryz.func285 (by kernel_rfl) (by kernel_rfl), fun X N0 w' hc hX hG => list_ready b A c l w' (key hq hb hc hX).1 Q w hl i X N0 hc hX hG⟩
  | call b s k D A c l ns hq hb hs hk hd hl hn _ i => exact ⟨_, _, _, rfl, disp_call b, enters Tryz.func289 (by kernel_rfl) (by kernel_rfl), fun X N0 w' hc hX hG => call_ready b s k D A c l w' (key hq hb hc hX).1 hk hd Q w hl i X N0 hc hX hG⟩
end Go.Proofs.YtahnelihohmjfaaGreatDoor.V
