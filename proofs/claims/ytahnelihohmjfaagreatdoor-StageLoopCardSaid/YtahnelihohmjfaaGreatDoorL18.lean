/- A part of the walk (V75, V76, V77, V78, V79, V80, V81, V82). -/
import Derived.Test.YtahnelihohmjfaaGreatDoorL13
import Derived.Test.YtahnelihohmjfaaGreatDoorL14
import Derived.Test.YtahnelihohmjfaaGreatDoorL16
import Derived.Deep.RegionLaw
import Derived.Deep.DeepMust
namespace Go.Proofs.YtahnelihohmjfaaGreatDoor.V
open Go.RowKit
set_option linter.unusedVariables false
set_option linter.unusedSimpArgs false
/-! ### rows of strings of the call's own -/
def sz (xs : List ByteArray) : Nat := (xs.map (·.size)).sum + xs.length
/-- v is a row of strings (its block from base on); their length together, and their number: at most k -/
def SRow (base : Nat) (w : World) (v : Value) (k : Nat) : Prop := ∃ xs : List ByteArray, w.ownsRow base 9 1 v xs.length (xs.map Value.string) ∧ sz xs ≤ k
theorem SRow.nil (base : Nat) (w : World) : SRow base w (.slice none 0 0) 0 := ⟨[], World.ownsRow_nil _ _ _ _, Nat.le_refl _⟩
theorem SRow.mono {base k k' : Nat} {w : World} {v : Value} (h : SRow base w v k) (hk : k ≤ k') : SRow base w v k' := let ⟨xs, h1, h2⟩ := h; ⟨xs, h1, Nat.le_trans h2 hk⟩
theorem SRow.below {base k : Nat} {w w' : World} {v : Value} (h : SRow base w v k) (hb : Below w.heap.size w w') : SRow base w' v k := let ⟨xs, h1, h2⟩ := h; ⟨xs, own_chg h1 (Chg.of_below (S := fun _ => False) hb) (fun _ _ h => h), h2⟩
theorem SRow.form {base k : Nat} {w : World} {v : Value} (h : SRow base w v k) : ∃ A c xs, v = .slice A xs.length c ∧ StrL w A c xs k := by
  obtain ⟨xs, hown, hk⟩ := h
  rcases hown.2 with ⟨rfl, h0⟩ | ⟨g, cap, cur, rfl, hg, hh, hn, hm, hs, ht⟩
  · exact ⟨none, 0, xs, by rw [h0], ⟨by omega, hk, fun hp => absurd hp (by omega)⟩⟩
  · refine ⟨_, _, xs, rfl, ⟨hn, hk, fun hp => ⟨_, rfl, fun i hi => ?_⟩⟩⟩
    have e1 : (xs.map Value.string)[i]? = some (.string (xs.getD i ⟨#[]⟩)) := by simp [List.getD_eq_getElem?_getD, hi]
    rw [← ht, List.getElem?_take, if_pos (by omega)] at e1
    have e2 := blk_cell hh i
    rw [← Array.getElem?_toList, e1] at e2
    rw [add_plain]
    exact e2
theorem SRow.isSlice {base k : Nat} {w : World} {v : Value} (h : SRow base w v k) : ∃ A n c, v = .slice A n c := let ⟨A, c, xs, e, _⟩ := h.form; ⟨A, _, c, e⟩
/-- from row l in w to row l' in w': nothing but l's own block has changed, and l' lies there or in a new block -/
def SG (w : World) (l : Value) (w' : World) (l' : Value) : Prop := Chg w w' (fun b => some b = l.ownBlock) ∧ (l'.ownBlock = l.ownBlock ∨ ∃ g, l'.ownBlock = some g ∧ w.heap.size ≤ g)
theorem SG.below {w w' : World} (l : Value) (h : Below w.heap.size w w') : SG w l w' l := ⟨Chg.of_below h, .inl rfl⟩
theorem SG.trans {w w1 w2 : World} {l l1 l2 : Value} (h : SG w l w1 l1) (k : SG w1 l1 w2 l2) : SG w l w2 l2 := by
  refine ⟨h.1.then_ k.1 (fun q hq e => ?_), ?_⟩
  · rcases h.2 with e1 | ⟨g, e1, hg⟩
    · rw [← e1]; exact e
    · rw [e1] at e; injection e with e; omega
  · rcases k.2 with e2 | ⟨g, e2, hg⟩
    · rcases h.2 with e1 | ⟨g, e1, hg⟩
      · exact .inl (e2.trans e1)
      · exact .inr ⟨g, e2.trans e1, hg⟩
    · exact .inr ⟨g, e2, Nat.le_trans h.1.size hg⟩
theorem SG.B {base k : Nat} {w w' : World} {l l' : Value} (h : SG w l w' l') (hr : SRow base w l k) (hb : base ≤ w.heap.size) : Below base w w' := by
  obtain ⟨xs, hown, _⟩ := hr
  exact ⟨h.1.os, h.1.tape, h.1.output, h.1.size, fun i hi => h.1.block i (by omega) (fun e => by have := (own_lt hown i e.symm).1; omega)⟩
/-- a block that is not the row's stays -/
theorem SG.blk {w w' : World} {l l' : Value} {b : Nat} {o : Obj} (h : SG w l w' l') (hb : w.heap[b]? = some o) (hn : l.ownBlock ≠ some b) : w'.heap[b]? = some o ∧ l'.ownBlock ≠ some b := by
  refine ⟨(h.1.block b (blk_lt hb) (fun e => hn e.symm)).trans hb, fun e => ?_⟩
  rcases h.2 with e1 | ⟨g, e1, hg⟩
  · exact hn (e1 ▸ e)
  · rw [e1] at e; injection e with e; have := blk_lt hb; omega
theorem SRow.own_ne {base k b : Nat} {w : World} {l : Value} (h : SRow base w l k) (hb : w.heap.size ≤ b) : l.ownBlock ≠ some b := by
  obtain ⟨xs, hown, _⟩ := h
  intro e
  have := (own_lt hown b e).2; omega
theorem info9 : (Tryz.prog.info? 9).map (fun i => (i.zero, i.size, i.bytes)) = some (some (.string ⟨#[]⟩), 1, 16) := by kernel_rfl
theorem sapp_wp {o : Oper} {a : Act} {w : World} {K : Act → World → Prop} {Q : Exit → Act → World → Prop} (s x : Operand) (ho : o.op = .call { callee := .builtin .append, args := #[s, x], argTypes := #[22, 22] })
    (base k : Nat) (v : Value) (hs : a.eval s = v) (h : SRow base w v k) (hbase : base ≤ w.heap.size) (B m c : Nat) (news : List ByteArray) (hx : a.eval x = .slice (some ⟨B, 0, none⟩) m c) (hB : w.heap[B]? = some (.cells (news.map Value.string).toArray 9 (0, 0))) (hn : news.length = m) (hm : 0 < m) (hk : k + m ≤ 10000000)
    (hK : ∀ v' w', SRow base w' v' (k + sz news) → SG w v w' v' → K (a.put o.dst v') w') : Oper.wp Tryz.prog o a w K Q := by
  obtain ⟨xs, hown, hsz⟩ := h
  obtain ⟨i0, hi, hz0, hz1, hz2⟩ := info_parts info9
  have hxl : xs.length ≤ k := by unfold sz at hsz; omega
  refine wp_append_lies w s x 22 ho base 9 i0 _ 1 16 Tryz.underlying22 hi hz0 hz1 hz2 rfl (by omega) v xs.length (xs.map Value.string) hs hown ⟨B, 0, none⟩ m c (news.map Value.string) hx (by simp [hn]) (World.news_of_block hB) (by simp [Value.oneCell']) hm (by unfold maxLen; omega) (by omega) hbase _ rfl ?_
  intro g cap w' ho' hgr hat hlt
  refine hK _ w' ⟨xs ++ news, by simpa [hn] using ho', ?_⟩ ⟨⟨hgr.os, hgr.tape, hgr.output, hgr.size, fun i hi hn => hgr.block i hi hn⟩, ?_⟩
  · unfold sz at hsz ⊢
    simp only [List.map_append, List.sum_append, List.length_append]
    omega
  · rcases hat with e | e
    · exact .inl (by rw [e]; rfl)
    · exact .inr ⟨g, rfl, Nat.le_of_eq e.symm⟩
theorem wpList_sapp {ops : Array Oper} {rest : List Oper} {o : Oper} {a : Act} {w : World} {Q : Exit → Act → World → Prop} (hgd : o.guard = none) (s x : Operand) (ho : o.op = .call { callee := .builtin .append, args := #[s, x], argTypes := #[22, 22] })
    (base k : Nat) (v : Value) (hs : a.eval s = v) (h : SRow base w v k) (hbase : base ≤ w.heap.size) (B m c : Nat) (news : List ByteArray) (hx : a.eval x = .slice (some ⟨B, 0, none⟩) m c) (hB : w.heap[B]? = some (.cells (news.map Value.string).toArray 9 (0, 0))) (hn : news.length = m) (hm : 0 < m) (hk : k + m ≤ 10000000)
    (hK : ∀ v' w', SRow base w' v' (k + sz news) → SG w v w' v' → wpList Tryz.prog ops Q rest (a.put o.dst v') w') : wpList Tryz.prog ops Q (o :: rest) a w :=
  wpList_plain hgd fun K' hK' => sapp_wp s x ho base k v hs h hbase B m c news hx hB hn hm hk fun v' w' h1 h2 => hK' _ _ (hK v' w' h1 h2)
theorem step_sapp {ops : Array Oper} {o : Oper} {a : Act} {w : World} {K : Act → World → Prop} {Q : Exit → Act → World → Prop} {E : Prop} (hgd : o.guard = none) (s x : Operand) (ho : o.op = .call { callee := .builtin .append, args := #[s, x], argTypes := #[22, 22] })
    (base k : Nat) (v : Value) (hs : a.eval s = v) (h : SRow base w v k) (hbase : base ≤ w.heap.size) (B m c : Nat) (news : List ByteArray) (hx : a.eval x = .slice (some ⟨B, 0, none⟩) m c) (hB : w.heap[B]? = some (.cells (news.map Value.string).toArray 9 (0, 0))) (hn : news.length = m) (hm : 0 < m) (hk : k + m ≤ 10000000)
    (hK : ∀ v' w', SRow base w' v' (k + sz news) → SG w v w' v' → K (a.put o.dst v') w') : if Region.wanted o (yielded ops a.tmps) = true then Oper.wp Tryz.prog o a w K Q else E := by
  rw [if_pos (by simp [Region.wanted, hgd])]
  exact sapp_wp s x ho base k v hs h hbase B m c news hx hB hn hm hk hK
/-- a call of a Go function of whatever arguments, as a step of a region that draws -/
theorem step_callsN {ops : Array Oper} {o : Oper} {a : Act} {w : World} {K : Act → World → Prop} {Q : Exit → Act → World → Prop} {E : Prop} (hgd : o.guard = none) (k : Nat) (xs : List Operand) (ts : Array TypeId)
    (ho : o.op = .call { callee := .value (.func k), args := xs.toArray, argTypes := ts }) (hk : ∀ args w, (callFunc k args).run Tryz.prog w = .ok (.enter k args) w) (vs : List Value) (hx : xs.map a.eval = vs)
    (h : Calls Tryz.prog k vs.toArray w (fun e w' => match e with | .returned u => K (a.put o.dst u) w' | .panicked c => Q (.panic c) a w' | .outgrown => LetsOut Q)) :
    if Region.wanted o (yielded ops a.tmps) = true then Oper.wp Tryz.prog o a w K Q else E := by
  have hw : Region.wanted o (yielded ops a.tmps) = true := by simp [Region.wanted, hgd]
  rw [if_pos hw]
  unfold Oper.wp execOp
  have he : a.eval (Operand.func k) = .func (.func k) #[] #[] := rfl
  simp only [ho, resolve, Sem.run_bind, he, List.map_toArray, hx]
  simp [Deferred.ofValue, invoke, hk]
  rw [Oper.upon_enter]
  refine h.mono ?_
  intro e w' h
  cases e <;> exact h
end Go.Proofs.YtahnelihohmjfaaGreatDoor.V
namespace Go.Proofs.YtahnelihohmjfaaGreatDoor.V
open Go.RowKit
set_option linter.unusedVariables false
set_option linter.unusedSimpArgs false
/-- what the writer stands on -/
structure WN (base : Nat) (wN : World) (m : Nat) : Prop where
  lv : LvM wN m
  mb : m < base
  hb : base ≤ wN.heap.size
  gv : GVb wN base
def WR (base T : Nat) (w : World) (l : Value) (e : Ending) (w' : World) : Prop := ∃ l', e = .returned l' ∧ SRow base w' l' T ∧ SG w l w' l'
abbrev WCall (m : Nat) (v l : Value) (want : Int) (w : World) (R : Ending → World → Prop) : Prop := Calls Tryz.prog 67 #[.map (some m), l, v, .int .i64 want] w R
/-- a node is written, where no brackets are wanted -/
def W0 (base : Nat) (wN : World) (m : Nat) (v : Value) (n : Nat) : Prop := ∀ (w : World) (l : Value) (k : Nat), Below base wN w → SRow base w l k → k + 9300 * n ≤ 990004 → WCall m v l 0 w (WR base (k + 9300 * n - 4) w l)
def WA (base : Nat) (wN : World) (m : Nat) (v : Value) (n : Nat) : Prop := ∀ (w : World) (l : Value) (k : Nat) (want : Int), Below base wN w → SRow base w l k → k + 9300 * n ≤ 990000 → WCall m v l want w (WR base (k + 9300 * n) w l)
theorem LvM.B {w w' : World} {m base : Nat} (h : LvM w m) (hb : Below base w w') (hm : m < base) : LvM w' m := let ⟨es, c, h1, h2⟩ := h; ⟨es, c, (hb.block m hm).trans h1, h2⟩
theorem NodeAt.B {w w' : World} {base n : Nat} {v : Value} (h : NodeAt (fun b => b < base) w n v) (hb : Below base w w') : NodeAt (fun b => b < base) w' n v := h.chg (chg_of_B hb) (fun b _ h1 h2 => by omega) (fun _ _ h => h)
theorem blk_B {w w' : World} {base b : Nat} {o : Obj} (h : w.heap[b]? = some o) (hb : Below base w w') (hlt : b < base) : w'.heap[b]? = some o := (hb.block b hlt).trans h
theorem SG.alloc {w w' : World} {l l' : Value} (h : SG w l w' l') (o : Obj) : SG w l (w'.alloc o) l' := h.trans (SG.below _ (below_alloc (Below.refl _ _) o))
theorem SRow.alloc {base k : Nat} {w : World} {l : Value} (h : SRow base w l k) (o : Obj) : SRow base (w.alloc o) l k := h.below (below_alloc (Below.refl _ _) o)
theorem SG.refl (w : World) (l : Value) : SG w l w l := SG.below l (Below.refl _ _)
theorem SG.drew (w : World) (l : Value) : SG w l w.drew l := SG.below l (Below.refl _ _).drew
theorem SRow.drew {base k : Nat} {w : World} {l : Value} (h : SRow base w l k) : SRow base w.drew l k := h.below (Below.refl _ _).drew
set_option maxHeartbeats 8000000 in
set_option maxRecDepth 100000 in
theorem number_write (base : Nat) (wN : World) (m : Nat) (C : WN base wN m) (b : Nat) (n : Int) (hnd : NodeAt (fun b => b < base) wN (1) (.iface 192 (.pointer (some ⟨b, 0, none⟩)))) (hq : b < base) (hb : wN.heap[b]? = some (.cells #[.int .i64 n] 195 (0, 0))) (hn : I64 n) (w : World) (l : Value) (k : Nat) (want : Int) (T : Nat) (hbw : Below base wN w) (hr : SRow base w l k) (hk : k + 9300 * (1) ≤ 990004) (hT : k + 9300 * (1) - 4 ≤ T)
    (hw : (∀ κ : Int, 0 ≤ κ → want ≤ κ) ∨ (W0 base wN m (.iface 192 (.pointer (some ⟨b, 0, none⟩))) (1) ∧ k + 9300 * (1) ≤ T ∧ k + 9300 * (1) ≤ 990000)) : WCall m (.iface 192 (.pointer (some ⟨b, 0, none⟩))) l want w (WR base T w l) := by
  have LV := Ad.mk (level_calls (hnd.B hbw) m (C.lv.B hbw C.mb))
  have HC := Ad.mk C
  have SR := Ad.mk hr
  have BW := Ad.mk hbw
  have HW := Ad.mk hw
  clear hw
  have hbs : base ≤ w.heap.size := Nat.le_trans C.hb hbw.size
  have hbl : b < w.heap.size := by omega
  have hk0 : k ≤ 990004 := by omega
  have HK := Ad.mk hk
  have HT := Ad.mk hT
  clear hk hT
  have hbB := blk_B hb hbw hq
  have c0 := blk_cell hbB 0
  simp at c0
  have f192 := ta_192_192
  have f196 := ta_192_196
  have f202 := ta_192_202
  have f205 := ta_192_205
  have f208 := ta_192_208
  have f211 := ta_192_211
  have f214 := ta_192_214
  have f219 := ta_192_219
  have HN := Ad.mk hn
  have HG := Ad.mk (C.gv.B hbw).gv
  have hil := itoaS_len hn
  clear C hnd hbw hr hb hbB hn
  go_enter Tryz.func67, Tryz.ntmps67
  go_wp2_with (first
    | (go_at_call 84; refine LV.out.mono ?_; rintro e1 w1 ⟨rfl, κ, rfl, hκ0, hκ9⟩)
    | (at_builtin; (refine wpList_sapp rfl _ _ rfl base k l (by rfl) (SR.out.alloc _) (by simp; omega) _ 1 _ [⟨#[40]⟩] (by rfl) (blk_new _ _) rfl (by decide) (by omega) ?_); intro v2 w2 hs2 hg2; have S2 := Ad.mk hs2; have G2 : Ad (SG w1 l w2 v2) := ⟨((SG.refl w1 l).alloc _).trans hg2⟩; clear hs2 hg2)
    | (go_at_call 85; refine (Tryz.strconv_FormatInt_10 n HN.out.1 HN.out.2 _ HG.out.pow).mono ?_; rintro e2 w2 ⟨rfl, k1, os1, hw1⟩; have hb1 := below_grown w1 k1 os1; rw [← hw1] at hb1; have S2 := Ad.mk (SR.out.below hb1); have G2 : Ad (SG w1 l w2 l) := ⟨SG.below l hb1⟩; have hbs2 : base ≤ w2.heap.size := Nat.le_trans hbs hb1.size; clear hb1 hw1)
    | (at_builtin; (refine wpList_sapp rfl _ _ rfl base k l (by rfl) (S2.out.alloc _) (by simp; omega) _ 1 _ [itoaS n] (by rfl) (blk_new _ _) rfl (by decide) (by omega) ?_); intro v3 w3 hs3 hg3; have S3 := Ad.mk hs3; have G3 : Ad (SG w1 l w3 v3) := ⟨(G2.out.alloc _).trans hg3⟩; clear hs3 hg3))
  · have hw0 := HW.out.resolve_left (fun h => absurd (h κ hκ0) (by omega))
    have HW0 := Ad.mk hw0.1
    have HT2 := Ad.mk hw0.2
    clear hw0
    refine (HW0.out w2 v2 _ (BW.out.trans (G2.out.B SR.out hbs)) S2.out (by have := HT2.out.2; show k + 2 + 9300 * (1) ≤ _; omega)).mono ?_
    rintro e3 w3 ⟨l3, rfl, hs3, hg3⟩
    have S3 := Ad.mk hs3
    have G3 := Ad.mk (G2.out.trans hg3)
    have hbs3 : base ≤ w3.heap.size := Nat.le_trans hbs G3.out.1.size
    clear hs3 hg3
    go_wp2_with (at_builtin; go_must (refine wpList_sapp rfl _ _ rfl base _ l3 (by rfl) (S3.out.alloc _) (by simp; omega) _ 1 _ [⟨#[41]⟩] (by rfl) (blk_new _ _) rfl (by decide) (by have := HT2.out.2; show k + 2 + 9300 * (1) - 4 + 1 ≤ _; omega) ?_); intro v4 w4 hs4 hg4; have S4 := Ad.mk hs4; have G4 : Ad (SG w1 l w4 v4) := ⟨(G3.out.alloc _).trans hg4⟩; clear hs4 hg4)
    go_ret
    exact ⟨_, rfl, S4.out.mono (by have := HT2.out.1; have := HK.out; show k + 2 + 9300 * (1) - 4 + 2 ≤ _; omega), G4.out⟩
  · go_ret
    exact ⟨_, rfl, S3.out.mono (by have := HT.out; have := HK.out; unfold sz; simp only [List.map_cons, List.map_nil, List.sum_cons, List.sum_nil, List.length_cons, List.length_nil]; omega), G3.out⟩
set_option maxHeartbeats 8000000 in
set_option maxRecDepth 100000 in
theorem word_write (base : Nat) (wN : World) (m : Nat) (C : WN base wN m) (b : Nat) (s : ByteArray) (hnd : NodeAt (fun b => b < base) wN (1) (.iface 202 (.pointer (some ⟨b, 0, none⟩)))) (hq : b < base) (hb : wN.heap[b]? = some (.cells #[.string s] 204 (0, 0))) (hs : s.size ≤ 24) (w : World) (l : Value) (k : Nat) (want : Int) (T : Nat) (hbw : Below base wN w) (hr : SRow base w l k) (hk : k + 9300 * (1) ≤ 990004) (hT : k + 9300 * (1) - 4 ≤ T)
    (hw : (∀ κ : Int, 0 ≤ κ → want ≤ κ) ∨ (W0 base wN m (.iface 202 (.pointer (some ⟨b, 0, none⟩))) (1) ∧ k + 9300 * (1) ≤ T ∧ k + 9300 * (1) ≤ 990000)) : WCall m (.iface 202 (.pointer (some ⟨b, 0, none⟩))) l want w (WR base T w l) := by
  have LV := Ad.mk (level_calls (hnd.B hbw) m (C.lv.B hbw C.mb))
  have HC := Ad.mk C
  have SR := Ad.mk hr
  have BW := Ad.mk hbw
  have HW := Ad.mk hw
  clear hw
  have hbs : base ≤ w.heap.size := Nat.le_trans C.hb hbw.size
  have hbl : b < w.heap.size := by omega
  have hk0 : k ≤ 990004 := by omega
  have HK := Ad.mk hk
  have HT := Ad.mk hT
  clear hk hT
  have hbB := blk_B hb hbw hq
  have c0 := blk_cell hbB 0
  simp at c0
  have f192 := ta_202_192
  have f196 := ta_202_196
  have f202 := ta_202_202
  have f205 := ta_202_205
  have f208 := ta_202_208
  have f211 := ta_202_211
  have f214 := ta_202_214
  have f219 := ta_202_219
  clear C hnd hbw hr hb hbB
  go_enter Tryz.func67, Tryz.ntmps67
  go_wp2_with (first
    | (go_at_call 84; refine LV.out.mono ?_; rintro e1 w1 ⟨rfl, κ, rfl, hκ0, hκ9⟩)
    | (at_builtin; (refine wpList_sapp rfl _ _ rfl base k l (by rfl) (SR.out.alloc _) (by simp; omega) _ 1 _ [⟨#[40]⟩] (by rfl) (blk_new _ _) rfl (by decide) (by omega) ?_); intro v2 w2 hs2 hg2; have S2 := Ad.mk hs2; have G2 : Ad (SG w1 l w2 v2) := ⟨((SG.refl w1 l).alloc _).trans hg2⟩; clear hs2 hg2)
    | (at_builtin; (refine wpList_sapp rfl _ _ rfl base k l (by rfl) (SR.out.alloc _) (by simp; omega) _ 1 _ [s] (by rfl) (blk_new _ _) rfl (by decide) (by omega) ?_); intro v3 w3 hs3 hg3; have S3 := Ad.mk hs3; have G3 : Ad (SG w1 l w3 v3) := ⟨((SG.refl w1 l).alloc _).trans hg3⟩; clear hs3 hg3))
  · have hw0 := HW.out.resolve_left (fun h => absurd (h κ hκ0) (by omega))
    have HW0 := Ad.mk hw0.1
    have HT2 := Ad.mk hw0.2
    clear hw0
    refine (HW0.out w2 v2 _ (BW.out.trans (G2.out.B SR.out hbs)) S2.out (by have := HT2.out.2; show k + 2 + 9300 * (1) ≤ _; omega)).mono ?_
    rintro e3 w3 ⟨l3, rfl, hs3, hg3⟩
    have S3 := Ad.mk hs3
    have G3 := Ad.mk (G2.out.trans hg3)
    have hbs3 : base ≤ w3.heap.size := Nat.le_trans hbs G3.out.1.size
    clear hs3 hg3
    go_wp2_with (at_builtin; go_must (refine wpList_sapp rfl _ _ rfl base _ l3 (by rfl) (S3.out.alloc _) (by simp; omega) _ 1 _ [⟨#[41]⟩] (by rfl) (blk_new _ _) rfl (by decide) (by have := HT2.out.2; show k + 2 + 9300 * (1) - 4 + 1 ≤ _; omega) ?_); intro v4 w4 hs4 hg4; have S4 := Ad.mk hs4; have G4 : Ad (SG w1 l w4 v4) := ⟨(G3.out.alloc _).trans hg4⟩; clear hs4 hg4)
    go_ret
    exact ⟨_, rfl, S4.out.mono (by have := HT2.out.1; have := HK.out; show k + 2 + 9300 * (1) - 4 + 2 ≤ _; omega), G4.out⟩
  · go_ret
    exact ⟨_, rfl, S3.out.mono (by have := HT.out; have := HK.out; unfold sz; simp only [List.map_cons, List.map_nil, List.sum_cons, List.sum_nil, List.length_cons, List.length_nil]; omega), G3.out⟩
set_option maxHeartbeats 8000000 in
set_option maxRecDepth 100000 in
theorem quote_write (base : Nat) (wN : World) (m : Nat) (C : WN base wN m) (b : Nat) (s : ByteArray) (hnd : NodeAt (fun b => b < base) wN (1) (.iface 196 (.pointer (some ⟨b, 0, none⟩)))) (hq : b < base) (hb : wN.heap[b]? = some (.cells #[.string s] 201 (0, 0))) (hs : s.size ≤ 24) (w : World) (l : Value) (k : Nat) (want : Int) (T : Nat) (hbw : Below base wN w) (hr : SRow base w l k) (hk : k + 9300 * (1) ≤ 990004) (hT : k + 9300 * (1) - 4 ≤ T)
    (hw : (∀ κ : Int, 0 ≤ κ → want ≤ κ) ∨ (W0 base wN m (.iface 196 (.pointer (some ⟨b, 0, none⟩))) (1) ∧ k + 9300 * (1) ≤ T ∧ k + 9300 * (1) ≤ 990000)) : WCall m (.iface 196 (.pointer (some ⟨b, 0, none⟩))) l want w (WR base T w l) := by
  have LV := Ad.mk (level_calls (hnd.B hbw) m (C.lv.B hbw C.mb))
  have HC := Ad.mk C
  have SR := Ad.mk hr
  have BW := Ad.mk hbw
  have HW := Ad.mk hw
  clear hw
  have hbs : base ≤ w.heap.size := Nat.le_trans C.hb hbw.size
  have hbl : b < w.heap.size := by omega
  have hk0 : k ≤ 990004 := by omega
  have HK := Ad.mk hk
  have HT := Ad.mk hT
  clear hk hT
  have hbB := blk_B hb hbw hq
  have c0 := blk_cell hbB 0
  simp at c0
  have f192 := ta_196_192
  have f196 := ta_196_196
  have f202 := ta_196_202
  have f205 := ta_196_205
  have f208 := ta_196_208
  have f211 := ta_196_211
  have f214 := ta_196_214
  have f219 := ta_196_219
  have HG := Ad.mk (C.gv.B hbw).gv
  have HS := Ad.mk hs
  clear C hnd hbw hr hb hbB hs
  go_enter Tryz.func67, Tryz.ntmps67
  go_wp2_with (first
    | (go_at_call 84; refine LV.out.mono ?_; rintro e1 w1 ⟨rfl, κ, rfl, hκ0, hκ9⟩)
    | (at_builtin; (refine wpList_sapp rfl _ _ rfl base k l (by rfl) (SR.out.alloc _) (by simp; omega) _ 1 _ [⟨#[40]⟩] (by rfl) (blk_new _ _) rfl (by decide) (by omega) ?_); intro v2 w2 hs2 hg2; have S2 := Ad.mk hs2; have G2 : Ad (SG w1 l w2 v2) := ⟨((SG.refl w1 l).alloc _).trans hg2⟩; clear hs2 hg2)
    | (go_at_call 88; refine (ofText_calls (fun _ => False) _ _ (by have := HS.out; omega)).mono ?_; rintro e2 w2 ⟨A2, c2, rfl, ha2, hb2⟩; have HA2 := Ad.mk ha2; have HB2 := Ad.mk hb2; clear ha2 hb2)
    | (go_at_call 87; refine (print_text c2 A2 s (fun b => b < w2.heap.size) _ HS.out (HA2.out.weak fun b hb _ => hb) (fun _ h => h) (HG.out.below HB2.out)).mono ?_; rintro e3 w3 ⟨t3, rfl, ht3, hb3⟩; have HB3 := Ad.mk (below_then HB2.out hb3); have HT3 := Ad.mk ht3; clear hb3 ht3)
    | (go_at_call 86; refine (eplain_calls t3 (by have := HT3.out; omega) _).mono ?_; rintro e4 w4 ⟨t4, rfl, ht4, hb4⟩; have hb14 := below_then HB3.out hb4; have hq4 : t4.size ≤ 9224 := (by have := HT3.out; omega); have S4 := Ad.mk (SR.out.below hb14); have G4 : Ad (SG w1 l w4 l) := ⟨SG.below l hb14⟩; have hbs4 : base ≤ w4.heap.size := Nat.le_trans hbs hb14.size; clear hb14 hb4)
    | (at_builtin; (refine wpList_sapp rfl _ _ rfl base k l (by rfl) (S4.out.alloc _) (by simp; omega) _ 1 _ [t4] (by rfl) (blk_new _ _) rfl (by decide) (by omega) ?_); intro v5 w5 hs5 hg5; have S5 := Ad.mk hs5; have G5 : Ad (SG w1 l w5 v5) := ⟨(G4.out.alloc _).trans hg5⟩; clear hs5 hg5))
  · have hw0 := HW.out.resolve_left (fun h => absurd (h κ hκ0) (by omega))
    have HW0 := Ad.mk hw0.1
    have HT2 := Ad.mk hw0.2
    clear hw0
    refine (HW0.out w2 v2 _ (BW.out.trans (G2.out.B SR.out hbs)) S2.out (by have := HT2.out.2; show k + 2 + 9300 * (1) ≤ _; omega)).mono ?_
    rintro e3 w3 ⟨l3, rfl, hs3, hg3⟩
    have S3 := Ad.mk hs3
    have G3 := Ad.mk (G2.out.trans hg3)
    have hbs3 : base ≤ w3.heap.size := Nat.le_trans hbs G3.out.1.size
    clear hs3 hg3
    go_wp2_with (at_builtin; go_must (refine wpList_sapp rfl _ _ rfl base _ l3 (by rfl) (S3.out.alloc _) (by simp; omega) _ 1 _ [⟨#[41]⟩] (by rfl) (blk_new _ _) rfl (by decide) (by have := HT2.out.2; show k + 2 + 9300 * (1) - 4 + 1 ≤ _; omega) ?_); intro v4 w4 hs4 hg4; have S4 := Ad.mk hs4; have G4 : Ad (SG w1 l w4 v4) := ⟨(G3.out.alloc _).trans hg4⟩; clear hs4 hg4)
    go_ret
    exact ⟨_, rfl, S4.out.mono (by have := HT2.out.1; have := HK.out; show k + 2 + 9300 * (1) - 4 + 2 ≤ _; omega), G4.out⟩
  · go_ret
    exact ⟨_, rfl, S5.out.mono (by have := HT.out; have := HK.out; unfold sz; simp only [List.map_cons, List.map_nil, List.sum_cons, List.sum_nil, List.length_cons, List.length_nil]; omega), G5.out⟩
end Go.Proofs.YtahnelihohmjfaaGreatDoor.V
namespace Go.Proofs.YtahnelihohmjfaaGreatDoor.V
open Go.RowKit
set_option linter.unusedVariables false
set_option linter.unusedSimpArgs false
theorem hb_da {base : Nat} {w : World} (h : base ≤ w.heap.size) (o : Obj) : base ≤ (w.drew.alloc o).heap.size := Nat.le_trans h (below_alloc (Below.refl _ w.drew) o).size
theorem B_alloc' {base : Nat} {wN w' : World} (h : Below base wN w') (hb : base ≤ w'.heap.size) (o : Obj) : Below base wN (w'.alloc o) := h.trans ((below_alloc (Below.refl _ w') o).mono hb)
set_option maxHeartbeats 8000000 in
set_option maxRecDepth 100000 in
theorem unary_write (base : Nat) (wN : World) (m : Nat) (C : WN base wN m) (b : Nat) (op : ByteArray) (a1 : Value) (n1 : Nat) (hnd : NodeAt (fun b => b < base) wN (n1 + 1) (.iface 205 (.pointer (some ⟨b, 0, none⟩)))) (hq : b < base) (hb : wN.heap[b]? = some (.cells #[.string op, a1] 207 (0, 0))) (hs : op.size ≤ 24) (h1 : WA base wN m a1 n1) (w : World) (l : Value) (k : Nat) (want : Int) (T : Nat) (hbw : Below base wN w) (hr : SRow base w l k) (hk : k + 9300 * (n1 + 1) ≤ 990004) (hT : k + 9300 * (n1 + 1) - 4 ≤ T)
    (hw : (∀ κ : Int, 0 ≤ κ → want ≤ κ) ∨ (W0 base wN m (.iface 205 (.pointer (some ⟨b, 0, none⟩))) (n1 + 1) ∧ k + 9300 * (n1 + 1) ≤ T ∧ k + 9300 * (n1 + 1) ≤ 990000)) : WCall m (.iface 205 (.pointer (some ⟨b, 0, none⟩))) l want w (WR base T w l) := by
  have LV := Ad.mk (level_calls (hnd.B hbw) m (C.lv.B hbw C.mb))
  have HC := Ad.mk C
  have SR := Ad.mk hr
  have BW := Ad.mk hbw
  have HW := Ad.mk hw
  clear hw
  have hbs : base ≤ w.heap.size := Nat.le_trans C.hb hbw.size
  have hbl : b < w.heap.size := by omega
  have hk0 : k ≤ 990004 := by omega
  have HK := Ad.mk hk
  have HT := Ad.mk hT
  clear hk hT
  have HLV : Ad (∀ w', Below base wN w' → Calls Tryz.prog 84 #[.map (some m), .iface 205 (.pointer (some ⟨b, 0, none⟩))] w' (fun e w2 => w2 = w' ∧ ∃ k : Int, e = .returned (.int .i64 k) ∧ 0 ≤ k ∧ k ≤ 9)) := ⟨fun w' h => level_calls (hnd.B h) m (C.lv.B h C.mb)⟩
  have hbB := blk_B hb hbw hq
  have c0 := blk_cell hbB 0
  have c1 := blk_cell hbB 1
  simp at c0 c1
  have f192 := ta_205_192
  have f196 := ta_205_196
  have f202 := ta_205_202
  have f205 := ta_205_205
  have f208 := ta_205_208
  have f211 := ta_205_211
  have f214 := ta_205_214
  have f219 := ta_205_219
  have HBB := Ad.mk hbB
  have H1 := Ad.mk h1
  clear C hnd hbw hr hb hbB h1
  go_enter Tryz.func67, Tryz.ntmps67
  go_upto_region 17 with (first
    | (go_at_call 84; refine LV.out.mono ?_; rintro e1 w1 ⟨rfl, κ, rfl, hκ0, hκ9⟩)
    | (at_builtin; (refine wpList_sapp rfl _ _ rfl base k l (by rfl) (SR.out.alloc _) (by simp; omega) _ 1 _ [⟨#[40]⟩] (by rfl) (blk_new _ _) rfl (by decide) (by omega) ?_); intro v2 w2 hs2 hg2; have S2 := Ad.mk hs2; have G2 : Ad (SG w1 l w2 v2) := ⟨((SG.refl w1 l).alloc _).trans hg2⟩; clear hs2 hg2))
  · have hw0 := HW.out.resolve_left (fun h => absurd (h κ hκ0) (by omega))
    have HW0 := Ad.mk hw0.1
    have HT2 := Ad.mk hw0.2
    clear hw0
    refine (HW0.out w2 v2 _ (BW.out.trans (G2.out.B SR.out hbs)) S2.out (by have := HT2.out.2; show k + 2 + 9300 * (n1 + 1) ≤ _; omega)).mono ?_
    rintro e3 w3 ⟨l3, rfl, hs3, hg3⟩
    have S3 := Ad.mk hs3
    have G3 := Ad.mk (G2.out.trans hg3)
    have hbs3 : base ≤ w3.heap.size := Nat.le_trans hbs G3.out.1.size
    clear hs3 hg3
    go_wp2_with (at_builtin; go_must (refine wpList_sapp rfl _ _ rfl base _ l3 (by rfl) (S3.out.alloc _) (by simp; omega) _ 1 _ [⟨#[41]⟩] (by rfl) (blk_new _ _) rfl (by decide) (by have := HT2.out.2; show k + 2 + 9300 * (n1 + 1) - 4 + 1 ≤ _; omega) ?_); intro v4 w4 hs4 hg4; have S4 := Ad.mk hs4; have G4 : Ad (SG w1 l w4 v4) := ⟨(G3.out.alloc _).trans hg4⟩; clear hs4 hg4)
    go_ret
    exact ⟨_, rfl, S4.out.mono (by have := HT2.out.1; have := HK.out; show k + 2 + 9300 * (n1 + 1) - 4 + 2 ≤ _; omega), G4.out⟩
  · have hen := enters Tryz.func84 (by kernel_rfl) (by kernel_rfl)
    have hew := enters Tryz.func67 (by kernel_rfl) (by kernel_rfl)
    have HEL := Ad.mk hen
    have HEW := Ad.mk hew
    clear hen hew
    have hbd : Below base w1 w1.drew := (Below.refl _ _).drew
    have HBD := Ad.mk (BW.out.trans hbd)
    clear hbd
    have hsz : sz [op] = op.size + 1 := by simp [sz]
    have HSZ := Ad.mk hsz
    clear hsz
    go_region_held3 (fun w' => w'.cell? ⟨b, 0, none⟩ = some (.string op) ∧ w'.cell? ⟨b, 1, none⟩ = some a1) (first | (with_reducible exact ⟨x0, x1⟩) | (with_reducible exact ⟨u0, u1⟩) | (with_reducible exact ⟨c0, c1⟩) | go_keep) (first
      | (go_at_call 84; refine (HLV.out _ HBD.out).mono ?_; rintro e5 w5 ⟨hwe, κ2, rfl, hκ20, hκ29⟩; subst hwe)
      | (go_at_call 84; refine (HLV.out _ (B_alloc' HBD.out hbs _)).mono ?_; rintro e5 w5 ⟨hwe, κ2, rfl, hκ20, hκ29⟩; subst hwe)
      | (go_at_call 84; refine (HLV.out _ (BW.out.trans (G3.out.B SR.out hbs))).mono ?_; rintro e5 w5 ⟨hwe, κ2, rfl, hκ20, hκ29⟩; subst hwe)
      | (refine step_sapp rfl _ _ rfl base k l (by rfl) (SR.out.drew.alloc _) (hb_da hbs _) _ 1 _ [op] (by rfl) (blk_new _ _) rfl (by decide) (by omega) ?_; intro v3 w3 hs3 hg3; have S3 := Ad.mk hs3; have G3 : Ad (SG w1 l w3 v3) := ⟨((SG.drew w1 l).alloc _).trans hg3⟩; have hbB3 := blk_B HBB.out (G3.out.B SR.out hbs) hq; have u0 := blk_cell hbB3 0; have u1 := blk_cell hbB3 1; simp at u0 u1; clear hs3 hg3 hbB3)
      | (go_at_call 67; refine (H1.out _ _ _ _ (BW.out.trans (G3.out.B SR.out hbs)) S3.out (by have := HK.out; have := HSZ.out; omega)).mono ?_; rintro e6 w6 ⟨l6, rfl, hs6, hg6⟩; have S6 := Ad.mk hs6; have G6 := Ad.mk (G3.out.trans hg6); have hbB6 := blk_B HBB.out (G6.out.B SR.out hbs) hq; have x0 := blk_cell hbB6 0; have x1 := blk_cell hbB6 1; simp at x0 x1; clear hs6 hg6 hbB6)
      | fail)
    all_goals
      go_wp2_with fail
      go_ret
      exact ⟨_, rfl, S6.out.mono (by have := HK.out; have := HT.out; have := HSZ.out; omega), G6.out⟩
end Go.Proofs.YtahnelihohmjfaaGreatDoor.V
namespace Go.Proofs.YtahnelihohmjfaaGreatDoor.V
open Go.RowKit
set_option linter.unusedVariables false
set_option linter.unusedSimpArgs false
set_option maxHeartbeats 8000000 in
set_option maxRecDepth 100000 in
theorem binary_write (base : Nat) (wN : World) (m : Nat) (C : WN base wN m) (b : Nat) (op : ByteArray) (a1 a2 : Value) (n1 n2 : Nat) (hnd : NodeAt (fun b => b < base) wN (n1 + n2 + 1) (.iface 208 (.pointer (some ⟨b, 0, none⟩)))) (hq : b < base) (hb : wN.heap[b]? = some (.cells #[.string op, a1, a2] 210 (0, 0))) (hs : op.size ≤ 24) (h1 : WA base wN m a1 n1) (h2 : WA base wN m a2 n2) (w : World) (l : Value) (k : Nat) (want : Int) (T : Nat) (hbw : Below base wN w) (hr : SRow base w l k) (hk : k + 9300 * (n1 + n2 + 1) ≤ 990004) (hT : k + 9300 * (n1 + n2 + 1) - 4 ≤ T)
    (hw : (∀ κ : Int, 0 ≤ κ → want ≤ κ) ∨ (W0 base wN m (.iface 208 (.pointer (some ⟨b, 0, none⟩))) (n1 + n2 + 1) ∧ k + 9300 * (n1 + n2 + 1) ≤ T ∧ k + 9300 * (n1 + n2 + 1) ≤ 990000)) : WCall m (.iface 208 (.pointer (some ⟨b, 0, none⟩))) l want w (WR base T w l) := by
  have LV := Ad.mk (level_calls (hnd.B hbw) m (C.lv.B hbw C.mb))
  have HC := Ad.mk C
  have SR := Ad.mk hr
  have BW := Ad.mk hbw
  have HW := Ad.mk hw
  clear hw
  have hbs : base ≤ w.heap.size := Nat.le_trans C.hb hbw.size
  have hbl : b < w.heap.size := by omega
  have hk0 : k ≤ 990004 := by omega
  have HK := Ad.mk hk
  have HT := Ad.mk hT
  clear hk hT
  have hbB := blk_B hb hbw hq
  have c0 := blk_cell hbB 0
  have c1 := blk_cell hbB 1
  have c2 := blk_cell hbB 2
  simp at c0 c1 c2
  have f192 := ta_208_192
  have f196 := ta_208_196
  have f202 := ta_208_202
  have f205 := ta_208_205
  have f208 := ta_208_208
  have f211 := ta_208_211
  have f214 := ta_208_214
  have f219 := ta_208_219
  have HBB := Ad.mk hbB
  have H1 := Ad.mk h1
  have H2 := Ad.mk h2
  have LVM := Ad.mk (C.lv.B hbw C.mb)
  have hsz : sz [op] = op.size + 1 := by simp [sz]
  have HSZ := Ad.mk hsz
  clear C hnd hbw hr hb hbB h1 h2 hsz
  go_enter Tryz.func67, Tryz.ntmps67
  go_upto_region 21 with (first
    | (go_at_call 84; refine LV.out.mono ?_; rintro e1 w1 ⟨rfl, κ, rfl, hκ0, hκ9⟩)
    | (at_builtin; (refine wpList_sapp rfl _ _ rfl base k l (by rfl) (SR.out.alloc _) (by simp; omega) _ 1 _ [⟨#[40]⟩] (by rfl) (blk_new _ _) rfl (by decide) (by omega) ?_); intro v2 w2 hs2 hg2; have S2 := Ad.mk hs2; have G2 : Ad (SG w1 l w2 v2) := ⟨((SG.refl w1 l).alloc _).trans hg2⟩; clear hs2 hg2)
    | (at_lookup; refine wpList_look_lvl rfl _ _ rfl m (by rfl) LVM.out _ (by rfl) ?_; intro p q r hr3; have HR := Ad.mk hr3; clear hr3))
  · have hw0 := HW.out.resolve_left (fun h => absurd (h κ hκ0) (by omega))
    have HW0 := Ad.mk hw0.1
    have HT2 := Ad.mk hw0.2
    clear hw0
    refine (HW0.out w2 v2 _ (BW.out.trans (G2.out.B SR.out hbs)) S2.out (by have := HT2.out.2; show k + 2 + 9300 * (n1 + n2 + 1) ≤ _; omega)).mono ?_
    rintro e3 w3 ⟨l3, rfl, hs3, hg3⟩
    have S3 := Ad.mk hs3
    have G3 := Ad.mk (G2.out.trans hg3)
    have hbs3 : base ≤ w3.heap.size := Nat.le_trans hbs G3.out.1.size
    clear hs3 hg3
    go_wp2_with (at_builtin; go_must (refine wpList_sapp rfl _ _ rfl base _ l3 (by rfl) (S3.out.alloc _) (by simp; omega) _ 1 _ [⟨#[41]⟩] (by rfl) (blk_new _ _) rfl (by decide) (by have := HT2.out.2; show k + 2 + 9300 * (n1 + n2 + 1) - 4 + 1 ≤ _; omega) ?_); intro v4 w4 hs4 hg4; have S4 := Ad.mk hs4; have G4 : Ad (SG w1 l w4 v4) := ⟨(G3.out.alloc _).trans hg4⟩; clear hs4 hg4)
    go_ret
    exact ⟨_, rfl, S4.out.mono (by have := HT2.out.1; have := HK.out; show k + 2 + 9300 * (n1 + n2 + 1) - 4 + 2 ≤ _; omega), G4.out⟩
  · have XB := Ad.mk (blk_new w1 (.cells #[.int .i64 p, .int .i64 q, .int .i64 r] 190))
    have SW := Ad.mk (SR.out.alloc (.cells #[.int .i64 p, .int .i64 q, .int .i64 r] 190))
    have GW := Ad.mk ((SG.refl w1 l).alloc (.cells #[.int .i64 p, .int .i64 q, .int .i64 r] 190))
    have HNE := Ad.mk (SR.out.own_ne (Nat.le_refl w1.heap.size))
    clear c0 c1 c2
    generalize w1.alloc (.cells #[.int .i64 p, .int .i64 q, .int .i64 r] 190) = W at XB SW GW ⊢
    have HBW := Ad.mk (blk_B HBB.out (GW.out.B SR.out hbs) hq)
    have c1 : W.cell? ⟨b, 1, none⟩ = some a1 := blk_cell HBW.out 1
    have v1 : W.cell? ⟨w1.heap.size, 1, none⟩ = some (.int .i64 q) := blk_cell XB.out 1
    have hlW := blk_lt HBW.out
    have hlX := blk_lt XB.out
    have BWD := Ad.mk (BW.out.trans ((GW.out.trans (SG.drew W l)).B SR.out hbs))
    go_region_held3 (fun w' => w'.cell? ⟨b, 1, none⟩ = some a1 ∧ w'.cell? ⟨w1.heap.size, 1, none⟩ = some (.int .i64 q)) (first | (with_reducible exact ⟨x0, x1⟩) | (with_reducible exact ⟨c1, v1⟩) | go_keep) (first
      | (go_at_call 67; refine (H1.out _ _ _ _ BWD.out SW.out.drew (by have := HK.out; omega)).mono ?_; rintro e3 w3 ⟨l3, rfl, hs3, hg3⟩; have S3 := Ad.mk hs3; have G3W := Ad.mk ((SG.drew W l).trans hg3); have hbB3 := blk_B HBB.out ((GW.out.trans G3W.out).B SR.out hbs) hq; have hx3 := (G3W.out.blk XB.out HNE.out).1; have x0 : w3.cell? ⟨b, 1, none⟩ = some a1 := blk_cell hbB3 1; have x1 : w3.cell? ⟨w1.heap.size, 1, none⟩ = some (.int .i64 q) := blk_cell hx3 1; clear hs3 hg3 hbB3 hx3)
      | fail)
    have G3 := Ad.mk (GW.out.trans G3W.out)
    have X3 := Ad.mk (G3W.out.blk XB.out HNE.out)
    have HB3 := Ad.mk (blk_B HBB.out (G3.out.B SR.out hbs) hq)
    have hbs3 : base ≤ w3.heap.size := Nat.le_trans hbs G3.out.1.size
    clear c1 v1 hlW hlX x0 x1
    have c0 : w3.cell? ⟨b, 0, none⟩ = some (.string op) := blk_cell HB3.out 0
    have c2 : w3.cell? ⟨b, 2, none⟩ = some a2 := blk_cell HB3.out 2
    have v2 : w3.cell? ⟨w1.heap.size, 2, none⟩ = some (.int .i64 r) := blk_cell X3.out.1 2
    have hl3 := blk_lt HB3.out
    have hlx3 := blk_lt X3.out.1
    have BW3 := Ad.mk (BW.out.trans (G3.out.B SR.out hbs))
    go_upto_region 22 with (fail)
    go_region_held3 (fun w' => w'.cell? ⟨b, 0, none⟩ = some (.string op) ∧ w'.cell? ⟨b, 2, none⟩ = some a2 ∧ w'.cell? ⟨w1.heap.size, 2, none⟩ = some (.int .i64 r)) (first | (with_reducible exact ⟨y0, y1, y2⟩) | (with_reducible exact ⟨u0, u1, u2⟩) | (with_reducible exact ⟨c0, c2, v2⟩) | go_keep) (first
      | (refine step_sapp rfl _ _ rfl base _ _ (by rfl) (S3.out.drew.alloc _) (hb_da hbs3 _) _ 1 _ [op] (by rfl) (blk_new _ _) rfl (by decide) (by have := HK.out; omega) ?_; intro l5 w5 hs5 hg5; have S5 := Ad.mk hs5; have G5W := Ad.mk (((SG.drew w3 l3).alloc _).trans hg5); have hbB5 := blk_B HBB.out ((G3.out.trans G5W.out).B SR.out hbs) hq; have hx5 := (G5W.out.blk X3.out.1 X3.out.2).1; have u0 : w5.cell? ⟨b, 0, none⟩ = some (.string op) := blk_cell hbB5 0; have u1 : w5.cell? ⟨b, 2, none⟩ = some a2 := blk_cell hbB5 2; have u2 : w5.cell? ⟨w1.heap.size, 2, none⟩ = some (.int .i64 r) := blk_cell hx5 2; have B5 := Ad.mk (BW.out.trans ((G3.out.trans G5W.out).B SR.out hbs)); clear hs5 hg5 hbB5 hx5)
      | (go_at_call 67; refine (H2.out _ _ _ _ B5.out S5.out (by have := HK.out; have := HSZ.out; omega)).mono ?_; rintro e6 w6 ⟨l6, rfl, hs6, hg6⟩; have S6 := Ad.mk hs6; have G6W := Ad.mk (G5W.out.trans hg6); have hbB6 := blk_B HBB.out ((G3.out.trans G6W.out).B SR.out hbs) hq; have hx6 := (G6W.out.blk X3.out.1 X3.out.2).1; have y0 : w6.cell? ⟨b, 0, none⟩ = some (.string op) := blk_cell hbB6 0; have y1 : w6.cell? ⟨b, 2, none⟩ = some a2 := blk_cell hbB6 2; have y2 : w6.cell? ⟨w1.heap.size, 2, none⟩ = some (.int .i64 r) := blk_cell hx6 2; clear hs6 hg6 hbB6 hx6)
      | fail)
    go_wp2_with fail
    go_ret
    exact ⟨_, rfl, S6.out.mono (by have := HK.out; have := HT.out; have := HSZ.out; omega), G3.out.trans G6W.out⟩
end Go.Proofs.YtahnelihohmjfaaGreatDoor.V
namespace Go.Proofs.YtahnelihohmjfaaGreatDoor.V
open Go.RowKit
set_option linter.unusedVariables false
set_option linter.unusedSimpArgs false
set_option maxHeartbeats 8000000 in
set_option maxRecDepth 100000 in
theorem cond_write (base : Nat) (wN : World) (m : Nat) (C : WN base wN m) (b : Nat) (a1 a2 a3 : Value) (n1 n2 n3 : Nat) (hnd : NodeAt (fun b => b < base) wN (n1 + n2 + n3 + 1) (.iface 211 (.pointer (some ⟨b, 0, none⟩)))) (hq : b < base) (hb : wN.heap[b]? = some (.cells #[a1, a2, a3] 213 (0, 0))) (h1 : WA base wN m a1 n1) (h2 : WA base wN m a2 n2) (h3 : WA base wN m a3 n3) (w : World) (l : Value) (k : Nat) (want : Int) (T : Nat) (hbw : Below base wN w) (hr : SRow base w l k) (hk : k + 9300 * (n1 + n2 + n3 + 1) ≤ 990004) (hT : k + 9300 * (n1 + n2 + n3 + 1) - 4 ≤ T)
    (hw : (∀ κ : Int, 0 ≤ κ → want ≤ κ) ∨ (W0 base wN m (.iface 211 (.pointer (some ⟨b, 0, none⟩))) (n1 + n2 + n3 + 1) ∧ k + 9300 * (n1 + n2 + n3 + 1) ≤ T ∧ k + 9300 * (n1 + n2 + n3 + 1) ≤ 990000)) : WCall m (.iface 211 (.pointer (some ⟨b, 0, none⟩))) l want w (WR base T w l) := by
  have LV := Ad.mk (level_calls (hnd.B hbw) m (C.lv.B hbw C.mb))
  have HC := Ad.mk C
  have SR := Ad.mk hr
  have BW := Ad.mk hbw
  have HW := Ad.mk hw
  clear hw
  have hbs : base ≤ w.heap.size := Nat.le_trans C.hb hbw.size
  have hbl : b < w.heap.size := by omega
  have hk0 : k ≤ 990004 := by omega
  have HK := Ad.mk hk
  have HT := Ad.mk hT
  clear hk hT
  have hbB := blk_B hb hbw hq
  have c0 := blk_cell hbB 0
  have c1 := blk_cell hbB 1
  have c2 := blk_cell hbB 2
  simp at c0 c1 c2
  have f192 := ta_211_192
  have f196 := ta_211_196
  have f202 := ta_211_202
  have f205 := ta_211_205
  have f208 := ta_211_208
  have f211 := ta_211_211
  have f214 := ta_211_214
  have f219 := ta_211_219
  have HBB := Ad.mk hbB
  have H1 := Ad.mk h1
  have H2 := Ad.mk h2
  have H3 := Ad.mk h3
  clear C hnd hbw hr hb hbB h1 h2 h3
  go_enter Tryz.func67, Tryz.ntmps67
  go_upto_region 25 with (first
    | (go_at_call 84; refine LV.out.mono ?_; rintro e1 w1 ⟨rfl, κ, rfl, hκ0, hκ9⟩)
    | (at_builtin; (refine wpList_sapp rfl _ _ rfl base k l (by rfl) (SR.out.alloc _) (by simp; omega) _ 1 _ [⟨#[40]⟩] (by rfl) (blk_new _ _) rfl (by decide) (by omega) ?_); intro v2 w2 hs2 hg2; have S2 := Ad.mk hs2; have G2 : Ad (SG w1 l w2 v2) := ⟨((SG.refl w1 l).alloc _).trans hg2⟩; clear hs2 hg2))
  · have hw0 := HW.out.resolve_left (fun h => absurd (h κ hκ0) (by omega))
    have HW0 := Ad.mk hw0.1
    have HT2 := Ad.mk hw0.2
    clear hw0
    refine (HW0.out w2 v2 _ (BW.out.trans (G2.out.B SR.out hbs)) S2.out (by have := HT2.out.2; show k + 2 + 9300 * (n1 + n2 + n3 + 1) ≤ _; omega)).mono ?_
    rintro e3 w3 ⟨l3, rfl, hs3, hg3⟩
    have S3 := Ad.mk hs3
    have G3 := Ad.mk (G2.out.trans hg3)
    have hbs3 : base ≤ w3.heap.size := Nat.le_trans hbs G3.out.1.size
    clear hs3 hg3
    go_wp2_with (at_builtin; go_must (refine wpList_sapp rfl _ _ rfl base _ l3 (by rfl) (S3.out.alloc _) (by simp; omega) _ 1 _ [⟨#[41]⟩] (by rfl) (blk_new _ _) rfl (by decide) (by have := HT2.out.2; show k + 2 + 9300 * (n1 + n2 + n3 + 1) - 4 + 1 ≤ _; omega) ?_); intro v4 w4 hs4 hg4; have S4 := Ad.mk hs4; have G4 : Ad (SG w1 l w4 v4) := ⟨(G3.out.alloc _).trans hg4⟩; clear hs4 hg4)
    go_ret
    exact ⟨_, rfl, S4.out.mono (by have := HT2.out.1; have := HK.out; show k + 2 + 9300 * (n1 + n2 + n3 + 1) - 4 + 2 ≤ _; omega), G4.out⟩
  · have A1 := Ad.mk (SG.refl w1 l)
    have HZ : Ad (sz [⟨#[105, 102]⟩] = 3 ∧ sz [⟨#[116, 104, 101, 110]⟩] = 5 ∧ sz [⟨#[101, 108, 115, 101]⟩] = 5) := ⟨rfl, rfl, rfl⟩
    clear c0 c1 c2
    have c0 : w1.cell? ⟨b, 0, none⟩ = some a1 := blk_cell (blk_B HBB.out (A1.out.B SR.out hbs) hq) 0
    have hl1 := blk_lt (blk_B HBB.out (A1.out.B SR.out hbs) hq)
    go_region_held3 (fun w' => w'.cell? ⟨b, 0, none⟩ = some a1) (first | (with_reducible exact y1) | (with_reducible exact u1) | (with_reducible exact c0) | go_keep) (first
      | (refine step_sapp rfl _ _ rfl base _ _ (by rfl) (SR.out.drew.alloc _) (hb_da hbs _) _ 1 _ [⟨#[105, 102]⟩] (by rfl) (blk_new _ _) rfl (by decide) (by have := HK.out; have := HZ.out; omega) ?_; intro l15 w15 hs hg; have S15 := Ad.mk hs; have G15 := Ad.mk (A1.out.trans (((SG.drew w1 l).alloc _).trans hg)); have u1 : w15.cell? ⟨b, 0, none⟩ = some a1 := blk_cell (blk_B HBB.out (G15.out.B SR.out hbs) hq) 0; have B15 := Ad.mk (BW.out.trans (G15.out.B SR.out hbs)); clear hs hg)
      | (go_at_call 67; refine (H1.out _ _ _ _ B15.out S15.out (by have := HK.out; have := HZ.out; omega)).mono ?_; rintro e16 w16 ⟨l16, rfl, hs, hg⟩; have S16 := Ad.mk hs; have G16 := Ad.mk (G15.out.trans hg); have y1 : w16.cell? ⟨b, 0, none⟩ = some a1 := blk_cell (blk_B HBB.out (G16.out.B SR.out hbs) hq) 0; clear hs hg)
      | fail)
    have hbs16 : base ≤ w16.heap.size := Nat.le_trans hbs G16.out.1.size
    clear c0 hl1
    clear y1
    have c1 : w16.cell? ⟨b, 1, none⟩ = some a2 := blk_cell (blk_B HBB.out (G16.out.B SR.out hbs) hq) 1
    have hl2 := blk_lt (blk_B HBB.out (G16.out.B SR.out hbs) hq)
    go_upto_region 26 with (fail)
    go_region_held3 (fun w' => w'.cell? ⟨b, 1, none⟩ = some a2) (first | (with_reducible exact y2) | (with_reducible exact u2) | (with_reducible exact c1) | go_keep) (first
      | (refine step_sapp rfl _ _ rfl base _ _ (by rfl) (S16.out.drew.alloc _) (hb_da hbs16 _) _ 1 _ [⟨#[116, 104, 101, 110]⟩] (by rfl) (blk_new _ _) rfl (by decide) (by have := HK.out; have := HZ.out; omega) ?_; intro l25 w25 hs hg; have S25 := Ad.mk hs; have G25 := Ad.mk (G16.out.trans (((SG.drew w16 l16).alloc _).trans hg)); have u2 : w25.cell? ⟨b, 1, none⟩ = some a2 := blk_cell (blk_B HBB.out (G25.out.B SR.out hbs) hq) 1; have B25 := Ad.mk (BW.out.trans (G25.out.B SR.out hbs)); clear hs hg)
      | (go_at_call 67; refine (H2.out _ _ _ _ B25.out S25.out (by have := HK.out; have := HZ.out; omega)).mono ?_; rintro e26 w26 ⟨l26, rfl, hs, hg⟩; have S26 := Ad.mk hs; have G26 := Ad.mk (G25.out.trans hg); have y2 : w26.cell? ⟨b, 1, none⟩ = some a2 := blk_cell (blk_B HBB.out (G26.out.B SR.out hbs) hq) 1; clear hs hg)
      | fail)
    have hbs26 : base ≤ w26.heap.size := Nat.le_trans hbs G26.out.1.size
    clear c1 hl2
    clear y2
    have c2 : w26.cell? ⟨b, 2, none⟩ = some a3 := blk_cell (blk_B HBB.out (G26.out.B SR.out hbs) hq) 2
    have hl3 := blk_lt (blk_B HBB.out (G26.out.B SR.out hbs) hq)
    go_upto_region 27 with (fail)
    go_region_held3 (fun w' => w'.cell? ⟨b, 2, none⟩ = some a3) (first | (with_reducible exact y3) | (with_reducible exact u3) | (with_reducible exact c2) | go_keep) (first
      | (refine step_sapp rfl _ _ rfl base _ _ (by rfl) (S26.out.drew.alloc _) (hb_da hbs26 _) _ 1 _ [⟨#[101, 108, 115, 101]⟩] (by rfl) (blk_new _ _) rfl (by decide) (by have := HK.out; have := HZ.out; omega) ?_; intro l35 w35 hs hg; have S35 := Ad.mk hs; have G35 := Ad.mk (G26.out.trans (((SG.drew w26 l26).alloc _).trans hg)); have u3 : w35.cell? ⟨b, 2, none⟩ = some a3 := blk_cell (blk_B HBB.out (G35.out.B SR.out hbs) hq) 2; have B35 := Ad.mk (BW.out.trans (G35.out.B SR.out hbs)); clear hs hg)
      | (go_at_call 67; refine (H3.out _ _ _ _ B35.out S35.out (by have := HK.out; have := HZ.out; omega)).mono ?_; rintro e36 w36 ⟨l36, rfl, hs, hg⟩; have S36 := Ad.mk hs; have G36 := Ad.mk (G35.out.trans hg); have y3 : w36.cell? ⟨b, 2, none⟩ = some a3 := blk_cell (blk_B HBB.out (G36.out.B SR.out hbs) hq) 2; clear hs hg)
      | fail)
    have hbs36 : base ≤ w36.heap.size := Nat.le_trans hbs G36.out.1.size
    clear c2 hl3
    clear y3
    go_wp2_with fail
    go_ret
    exact ⟨_, rfl, S36.out.mono (by have := HK.out; have := HT.out; have := HZ.out; omega), G36.out⟩
end Go.Proofs.YtahnelihohmjfaaGreatDoor.V
namespace Go.Proofs.YtahnelihohmjfaaGreatDoor.V
open Go.RowKit
set_option linter.unusedVariables false
set_option linter.unusedSimpArgs false
def kS (k : Nat) (ns : List Nat) (i : Nat) : Nat := k + 2 * i + 9300 * (ns.take i).sum
theorem sum_take_le (ns : List Nat) (i : Nat) : (ns.take i).sum ≤ ns.sum := by
  have h : ns.sum = (ns.take i).sum + (ns.drop i).sum := by rw [← List.sum_append, List.take_append_drop]
  omega
theorem sum_take_succ (ns : List Nat) (i : Nat) (h : i < ns.length) : (ns.take (i + 1)).sum = (ns.take i).sum + ns.getD i 0 := by
  rw [List.take_succ_eq_append_getElem h, List.sum_append, List.getD_eq_getElem?_getD, List.getElem?_eq_getElem h]
  simp
theorem kS_succ (k : Nat) (ns : List Nat) (i : Nat) (h : i < ns.length) : kS k ns (i + 1) = kS k ns i + 2 + 9300 * ns.getD i 0 := by
  unfold kS; rw [sum_take_succ ns i h]; omega
theorem kS_le (k : Nat) (ns : List Nat) (i : Nat) (h : i ≤ ns.length) : kS k ns i ≤ k + 2 * ns.length + 9300 * ns.sum := by
  unfold kS; have := sum_take_le ns i; omega
set_option maxHeartbeats 8000000 in
set_option maxRecDepth 100000 in
theorem all_write (base : Nat) (wN : World) (m : Nat) (C : WN base wN m) (A : Option Addr) (c : Nat) (l : List Value) (ns : List Nat) (hn : ns.length = l.length) (hI : IfL (fun b => b < base) wN A c l) (hwa : ∀ i, i < l.length → WA base wN m (l.getD i undef) (ns.getD i 0)) (w : World) (lv : Value) (k : Nat) (hbw : Below base wN w) (hr : SRow base w lv k) (hk : k + 2 * ns.length + 9300 * ns.sum ≤ 990000) :
    Calls Tryz.prog 89 #[.map (some m), lv, .slice A l.length c] w (WR base (k + 2 * ns.length + 9300 * ns.sum) w lv) := by
  have HC := Ad.mk C
  have HI := Ad.mk hI
  have HW := Ad.mk hwa
  have SR := Ad.mk hr
  have BW := Ad.mk hbw
  have HN := Ad.mk hn
  have HKL : Ad (∀ i, i ≤ ns.length → kS k ns i ≤ 990000) := ⟨fun i hi => Nat.le_trans (kS_le k ns i hi) hk⟩
  have HKE : Ad (kS k ns ns.length ≤ k + 2 * ns.length + 9300 * ns.sum) := ⟨kS_le k ns _ (Nat.le_refl _)⟩
  have hbs : base ≤ w.heap.size := Nat.le_trans C.hb hbw.size
  have hm6 := hI.m
  have HZ : Ad (sz [⟨#[44]⟩] = 2) := ⟨rfl⟩
  obtain ⟨T, hT⟩ : ∃ T, k + 2 * ns.length + 9300 * ns.sum = T := ⟨_, rfl⟩
  rw [hT] at HKE ⊢
  clear C hI hwa hr hbw hn hk hT
  go_enter Tryz.func89, Tryz.ntmps89
  go_wp2_with fail
  go_loopw [1, 11] (fun v1 v11 wr => ∃ i : Nat, i ≤ l.length ∧ v11 = .int .i64 i ∧ Ad (SRow base wr v1 (kS k ns i) ∧ SG w lv wr v1)) (fun _ v11 _ => l.length - (intOf v11).toNat)
  case atStart => exact ⟨0, Nat.zero_le _, rfl, ⟨by simpa [kS] using SR.out, SG.refl w lv⟩⟩
  case round =>
    obtain ⟨i, hi, rfl, ⟨hs0, hg0⟩⟩ := hrel
    have S0 := Ad.mk hs0
    have G0 := Ad.mk hg0
    have B0 := Ad.mk (BW.out.trans (hg0.B SR.out hbs))
    have hbs0 : base ≤ wr.heap.size := Nat.le_trans hbs hg0.1.size
    clear hs0 hg0
    by_cases hlt : i < l.length
    · obtain ⟨ad, rfl, hc⟩ := HI.out.ad (chg_of_B B0.out) (fun b h1 h2 => by omega) (by omega)
      have g0 := hc i hlt
      obtain ⟨x, hx⟩ : ∃ x, l.getD i undef = x := ⟨_, rfl⟩
      have H1 := Ad.mk (HW.out i hlt)
      have HKS := Ad.mk (kS_succ k ns i (by have := HN.out; omega))
      have HK1 := Ad.mk (HKL.out (i + 1) (by have := HN.out; omega))
      obtain ⟨y, hy⟩ : ∃ y, ns.getD i 0 = y := ⟨_, rfl⟩
      rw [hx] at g0 H1
      rw [hy] at H1 HKS
      have j0 : (0 : Int) ≤ (i : Int) := by omega
      have j1 : (i : Int) < (l.length : Int) := by omega
      clear hc hx hy
      by_cases hi0 : i = 0
      · have q0 : ¬ (0 : Int) < (i : Int) := by omega
        clear hi0
        go_wp2_with (go_at_call 67; refine (H1.out wr u1 _ 0 B0.out S0.out (by have := HKS.out; have := HK1.out; omega)).mono ?_; rintro e3 w3 ⟨l3, rfl, hs3, hg3⟩; have S3 := Ad.mk hs3; have G3 := Ad.mk (G0.out.trans hg3); clear hs3 hg3)
        go_roundw
        case rel => exact ⟨i + 1, by omega, by go_num, ⟨S3.out.mono (by have := HKS.out; omega), G3.out⟩⟩
        case measure => simp [intOf]; omega
      · have q0 : (0 : Int) < (i : Int) := by omega
        clear hi0
        go_wp2_with (first
          | (at_builtin; refine wpList_sapp rfl _ _ rfl base _ _ (by rfl) (S0.out.alloc _) (by simp; omega) _ 1 _ [⟨#[44]⟩] (by rfl) (blk_new _ _) rfl (by decide) (by have := HKS.out; have := HK1.out; omega) ?_; intro l2 w2 hs2 hg2; have S2 := Ad.mk hs2; have G2 := Ad.mk ((G0.out.alloc _).trans hg2); have B2 := Ad.mk (BW.out.trans (((G0.out.alloc _).trans hg2).B SR.out hbs)); clear hs2 hg2)
          | (go_at_call 67; refine (H1.out w2 l2 _ 0 B2.out S2.out (by have := HKS.out; have := HK1.out; have := HZ.out; omega)).mono ?_; rintro e3 w3 ⟨l3, rfl, hs3, hg3⟩; have S3 := Ad.mk hs3; have G3 := Ad.mk (G2.out.trans hg3); clear hs3 hg3)
          | fail)
        go_roundw
        case rel => exact ⟨i + 1, by omega, by go_num, ⟨S3.out.mono (by have := HKS.out; have := HZ.out; omega), G3.out⟩⟩
        case measure => simp [intOf]; omega
    · have hil : i = ns.length := by have := HN.out; omega
      go_wp2_with fail
      go_ret
      exact ⟨_, rfl, S0.out.mono (by rw [hil]; exact HKE.out), G0.out⟩
end Go.Proofs.YtahnelihohmjfaaGreatDoor.V
namespace Go.Proofs.YtahnelihohmjfaaGreatDoor.V
open Go.RowKit
set_option linter.unusedVariables false
set_option linter.unusedSimpArgs false
theorem hb_da2 {base : Nat} {w : World} (h : base ≤ w.heap.size) (o o' : Obj) : base ≤ ((w.drew.alloc o).alloc o').heap.size := Nat.le_trans (hb_da h o) (below_alloc (Below.refl _ _) o').size
set_option maxHeartbeats 8000000 in
set_option maxRecDepth 100000 in
theorem list_write (base : Nat) (wN : World) (m : Nat) (C : WN base wN m) (b : Nat) (A : Option Addr) (c : Nat) (vs : List Value) (ns : List Nat) (hnd : NodeAt (fun b => b < base) wN (ns.sum + 1) (.iface 214 (.pointer (some ⟨b, 0, none⟩)))) (hq : b < base) (hb : wN.heap[b]? = some (.cells #[.slice A vs.length c] 218 (0, 0))) (hI : IfL (fun b => b < base) wN A c vs) (hn : ns.length = vs.length) (hwa : ∀ i, i < vs.length → WA base wN m (vs.getD i undef) (ns.getD i 0)) (w : World) (l : Value) (k : Nat) (want : Int) (T : Nat) (hbw : Below base wN w) (hr : SRow base w l k) (hk : k + 9300 * (ns.sum + 1) ≤ 990004) (hT : k + 9300 * (ns.sum + 1) - 4 ≤ T)
    (hw : (∀ κ : Int, 0 ≤ κ → want ≤ κ) ∨ (W0 base wN m (.iface 214 (.pointer (some ⟨b, 0, none⟩))) (ns.sum + 1) ∧ k + 9300 * (ns.sum + 1) ≤ T ∧ k + 9300 * (ns.sum + 1) ≤ 990000)) : WCall m (.iface 214 (.pointer (some ⟨b, 0, none⟩))) l want w (WR base T w l) := by
  have LV := Ad.mk (level_calls (hnd.B hbw) m (C.lv.B hbw C.mb))
  have HC := Ad.mk C
  have SR := Ad.mk hr
  have BW := Ad.mk hbw
  have HW := Ad.mk hw
  clear hw
  have hbs : base ≤ w.heap.size := Nat.le_trans C.hb hbw.size
  have hbl : b < w.heap.size := by omega
  have hk0 : k ≤ 990004 := by omega
  have HK := Ad.mk hk
  have HT := Ad.mk hT
  clear hk hT
  have hbB := blk_B hb hbw hq
  have c0 := blk_cell hbB 0
  simp at c0
  have f192 := ta_214_192
  have f196 := ta_214_196
  have f202 := ta_214_202
  have f205 := ta_214_205
  have f208 := ta_214_208
  have f211 := ta_214_211
  have f214 := ta_214_214
  have f219 := ta_214_219
  have HBB := Ad.mk hbB
  have HALL := Ad.mk (all_write base wN m C A c vs ns hn hI hwa)
  have hm6 : ns.length ≤ 6 := by have := hI.m; omega
  have HZ : Ad (sz [⟨#[91]⟩] = 2 ∧ sz [⟨#[93]⟩] = 2) := ⟨rfl, rfl⟩
  clear C hnd hbw hr hb hbB hI hn hwa
  go_enter Tryz.func67, Tryz.ntmps67
  go_upto_region 30 with (first
    | (go_at_call 84; refine LV.out.mono ?_; rintro e1 w1 ⟨rfl, κ, rfl, hκ0, hκ9⟩)
    | (at_builtin; (refine wpList_sapp rfl _ _ rfl base k l (by rfl) (SR.out.alloc _) (by simp; omega) _ 1 _ [⟨#[40]⟩] (by rfl) (blk_new _ _) rfl (by decide) (by omega) ?_); intro v2 w2 hs2 hg2; have S2 := Ad.mk hs2; have G2 : Ad (SG w1 l w2 v2) := ⟨((SG.refl w1 l).alloc _).trans hg2⟩; clear hs2 hg2))
  · have hw0 := HW.out.resolve_left (fun h => absurd (h κ hκ0) (by omega))
    have HW0 := Ad.mk hw0.1
    have HT2 := Ad.mk hw0.2
    clear hw0
    refine (HW0.out w2 v2 _ (BW.out.trans (G2.out.B SR.out hbs)) S2.out (by have := HT2.out.2; show k + 2 + 9300 * (ns.sum + 1) ≤ _; omega)).mono ?_
    rintro e3 w3 ⟨l3, rfl, hs3, hg3⟩
    have S3 := Ad.mk hs3
    have G3 := Ad.mk (G2.out.trans hg3)
    have hbs3 : base ≤ w3.heap.size := Nat.le_trans hbs G3.out.1.size
    clear hs3 hg3
    go_wp2_with (at_builtin; go_must (refine wpList_sapp rfl _ _ rfl base _ l3 (by rfl) (S3.out.alloc _) (by simp; omega) _ 1 _ [⟨#[41]⟩] (by rfl) (blk_new _ _) rfl (by decide) (by have := HT2.out.2; show k + 2 + 9300 * (ns.sum + 1) - 4 + 1 ≤ _; omega) ?_); intro v4 w4 hs4 hg4; have S4 := Ad.mk hs4; have G4 : Ad (SG w1 l w4 v4) := ⟨(G3.out.alloc _).trans hg4⟩; clear hs4 hg4)
    go_ret
    exact ⟨_, rfl, S4.out.mono (by have := HT2.out.1; have := HK.out; show k + 2 + 9300 * (ns.sum + 1) - 4 + 2 ≤ _; omega), G4.out⟩
  · go_region_held3 (fun w' => w'.cell? ⟨b, 0, none⟩ = some (.slice A vs.length c)) (first | (with_reducible exact z0) | (with_reducible exact y0) | (with_reducible exact u0) | (with_reducible exact c0) | go_keep) (first
      | (refine step_sapp rfl _ _ rfl base _ _ (by rfl) S6.out hbs6 _ 1 _ [⟨#[93]⟩] (by rfl) XF6.out.1 rfl (by decide) (by have := HK.out; have := HZ.out; omega) ?_; intro l7 w7 hs hg; have S7 := Ad.mk hs; have G7 := Ad.mk (G6.out.trans hg); have z0 : w7.cell? ⟨b, 0, none⟩ = some (.slice A vs.length c) := blk_cell (blk_B HBB.out (G7.out.B SR.out hbs) hq) 0; clear hs hg)
      | (refine step_sapp rfl _ _ rfl base _ _ (by rfl) (S6.out.alloc _) (Nat.le_trans hbs6 (below_alloc (Below.refl _ _) _).size) _ 1 _ [⟨#[93]⟩] (by rfl) (blk_new _ _) rfl (by decide) (by have := HK.out; have := HZ.out; omega) ?_; intro l7 w7 hs hg; have S7 := Ad.mk hs; have G7 := Ad.mk ((G6.out.alloc _).trans hg); have z0 : w7.cell? ⟨b, 0, none⟩ = some (.slice A vs.length c) := blk_cell (blk_B HBB.out (G7.out.B SR.out hbs) hq) 0; clear hs hg)
      | (go_at_call 89; refine (HALL.out _ _ _ B5.out S5.out (by have := HK.out; have := HZ.out; omega)).mono ?_; rintro e6 w6 ⟨l6, rfl, hs, hg⟩; have S6 := Ad.mk hs; have G6 := Ad.mk (G5.out.trans hg); have hbs6 : base ≤ w6.heap.size := Nat.le_trans hbs G6.out.1.size; have XF6 := Ad.mk (hg.blk XF.out.1 XF.out.2); have y0 : w6.cell? ⟨b, 0, none⟩ = some (.slice A vs.length c) := blk_cell (blk_B HBB.out (G6.out.B SR.out hbs) hq) 0; clear hs hg)
      | (go_at_call 89; refine (HALL.out _ _ _ (B_alloc' B5.out (Nat.le_trans hbs G5.out.1.size) _) (S5.out.alloc _) (by have := HK.out; have := HZ.out; omega)).mono ?_; rintro e6 w6 ⟨l6, rfl, hs, hg⟩; have S6 := Ad.mk hs; have G6 := Ad.mk ((G5.out.alloc _).trans hg); have hbs6 : base ≤ w6.heap.size := Nat.le_trans hbs G6.out.1.size; have XF6 := Ad.mk (hg.blk (blk_new w5 (.cells #[.string ⟨#[93]⟩] 9)) (S5.out.own_ne (Nat.le_refl _))); have y0 : w6.cell? ⟨b, 0, none⟩ = some (.slice A vs.length c) := blk_cell (blk_B HBB.out (G6.out.B SR.out hbs) hq) 0; clear hs hg)
      | (go_at_call 89; refine (HALL.out _ _ _ B5.out S5.out (by have := HK.out; have := HZ.out; omega)).mono ?_; rintro e6 w6 ⟨l6, rfl, hs, hg⟩; have S6 := Ad.mk hs; have G6 := Ad.mk (G5.out.trans hg); have hbs6 : base ≤ w6.heap.size := Nat.le_trans hbs G6.out.1.size; have y0 : w6.cell? ⟨b, 0, none⟩ = some (.slice A vs.length c) := blk_cell (blk_B HBB.out (G6.out.B SR.out hbs) hq) 0; clear hs hg)
      | (refine step_sapp rfl _ _ rfl base _ _ (by rfl) (SR.out.drew.alloc _) (hb_da hbs _) _ 1 _ [⟨#[91]⟩] (by rfl) (blk_new _ _) rfl (by decide) (by have := HK.out; omega) ?_; intro l5 w5 hs hg; have S5 := Ad.mk hs; have G5 := Ad.mk (((SG.drew w1 l).alloc _).trans hg); have B5 := Ad.mk (BW.out.trans (G5.out.B SR.out hbs)); have u0 : w5.cell? ⟨b, 0, none⟩ = some (.slice A vs.length c) := blk_cell (blk_B HBB.out (G5.out.B SR.out hbs) hq) 0; clear hs hg)
      | (refine step_sapp rfl _ _ rfl base _ _ (by rfl) ((SR.out.drew.alloc _).alloc _) (hb_da2 hbs _ _) _ 1 _ [⟨#[91]⟩] (by rfl) (blk_alloc (blk_new w1.drew _) _) rfl (by decide) (by have := HK.out; omega) ?_; intro l5 w5 hs hg; have S5 := Ad.mk hs; have G5 := Ad.mk ((((SG.drew w1 l).alloc _).alloc _).trans hg); have B5 := Ad.mk (BW.out.trans (G5.out.B SR.out hbs)); have XF := Ad.mk (hg.blk (blk_new2 (g := w1.heap.size + 1) (o := .cells #[.string ⟨#[93]⟩] 9) (by simp)) (SR.out.own_ne (Nat.le_succ w1.heap.size))); have u0 : w5.cell? ⟨b, 0, none⟩ = some (.slice A vs.length c) := blk_cell (blk_B HBB.out (G5.out.B SR.out hbs) hq) 0; clear hs hg)
      | (refine step_sapp rfl _ _ rfl base _ _ (by rfl) ((SR.out.drew.alloc _).alloc _) (hb_da2 hbs _ _) _ 1 _ [⟨#[91]⟩] (by rfl) (blk_new2 (by simp)) rfl (by decide) (by have := HK.out; omega) ?_; intro l5 w5 hs hg; have S5 := Ad.mk hs; have G5 := Ad.mk ((((SG.drew w1 l).alloc _).alloc _).trans hg); have B5 := Ad.mk (BW.out.trans (G5.out.B SR.out hbs)); have XF := Ad.mk (hg.blk (blk_alloc (blk_new w1.drew (.cells #[.string ⟨#[93]⟩] 9)) _) (SR.out.own_ne (Nat.le_refl w1.heap.size))); have u0 : w5.cell? ⟨b, 0, none⟩ = some (.slice A vs.length c) := blk_cell (blk_B HBB.out (G5.out.B SR.out hbs) hq) 0; clear hs hg)
      | fail)
    all_goals
      go_wp2_with fail
      go_ret
      exact ⟨_, rfl, S7.out.mono (by have := HK.out; have := HT.out; have := HZ.out; omega), G7.out⟩
set_option maxHeartbeats 8000000 in
set_option maxRecDepth 100000 in
theorem call_write (base : Nat) (wN : World) (m : Nat) (C : WN base wN m) (b : Nat) (s : ByteArray) (nn : Int) (ff : Value) (A : Option Addr) (c : Nat) (vs : List Value) (ns : List Nat) (hnd : NodeAt (fun b => b < base) wN (ns.sum + 1) (.iface 219 (.pointer (some ⟨b, 0, none⟩)))) (hq : b < base) (hb : wN.heap[b]? = some (.cells #[.string s, .int .i64 nn, ff, .slice A vs.length c] 224 (0, 0))) (hs : s.size ≤ 24) (hI : IfL (fun b => b < base) wN A c vs) (hn : ns.length = vs.length) (hwa : ∀ i, i < vs.length → WA base wN m (vs.getD i undef) (ns.getD i 0)) (w : World) (l : Value) (k : Nat) (want : Int) (T : Nat) (hbw : Below base wN w) (hr : SRow base w l k) (hk : k + 9300 * (ns.sum + 1) ≤ 990004) (hT : k + 9300 * (ns.sum + 1) - 4 ≤ T)
    (hw : (∀ κ : Int, 0 ≤ κ → want ≤ κ) ∨ (W0 base wN m (.iface 219 (.pointer (some ⟨b, 0, none⟩))) (ns.sum + 1) ∧ k + 9300 * (ns.sum + 1) ≤ T ∧ k + 9300 * (ns.sum + 1) ≤ 990000)) : WCall m (.iface 219 (.pointer (some ⟨b, 0, none⟩))) l want w (WR base T w l) := by
  have LV := Ad.mk (level_calls (hnd.B hbw) m (C.lv.B hbw C.mb))
  have HC := Ad.mk C
  have SR := Ad.mk hr
  have BW := Ad.mk hbw
  have HW := Ad.mk hw
  clear hw
  have hbs : base ≤ w.heap.size := Nat.le_trans C.hb hbw.size
  have hbl : b < w.heap.size := by omega
  have hk0 : k ≤ 990004 := by omega
  have HK := Ad.mk hk
  have HT := Ad.mk hT
  clear hk hT
  have hbB := blk_B hb hbw hq
  have c0 := blk_cell hbB 0
  have c1 := blk_cell hbB 1
  have c2 := blk_cell hbB 2
  have c3 := blk_cell hbB 3
  simp at c0 c1 c2 c3
  have f192 := ta_219_192
  have f196 := ta_219_196
  have f202 := ta_219_202
  have f205 := ta_219_205
  have f208 := ta_219_208
  have f211 := ta_219_211
  have f214 := ta_219_214
  have f219 := ta_219_219
  have HBB := Ad.mk hbB
  have HALL := Ad.mk (all_write base wN m C A c vs ns hn hI hwa)
  have hm6 : ns.length ≤ 6 := by have := hI.m; omega
  have HZ : Ad (sz [s, ⟨#[40]⟩] = s.size + 3 ∧ sz [⟨#[41]⟩] = 2) := ⟨by unfold sz; show s.size + (1 + 0) + 2 = _; omega, rfl⟩
  clear C hnd hbw hr hb hbB hI hn hwa
  go_enter Tryz.func67, Tryz.ntmps67
  go_upto_region 33 with (first
    | (go_at_call 84; refine LV.out.mono ?_; rintro e1 w1 ⟨rfl, κ, rfl, hκ0, hκ9⟩)
    | (at_builtin; (refine wpList_sapp rfl _ _ rfl base k l (by rfl) (SR.out.alloc _) (by simp; omega) _ 1 _ [⟨#[40]⟩] (by rfl) (blk_new _ _) rfl (by decide) (by omega) ?_); intro v2 w2 hs2 hg2; have S2 := Ad.mk hs2; have G2 : Ad (SG w1 l w2 v2) := ⟨((SG.refl w1 l).alloc _).trans hg2⟩; clear hs2 hg2))
  · have hw0 := HW.out.resolve_left (fun h => absurd (h κ hκ0) (by omega))
    have HW0 := Ad.mk hw0.1
    have HT2 := Ad.mk hw0.2
    clear hw0
    refine (HW0.out w2 v2 _ (BW.out.trans (G2.out.B SR.out hbs)) S2.out (by have := HT2.out.2; show k + 2 + 9300 * (ns.sum + 1) ≤ _; omega)).mono ?_
    rintro e3 w3 ⟨l3, rfl, hs3, hg3⟩
    have S3 := Ad.mk hs3
    have G3 := Ad.mk (G2.out.trans hg3)
    have hbs3 : base ≤ w3.heap.size := Nat.le_trans hbs G3.out.1.size
    clear hs3 hg3
    go_wp2_with (at_builtin; go_must (refine wpList_sapp rfl _ _ rfl base _ l3 (by rfl) (S3.out.alloc _) (by simp; omega) _ 1 _ [⟨#[41]⟩] (by rfl) (blk_new _ _) rfl (by decide) (by have := HT2.out.2; show k + 2 + 9300 * (ns.sum + 1) - 4 + 1 ≤ _; omega) ?_); intro v4 w4 hs4 hg4; have S4 := Ad.mk hs4; have G4 : Ad (SG w1 l w4 v4) := ⟨(G3.out.alloc _).trans hg4⟩; clear hs4 hg4)
    go_ret
    exact ⟨_, rfl, S4.out.mono (by have := HT2.out.1; have := HK.out; show k + 2 + 9300 * (ns.sum + 1) - 4 + 2 ≤ _; omega), G4.out⟩
  · clear c1 c2
    go_region_held3 (fun w' => w'.cell? ⟨b, 0, none⟩ = some (.string s) ∧ w'.cell? ⟨b, 3, none⟩ = some (.slice A vs.length c)) (first | (with_reducible exact ⟨z0, z1⟩) | (with_reducible exact ⟨y0, y1⟩) | (with_reducible exact ⟨u0, u1⟩) | (with_reducible exact ⟨c0, c3⟩) | go_keep) (first
      | (refine step_sapp rfl _ _ rfl base _ _ (by rfl) S6.out hbs6 _ 1 _ [⟨#[41]⟩] (by rfl) XF6.out.1 rfl (by decide) (by have := HK.out; have := HZ.out; omega) ?_; intro l7 w7 hs hg; have S7 := Ad.mk hs; have G7 := Ad.mk (G6.out.trans hg); have z0 : w7.cell? ⟨b, 0, none⟩ = some (.string s) := blk_cell (blk_B HBB.out (G7.out.B SR.out hbs) hq) 0; have z1 : w7.cell? ⟨b, 3, none⟩ = some (.slice A vs.length c) := blk_cell (blk_B HBB.out (G7.out.B SR.out hbs) hq) 3; clear hs hg)
      | (refine step_sapp rfl _ _ rfl base _ _ (by rfl) (S6.out.alloc _) (Nat.le_trans hbs6 (below_alloc (Below.refl _ _) _).size) _ 1 _ [⟨#[41]⟩] (by rfl) (blk_new _ _) rfl (by decide) (by have := HK.out; have := HZ.out; omega) ?_; intro l7 w7 hs hg; have S7 := Ad.mk hs; have G7 := Ad.mk ((G6.out.alloc _).trans hg); have z0 : w7.cell? ⟨b, 0, none⟩ = some (.string s) := blk_cell (blk_B HBB.out (G7.out.B SR.out hbs) hq) 0; have z1 : w7.cell? ⟨b, 3, none⟩ = some (.slice A vs.length c) := blk_cell (blk_B HBB.out (G7.out.B SR.out hbs) hq) 3; clear hs hg)
      | (go_at_call 89; refine (HALL.out _ _ _ B5.out S5.out (by have := HK.out; have := HZ.out; omega)).mono ?_; rintro e6 w6 ⟨l6, rfl, hs, hg⟩; have S6 := Ad.mk hs; have G6 := Ad.mk (G5.out.trans hg); have hbs6 : base ≤ w6.heap.size := Nat.le_trans hbs G6.out.1.size; have XF6 := Ad.mk (hg.blk XF.out.1 XF.out.2); have y0 : w6.cell? ⟨b, 0, none⟩ = some (.string s) := blk_cell (blk_B HBB.out (G6.out.B SR.out hbs) hq) 0; have y1 : w6.cell? ⟨b, 3, none⟩ = some (.slice A vs.length c) := blk_cell (blk_B HBB.out (G6.out.B SR.out hbs) hq) 3; clear hs hg)
      | (go_at_call 89; refine (HALL.out _ _ _ (B_alloc' B5.out (Nat.le_trans hbs G5.out.1.size) _) (S5.out.alloc _) (by have := HK.out; have := HZ.out; omega)).mono ?_; rintro e6 w6 ⟨l6, rfl, hs, hg⟩; have S6 := Ad.mk hs; have G6 := Ad.mk ((G5.out.alloc _).trans hg); have hbs6 : base ≤ w6.heap.size := Nat.le_trans hbs G6.out.1.size; have XF6 := Ad.mk (hg.blk (blk_new w5 (.cells #[.string ⟨#[41]⟩] 9)) (S5.out.own_ne (Nat.le_refl _))); have y0 : w6.cell? ⟨b, 0, none⟩ = some (.string s) := blk_cell (blk_B HBB.out (G6.out.B SR.out hbs) hq) 0; have y1 : w6.cell? ⟨b, 3, none⟩ = some (.slice A vs.length c) := blk_cell (blk_B HBB.out (G6.out.B SR.out hbs) hq) 3; clear hs hg)
      | (go_at_call 89; refine (HALL.out _ _ _ B5.out S5.out (by have := HK.out; have := HZ.out; omega)).mono ?_; rintro e6 w6 ⟨l6, rfl, hs, hg⟩; have S6 := Ad.mk hs; have G6 := Ad.mk (G5.out.trans hg); have hbs6 : base ≤ w6.heap.size := Nat.le_trans hbs G6.out.1.size; have y0 : w6.cell? ⟨b, 0, none⟩ = some (.string s) := blk_cell (blk_B HBB.out (G6.out.B SR.out hbs) hq) 0; have y1 : w6.cell? ⟨b, 3, none⟩ = some (.slice A vs.length c) := blk_cell (blk_B HBB.out (G6.out.B SR.out hbs) hq) 3; clear hs hg)
      | (refine step_sapp rfl _ _ rfl base _ _ (by rfl) (SR.out.drew.alloc _) (hb_da hbs _) _ 2 _ [s, ⟨#[40]⟩] (by rfl) (blk_new _ _) rfl (by decide) (by have := HK.out; omega) ?_; intro l5 w5 hs hg; have S5 := Ad.mk hs; have G5 := Ad.mk (((SG.drew w1 l).alloc _).trans hg); have B5 := Ad.mk (BW.out.trans (G5.out.B SR.out hbs)); have u0 : w5.cell? ⟨b, 0, none⟩ = some (.string s) := blk_cell (blk_B HBB.out (G5.out.B SR.out hbs) hq) 0; have u1 : w5.cell? ⟨b, 3, none⟩ = some (.slice A vs.length c) := blk_cell (blk_B HBB.out (G5.out.B SR.out hbs) hq) 3; clear hs hg)
      | (refine step_sapp rfl _ _ rfl base _ _ (by rfl) ((SR.out.drew.alloc _).alloc _) (hb_da2 hbs _ _) _ 2 _ [s, ⟨#[40]⟩] (by rfl) (blk_alloc (blk_new w1.drew _) _) rfl (by decide) (by have := HK.out; omega) ?_; intro l5 w5 hs hg; have S5 := Ad.mk hs; have G5 := Ad.mk ((((SG.drew w1 l).alloc _).alloc _).trans hg); have B5 := Ad.mk (BW.out.trans (G5.out.B SR.out hbs)); have XF := Ad.mk (hg.blk (blk_new2 (g := w1.heap.size + 1) (o := .cells #[.string ⟨#[41]⟩] 9) (by simp)) (SR.out.own_ne (Nat.le_succ w1.heap.size))); have u0 : w5.cell? ⟨b, 0, none⟩ = some (.string s) := blk_cell (blk_B HBB.out (G5.out.B SR.out hbs) hq) 0; have u1 : w5.cell? ⟨b, 3, none⟩ = some (.slice A vs.length c) := blk_cell (blk_B HBB.out (G5.out.B SR.out hbs) hq) 3; clear hs hg)
      | (refine step_sapp rfl _ _ rfl base _ _ (by rfl) ((SR.out.drew.alloc _).alloc _) (hb_da2 hbs _ _) _ 2 _ [s, ⟨#[40]⟩] (by rfl) (blk_new2 (by simp)) rfl (by decide) (by have := HK.out; omega) ?_; intro l5 w5 hs hg; have S5 := Ad.mk hs; have G5 := Ad.mk ((((SG.drew w1 l).alloc _).alloc _).trans hg); have B5 := Ad.mk (BW.out.trans (G5.out.B SR.out hbs)); have XF := Ad.mk (hg.blk (blk_alloc (blk_new w1.drew (.cells #[.string ⟨#[41]⟩] 9)) _) (SR.out.own_ne (Nat.le_refl w1.heap.size))); have u0 : w5.cell? ⟨b, 0, none⟩ = some (.string s) := blk_cell (blk_B HBB.out (G5.out.B SR.out hbs) hq) 0; have u1 : w5.cell? ⟨b, 3, none⟩ = some (.slice A vs.length c) := blk_cell (blk_B HBB.out (G5.out.B SR.out hbs) hq) 3; clear hs hg)
      | fail)
    all_goals
      go_wp2_with fail
      go_ret
      exact ⟨_, rfl, S7.out.mono (by have := HK.out; have := HT.out; have := HZ.out; omega), G7.out⟩
end Go.Proofs.YtahnelihohmjfaaGreatDoor.V
namespace Go.Proofs.YtahnelihohmjfaaGreatDoor.V
open Go.RowKit
set_option linter.unusedVariables false
set_option linter.unusedSimpArgs false
theorem wa_of {base : Nat} {wN : World} {m n : Nat} {v : Value} (F : ∀ (w : World) (l : Value) (k : Nat) (want : Int) (T : Nat), Below base wN w → SRow base w l k → k + 9300 * n ≤ 990004 → k + 9300 * n - 4 ≤ T → ((∀ κ : Int, 0 ≤ κ → want ≤ κ) ∨ (W0 base wN m v n ∧ k + 9300 * n ≤ T ∧ k + 9300 * n ≤ 990000)) → WCall m v l want w (WR base T w l)) : WA base wN m v n := by
  have w0 : W0 base wN m v n := fun w l k hbw hr hk => F w l k 0 _ hbw hr hk (Nat.le_refl _) (.inl fun κ h => h)
  exact fun w l k want hbw hr hk => F w l k want _ hbw hr (Nat.le_trans hk (by decide)) (Nat.sub_le _ _) (.inr ⟨w0, Nat.le_refl _, hk⟩)
theorem write_node {base : Nat} {wN : World} {m n : Nat} {v : Value} (C : WN base wN m) (h : NodeAt (fun b => b < base) wN n v) : WA base wN m v n := by
  induction h with
  | number b n hq hb hn => exact wa_of fun w l' k' want T hbw hr hk' hT hw => number_write base wN m C b n (.number b n hq hb hn) hq hb hn w l' k' want T hbw hr hk' hT hw
  | quote b s hq hb hs => exact wa_of fun w l' k' want T hbw hr hk' hT hw => quote_write base wN m C b s (.quote b s hq hb hs) hq hb hs w l' k' want T hbw hr hk' hT hw
  | word b s hq hb hs => exact wa_of fun w l' k' want T hbw hr hk' hT hw => word_write base wN m C b s (.word b s hq hb hs) hq hb hs w l' k' want T hbw hr hk' hT hw
  | unary b op a n hq hb hs ha i => exact wa_of fun w l' k' want T hbw hr hk' hT hw => unary_write base wN m C b op a n (.unary b op a n hq hb hs ha) hq hb hs i w l' k' want T hbw hr hk' hT hw
  | binary b op a1 a2 n1 n2 hq hb hs h1 h2 i1 i2 => exact wa_of fun w l' k' want T hbw hr hk' hT hw => binary_write base wN m C b op a1 a2 n1 n2 (.binary b op a1 a2 n1 n2 hq hb hs h1 h2) hq hb hs i1 i2 w l' k' want T hbw hr hk' hT hw
  | cond b a1 a2 a3 n1 n2 n3 hq hb h1 h2 h3 i1 i2 i3 => exact wa_of fun w l' k' want T hbw hr hk' hT hw => cond_write base wN m C b a1 a2 a3 n1 n2 n3 (.cond b a1 a2 a3 n1 n2 n3 hq hb h1 h2 h3) hq hb i1 i2 i3 w l' k' want T hbw hr hk' hT hw
  | list b A c l ns hq hb hl hn hi i => exact wa_of fun w l' k' want T hbw hr hk' hT hw => list_write base wN m C b A c l ns (.list b A c l ns hq hb hl hn hi) hq hb hl hn i w l' k' want T hbw hr hk' hT hw
  | call b s k D A c l ns hq hb hs hk hd hl hn hi i => exact wa_of fun w l' k' want T hbw hr hk' hT hw => call_write base wN m C b s l.length (.func (.func k) #[] #[]) A c l ns (.call b s k D A c l ns hq hb hs hk hd hl hn hi) hq hb hs hl hn i w l' k' want T hbw hr hk' hT hw
end Go.Proofs.YtahnelihohmjfaaGreatDoor.V
