/- A part of the walk (V47, V71, V72, V73, V74). -/
import Derived.Test.YtahnelihohmjfaaGreatDoorL0
import Derived.Test.YtahnelihohmjfaaGreatDoorL15
import Derived.Lib.QuoteLoop
import Derived.Lib.TrimU
namespace Go.Proofs.YtahnelihohmjfaaGreatDoor.V
open Go.RowKit
set_option linter.unusedVariables false
set_option linter.unusedSimpArgs false
/-- a decoded rune: its width stays within the text -/
def RuneR (s : ByteArray) (w : World) (e : Ending) (w' : World) : Prop := ∃ (r : Int) (d : Nat), e = .returned (.tuple #[.int .i32 r, .int .i64 d]) ∧ 0 ≤ r ∧ r ≤ 1114111 ∧ d ≤ s.size ∧ (0 < s.size → 0 < d) ∧ Below w.heap.size w w'
set_option maxHeartbeats 4000000 in
set_option maxRecDepth 100000 in
theorem decode_calls (s : ByteArray) (w : World) (hs : s.size ≤ 140737488355328) (hg : GV w) : Calls Tryz.prog 140 #[.string s] w (RuneR s w) := by
  have HG := Ad.mk hg
  clear hg
  by_cases h0 : s.size = 0
  · obtain rfl : s = ⟨#[]⟩ := by
      obtain ⟨⟨l⟩⟩ := s
      have : l.length = 0 := h0
      rw [List.eq_nil_of_length_eq_zero this]
    clear h0
    go_enter Tryz.func140, Tryz.ntmps140
    go_wp2_with (go_at_call 153; refine (Tryz.utf8_decodeRuneInStringSlow _ _ HG.out.utf).mono ?_; rintro e1 w1 ⟨rfl, hb1⟩)
    go_ret2
    have hdg : Lib.decodeGo ⟨#[]⟩ = (65533, 0) := by rfl
    rw [hdg]
    exact ⟨_, _, rfl, by decide, by decide, by decide, fun h => absurd h (by decide), hb1⟩
  · have hne : s.toList.isEmpty = false := by
      rw [ByteArray.toList_eq]
      cases hl : s.data.toList with
      | nil => exact absurd (show s.size = 0 by have := bytes_len s; rw [hl] at this; simpa using this.symm) h0
      | cons _ _ => rfl
    have hpos : 0 < s.size := by omega
    have j0 : (0 : Int) < (s.size : Int) := by omega
    by_cases hd : (s[0].toNat : Int) < 128
    · have e1 := decide_eq_true hd
      go_enter Tryz.func140, Tryz.ntmps140
      go_wp2_with (go_at_call 153; refine (Tryz.utf8_decodeRuneInStringSlow _ _ HG.out.utf).mono ?_; rintro e1 w1 ⟨rfl, hb1⟩)
      go_ret2
      have := UInt8.toNat_lt s[0]
      exact ⟨_, 1, rfl, by omega, by omega, by omega, fun _ => by omega, Below.refl _ _⟩
    · have e1 := decide_eq_false hd
      go_enter Tryz.func140, Tryz.ntmps140
      go_wp2_with (go_at_call 153; refine (Tryz.utf8_decodeRuneInStringSlow _ _ HG.out.utf).mono ?_; rintro e1 w1 ⟨rfl, hb1⟩)
      go_ret2
      have hdg : Lib.decodeGo s = Utf8.decode s 0 := if_neg h0
      rw [hdg]
      have h1 := Lib.rune_le s 0
      have h2 := Lib.width_le s hpos
      have h3 := Lib.width_pos s 0
      exact ⟨_, _, rfl, by omega, by omega, h2, fun _ => h3, hb1⟩
end Go.Proofs.YtahnelihohmjfaaGreatDoor.V
namespace Go.Proofs.YtahnelihohmjfaaGreatDoor.V
open Go.RowKit
set_option linter.unusedVariables false
set_option linter.unusedSimpArgs false
/-! ### builders, with a frame that names the row -/
def BAt (b : Nat) (p v : Value) (bs : List Value) (w : World) : Prop := w.heap[b]? = some (.cells #[p, v] 184 (0, 0)) ∧ w.ownsRowF b 5 1 v bs.length bs ∧ v.ownBlock ≠ some b
def selfP (b : Nat) (p : Value) : Prop := p = .pointer none ∨ p = .pointer (some ⟨b, 0, none⟩)
/-- what a write may touch -/
def BS (b : Nat) (v : Value) (q : Nat) : Prop := q = b ∨ some q = v.ownBlock
theorem BAt.is {b : Nat} {p v : Value} {bs : List Value} {w : World} (h : BAt b p v bs w) (hp : selfP b p) : Lib.IsBuilderF 184 5 b b bs w := by
  rcases hp with rfl | rfl
  · exact .inl ⟨Nat.le_refl _, v, h⟩
  · exact .inr ⟨Nat.le_refl _, v, h⟩
theorem BAt.of {b : Nat} {bs : List Value} {w : World} (h : Lib.IsBuilderF 184 5 b b bs w) : ∃ p v, selfP b p ∧ BAt b p v bs w := by
  rcases h with ⟨_, v, h⟩ | ⟨_, v, h⟩
  · exact ⟨_, v, .inl rfl, h⟩
  · exact ⟨_, v, .inr rfl, h⟩
theorem copyCheck_f (b : Nat) (p v : Value) (bs : List Value) (w : World) (hp : selfP b p) (h : BAt b p v bs w) :
    Calls Tryz.prog 99 #[.pointer (some ⟨b, 0, none⟩)] w (fun e w' => e = .returned (.tuple #[]) ∧ BAt b (.pointer (some ⟨b, 0, none⟩)) v bs w' ∧ Chg w w' (· = b)) := by
  rcases hp with rfl | rfl
  · have h' : Lib.BuilderAtF 184 5 b b (.pointer none) bs w := ⟨Nat.le_refl _, v, h⟩
    refine (copyCheck_fresh b w h'.cell0 h'.shape h'.frozen0).mono ?_
    rintro e w' ⟨rfl, rfl⟩
    have hc := (Chg.refl w (· = b)).set rfl 0 (.pointer (some ⟨b, 0, none⟩))
    refine ⟨rfl, ⟨blk_put h.1 0 _ rfl, ?_, h.2.2⟩, hc⟩
    refine ⟨h.2.1.1, ?_⟩
    rcases h.2.1.2 with h1 | ⟨g, cap, cur, fz, h1, h2, h3, h4⟩
    · exact .inl h1
    · exact .inr ⟨g, cap, cur, fz, h1, h2, (hc.block g (blk_lt h3) (fun e => h.2.2 (by rw [h1]; exact congrArg some e))).trans h3, h4⟩
  · have h' : Lib.BuilderAtF 184 5 b b (.pointer (some ⟨b, 0, none⟩)) bs w := ⟨Nat.le_refl _, v, h⟩
    refine (copyCheck_used b w h'.cell0).mono ?_
    rintro e w' ⟨rfl, rfl⟩
    exact ⟨rfl, h, Chg.refl _ _⟩
def WP (b : Nat) (v : Value) (bs : List Value) (w : World) (e : Ending) (w' : World) : Prop := ∃ x v', e = .returned x ∧ BAt b (.pointer (some ⟨b, 0, none⟩)) v' bs w' ∧ Chg w w' (BS b v)
theorem WP.mk {b : Nat} {v v' x : Value} {bs : List Value} {w w1 wa w2 : World} (hc1 : Chg w w1 (· = b)) (ha : Below w1.heap.size w1 wa) (hgr : wa.grownBy w2 v.ownBlock) (hb2 : w2.heap[b]? = some (.cells #[.pointer (some ⟨b, 0, none⟩), v] 184 (0, 0))) (ho : w2.ownsRowF b 5 1 v' bs.length bs) :
    WP b v bs w (.returned x) (w2.setCell ⟨b, 1, none⟩ v') := by
  obtain ⟨_, v2, h1, h2, h3⟩ := Lib.BuilderAtF.put (T := 184) (e := 5) (p := .pointer (some ⟨b, 0, none⟩)) (Nat.le_refl b) hb2 ho (by decide)
  have hc2 : Chg wa w2 (fun q => some q = v.ownBlock) := ⟨hgr.os, hgr.tape, hgr.output, hgr.size, fun i hi hn => hgr.block i hi hn⟩
  refine ⟨x, v2, rfl, ⟨h1, h2, h3⟩, ?_⟩
  exact (((hc1.sub (S' := BS b v) (fun q _ hq => .inl hq)).trans (Chg.of_below ha)).then_ hc2 (fun q _ hq => .inr hq)).set (.inl rfl) 1 _
set_option maxHeartbeats 8000000 in
set_option maxRecDepth 100000 in
theorem wstr (b : Nat) (p v : Value) (bs : List Value) (s : ByteArray) (w : World) (hp : selfP b p) (h : BAt b p v bs w) (hlen : bs.length + s.size ≤ 1000000) :
    Calls Tryz.prog 82 #[.pointer (some ⟨b, 0, none⟩), .string s] w (WP b v (bs ++ Lib.strCells s) w) := by
  obtain ⟨i0, hi, hz0, hz1, hz2⟩ := info_parts info5
  have HI := Ad.mk (And.intro hi (And.intro hz0 (And.intro hz1 hz2)))
  clear hi hz0 hz1 hz2
  obtain ⟨A1, cp1, rfl⟩ := ownsF_form h.2.1
  go_enter Tryz.func82, Tryz.ntmps82
  go_wp2_with (first
    | (go_at_call 99; refine (copyCheck_f b p _ bs _ hp h).mono ?_; rintro e1 w1 ⟨rfl, ⟨hbk, hown, hne⟩, hc1⟩; have c0 := blk_cell hbk 0; have c1 := blk_cell hbk 1; have HOWN := Ad.mk hown; have HNE := Ad.mk hne; have HBK := Ad.mk hbk; have HC1 := Ad.mk hc1; have hbl := blk_lt hbk; clear hown hne hbk hc1)
    | (at_builtin; refine Lib.wpList_append_own_stringF _ rfl _ _ 169 9 rfl b 5 i0 Tryz.underlying169 Tryz.underlying9 HI.out.1 HI.out.2.1 HI.out.2.2.1 HI.out.2.2.2 _ _ _ rfl HOWN.out s rfl (by unfold maxLen; omega) (by omega) (by omega) ?_; intro v' w2 hown' hgrow hnil; obtain ⟨A2, c2, rfl⟩ := ownsF_form hown'; have HG := Ad.mk hgrow; have HO := Ad.mk hown'; have hb2 := (hgrow.block b (by first | exact hbl | (simp; omega)) (fun e => HNE.out e.symm)).trans (HBK.out); have d0 := blk_cell hb2 0; have d1 := blk_cell hb2 1; have f1 := blk_frozen hb2 1; have hl2 := blk_lt hb2; have HB2 := Ad.mk hb2; clear hb2 hown' hgrow))
  go_ret2
  exact WP.mk HC1.out (Below.refl _ _) HG.out HB2.out (by have := HO.out; simpa [Lib.strCells_length] using this)
set_option maxHeartbeats 8000000 in
set_option maxRecDepth 100000 in
theorem wbyte (b : Nat) (p v : Value) (bs : List Value) (c : Int) (w : World) (hp : selfP b p) (h : BAt b p v bs w) (hlen : bs.length + 1 ≤ 1000000) :
    Calls Tryz.prog 81 #[.pointer (some ⟨b, 0, none⟩), .int .u8 c] w (WP b v (bs ++ [.int .u8 c]) w) := by
  obtain ⟨i0, hi, hz0, hz1, hz2⟩ := info_parts info5
  have HI := Ad.mk (And.intro hi (And.intro hz0 (And.intro hz1 hz2)))
  clear hi hz0 hz1 hz2
  obtain ⟨A1, cp1, rfl⟩ := ownsF_form h.2.1
  go_enter Tryz.func81, Tryz.ntmps81
  go_wp2_with (first
    | (go_at_call 99; refine (copyCheck_f b p _ bs _ hp h).mono ?_; rintro e1 w1 ⟨rfl, ⟨hbk, hown, hne⟩, hc1⟩; have c0 := blk_cell hbk 0; have c1 := blk_cell hbk 1; have HOWN := Ad.mk hown; have HNE := Ad.mk hne; have HBK := Ad.mk hbk; have HC1 := Ad.mk hc1; have hbl := blk_lt hbk; clear hown hne hbk hc1)
    | (at_builtin; go_must (refine wpList_append_ownF _ rfl _ _ 169 rfl b 5 i0 (.int .u8 0) 1 1 Tryz.underlying169 HI.out.1 HI.out.2.1 HI.out.2.2.1 HI.out.2.2.2 rfl (by decide) _ _ _ rfl (HOWN.out.alloc _) ⟨w1.heap.size, 0, none⟩ 1 1 [.int .u8 c] rfl rfl (by intro j u hj; match j, hj with | 0, hj => simp at hj; subst hj; simp [Addr.add]) (by intro u hu; simp at hu; subst hu; rfl) (by unfold maxLen; omega) (by omega) (by simp; omega) ?_); intro v' w2 hown' hgrow hnil; obtain ⟨A2, c2, rfl⟩ := ownsF_form hown'; have HG := Ad.mk hgrow; have HO := Ad.mk hown'; have hb2 := (hgrow.block b (by first | exact hbl | (simp; omega)) (fun e => HNE.out e.symm)).trans (blk_alloc HBK.out _); have d0 := blk_cell hb2 0; have d1 := blk_cell hb2 1; have f1 := blk_frozen hb2 1; have hl2 := blk_lt hb2; have HB2 := Ad.mk hb2; clear hb2 hown' hgrow))
  go_ret
  exact WP.mk HC1.out (below_alloc (Below.refl _ _) _) HG.out HB2.out (by have := HO.out; simpa using this)
set_option maxHeartbeats 8000000 in
set_option maxRecDepth 100000 in
theorem wrune (b : Nat) (p v : Value) (bs : List Value) (r : Int) (hr0 : -2147483648 ≤ r) (hr1 : r ≤ 2147483647) (w : World) (hp : selfP b p) (h : BAt b p v bs w) (hlen : bs.length + 4 ≤ 1000000) :
    Calls Tryz.prog 142 #[.pointer (some ⟨b, 0, none⟩), .int .i32 r] w (WP b v (bs ++ Lib.runeCells r) w) := by
  obtain ⟨i0, hi, hz0, hz1, hz2⟩ := info_parts info5
  have HI := Ad.mk (And.intro hi (And.intro hz0 (And.intro hz1 hz2)))
  clear hi hz0 hz1 hz2
  obtain ⟨A1, cp1, rfl⟩ := ownsF_form h.2.1
  go_enter Tryz.func142, Tryz.ntmps142
  go_wp2_with (first
    | (go_at_call 99; refine (copyCheck_f b p _ bs _ hp h).mono ?_; rintro e1 w1 ⟨rfl, ⟨hbk, hown, hne⟩, hc1⟩; have c0 := blk_cell hbk 0; have c1 := blk_cell hbk 1; have HOWN := Ad.mk hown; have HNE := Ad.mk hne; have HBK := Ad.mk hbk; have HC1 := Ad.mk hc1; have hbl := blk_lt hbk; clear hown hne hbk hc1)
    | (go_at_call 154; refine (Tryz.utf8_AppendRune_own b _ _ _ r hr0 hr1 _ HOWN.out (by omega) (by omega)).mono ?_; rintro e2 w2 ⟨v', rfl, hown', o, hgrow⟩; obtain ⟨A2, c2, rfl⟩ := ownsF_form hown'; have HG := Ad.mk hgrow; have HO := Ad.mk hown'; have hb2 := (hgrow.block b (by first | exact hbl | (simp; omega)) (fun e => HNE.out e.symm)).trans (blk_alloc HBK.out _); have d0 := blk_cell hb2 0; have d1 := blk_cell hb2 1; have f1 := blk_frozen hb2 1; have hl2 := blk_lt hb2; have HB2 := Ad.mk hb2; clear hb2 hown' hgrow))
  go_ret2
  exact WP.mk HC1.out (below_alloc (Below.refl _ _) o) HG.out HB2.out (by have := HO.out; simpa using this)
/-! ### at most K bytes written -/
/-- q: the first byte is a quotation mark -/
def BB (q : Bool) (b K : Nat) (w : World) : Prop := ∃ (l : List UInt8) (p v : Value), l.length ≤ K ∧ (q = true → l[0]? = some 34) ∧ selfP b p ∧ BAt b p v (Lib.byteCells l) w
/-- a block that is not the builder's, nor a row of bytes that begins with a quotation mark, is kept -/
def Kept (b : Nat) (w w' : World) : Prop := ∀ k o, w.heap[k]? = some o → k ≠ b → (∀ cs fz, o = .cells cs 5 fz → cs[0]? ≠ some (.int .u8 34)) → w'.heap[k]? = some o
theorem Kept.trans {b : Nat} {w w1 w2 : World} (h : Kept b w w1) (k : Kept b w1 w2) : Kept b w w2 := fun i o hi hb ho => k i o (h i o hi hb ho) hb ho
theorem Kept.below {b : Nat} {w w1 : World} (h : Below w.heap.size w w1) : Kept b w w1 := fun i o hi _ _ => blk_below hi h
theorem ownsF_below {w w' : World} {b n : Nat} {v : Value} {xs : List Value} (h : w.ownsRowF b 5 1 v n xs) (hb : Below w.heap.size w w') : w'.ownsRowF b 5 1 v n xs := by
  refine ⟨h.1, ?_⟩
  rcases h.2 with h1 | ⟨g, cap, cur, fz, h1, h2, h3, h4⟩
  · exact .inl h1
  · exact .inr ⟨g, cap, cur, fz, h1, h2, blk_below h3 hb, h4⟩
theorem BB.below {q : Bool} {b K : Nat} {w w' : World} (h : BB q b K w) (hb : Below w.heap.size w w') : BB q b K w' := by
  obtain ⟨l, p, v, h1, h2, h3, h4, h5, h6⟩ := h
  exact ⟨l, p, v, h1, h2, h3, blk_below h4 hb, ownsF_below h5 hb, h6⟩
theorem BB.new (w : World) : BB false w.heap.size 0 (w.alloc (.cells #[.pointer none, .slice none 0 0] 184)) := ⟨[], .pointer none, .slice none 0 0, Nat.le_refl _, fun h => absurd h (by decide), .inl rfl, blk_new _ _, World.ownsRowF_nil _ _ _ _, by simp [Value.ownBlock]⟩
theorem BB.lt {q : Bool} {b K : Nat} {w : World} (h : BB q b K w) : b < w.heap.size := by
  obtain ⟨l, p, v, h1, h2, h3, h4, h5, h6⟩ := h
  exact blk_lt h4
theorem BB.mono {q : Bool} {b K K' : Nat} {w : World} (h : BB q b K w) (hk : K ≤ K') : BB q b K' w := let ⟨l, p, v, h1, h2⟩ := h; ⟨l, p, v, Nat.le_trans h1 hk, h2⟩
theorem BB.any {q : Bool} {b K : Nat} {w : World} (h : BB q b K w) : BB false b K w := let ⟨l, p, v, h1, h2, h3⟩ := h; ⟨l, p, v, h1, fun h => absurd h (by decide), h3⟩
/-- what a write leaves -/
def BW (q : Bool) (b K : Nat) (w : World) (e : Ending) (w' : World) : Prop := ∃ r, e = .returned r ∧ BB q b K w' ∧ Below b w w' ∧ (q = true → Kept b w w')
theorem byteCells_length (l : List UInt8) : (Lib.byteCells l).length = l.length := by simp [Lib.byteCells]
theorem WP.bw {q : Bool} {b K : Nat} {l : List UInt8} {v : Value} {p : Value} {news : List UInt8} {w : World} {e : Ending} {w' : World} (h : BAt b p v (Lib.byteCells l) w) (hq : q = true → l[0]? = some 34) (hw : WP b v (Lib.byteCells l ++ Lib.byteCells news) w e w') (hK : l.length + news.length ≤ K) : BW q b K w e w' := by
  obtain ⟨x, v', rfl, h1, hc⟩ := hw
  have hlt : ∀ g, v.ownBlock = some g → b ≤ g := fun g hg => (h.2.1.lt g hg).1
  refine ⟨x, rfl, ⟨l ++ news, _, v', by simpa using hK, fun e => ?_, .inr rfl, by rw [Lib.byteCells_append]; exact h1⟩, ?_, fun e => ?_⟩
  · have := hq e
    cases l with
    | nil => simp at this
    | cons a l => simpa using this
  · refine ⟨hc.os, hc.tape, hc.output, hc.size, fun k hk => hc.block k (by have := blk_lt h.1; omega) ?_⟩
    rintro (rfl | hr)
    · omega
    · have := hlt k hr.symm; omega
  · intro k o hk hb ho
    refine (hc.block k (blk_lt hk) ?_).trans hk
    rintro (rfl | hr)
    · exact hb rfl
    · have hl0 := hq e
      rcases h.2.1.2 with ⟨h2, _⟩ | ⟨g, cap, cur, fz, h2, h3, h4, h5, h6, h7, h8, h9⟩
      · rw [h2] at hr; simp [Value.ownBlock] at hr
      · rw [h2] at hr
        simp [Value.ownBlock] at hr
        subst hr
        rw [hk] at h4
        injection h4 with h4
        refine ho _ _ h4 ?_
        cases l with
        | nil => simp at hl0
        | cons a l =>
          simp at hl0
          have h10 : (cur.toList.take ((Lib.byteCells (a :: l)).length * 1))[0]? = some (.int .u8 34) := by rw [h9, hl0]; rfl
          rw [List.getElem?_take_of_lt (by simp [Lib.byteCells])] at h10
          simpa using h10
theorem bb_str {q : Bool} (b K : Nat) (s : ByteArray) (w : World) (h : BB q b K w) (hl : K + s.size ≤ 1000000) : Calls Tryz.prog 82 #[.pointer (some ⟨b, 0, none⟩), .string s] w (BW q b (K + s.size) w) := by
  obtain ⟨l, p, v, h1, h2, h3, h4⟩ := h
  have hs : s.data.toList.length = s.size := by rw [Array.length_toList]; rfl
  refine (wstr b p v _ s w h3 h4 (by rw [byteCells_length]; omega)).mono ?_
  intro e w' hw
  rw [Lib.strCells_eq] at hw
  exact WP.bw h4 h2 hw (by omega)
theorem byte_cells (c : Int) (hc : 0 ≤ c ∧ c ≤ 255) : Lib.byteCells [UInt8.ofNat c.toNat] = [.int .u8 c] := by
  have hm : (c.toNat % 256 : Nat) = c.toNat := Nat.mod_eq_of_lt (by omega)
  have h1 : ((UInt8.ofNat c.toNat).toNat : Int) = c := by
    rw [UInt8.toNat_ofNat', hm]
    omega
  simp only [Lib.byteCells, List.map_cons, List.map_nil, h1]
theorem bb_byte {q : Bool} (b K : Nat) (c : Int) (w : World) (h : BB q b K w) (hc : 0 ≤ c ∧ c ≤ 255) (hl : K + 1 ≤ 1000000) : Calls Tryz.prog 81 #[.pointer (some ⟨b, 0, none⟩), .int .u8 c] w (BW q b (K + 1) w) := by
  obtain ⟨l, p, v, h1, h2, h3, h4⟩ := h
  refine (wbyte b p v _ c w h3 h4 (by rw [byteCells_length]; omega)).mono ?_
  intro e w' hw
  rw [← byte_cells c hc] at hw
  exact WP.bw h4 h2 hw (by simp only [List.length_cons, List.length_nil]; omega)
/-- the first byte -/
theorem bb_first (b : Nat) (w : World) (h : BB false b 0 w) : Calls Tryz.prog 81 #[.pointer (some ⟨b, 0, none⟩), .int .u8 34] w (fun e w' => ∃ r, e = .returned r ∧ BB true b 1 w' ∧ Below b w w') := by
  obtain ⟨l, p, v, h1, h2, h3, h4⟩ := h
  have hl : l = [] := List.eq_nil_of_length_eq_zero (by omega)
  subst hl
  refine (wbyte b p v _ 34 w h3 h4 (by rw [byteCells_length]; decide)).mono ?_
  rintro e w' ⟨x, v', rfl, h5, hc⟩
  have hlt : ∀ g, v.ownBlock = some g → b ≤ g := fun g hg => (h4.2.1.lt g hg).1
  refine ⟨x, rfl, ⟨[34], _, v', by decide, fun _ => rfl, .inr rfl, h5⟩, ?_⟩
  · refine ⟨hc.os, hc.tape, hc.output, hc.size, fun k hk => hc.block k (by have := blk_lt h4.1; omega) ?_⟩
    rintro (rfl | hr)
    · omega
    · have := hlt k hr.symm; omega
theorem enc_len (r : Int) : (Lib.runeCells r).length ≤ 4 := by
  unfold Lib.runeCells Lib.encodeRuneZ
  simp only [List.length_map]
  repeat' split
  all_goals simp
theorem bb_rune {q : Bool} (b K : Nat) (r : Int) (w : World) (h : BB q b K w) (hr : -2147483648 ≤ r ∧ r ≤ 2147483647) (hl : K + 4 ≤ 1000000) : Calls Tryz.prog 142 #[.pointer (some ⟨b, 0, none⟩), .int .i32 r] w (BW q b (K + 4) w) := by
  obtain ⟨l, p, v, h1, h2, h3, h4⟩ := h
  refine (wrune b p v _ r hr.1 hr.2 w h3 h4 (by rw [byteCells_length]; omega)).mono ?_
  intro e w' hw
  rw [← Lib.byteCells_encodeRune] at hw
  have := enc_len r
  rw [← Lib.byteCells_encodeRune, byteCells_length] at this
  exact WP.bw h4 h2 hw (by omega)
theorem bb_string {q : Bool} (b K : Nat) (w : World) (h : BB q b K w) : Calls Tryz.prog 83 #[.pointer (some ⟨b, 0, none⟩)] w (fun e w' => ∃ s : ByteArray, e = .returned (.string s) ∧ s.size ≤ K ∧ Below b w w') := by
  have hlt := h.lt
  obtain ⟨l, p, v, h1, h2, h3, h4⟩ := h
  refine (Tryz.Builder_String_any_k b b l w (h4.is h3) (Nat.le_of_lt hlt)).mono ?_
  rintro e w' ⟨rfl, h3, h4, _⟩
  exact ⟨_, rfl, by simpa [ByteArray.size] using h1, h4⟩
end Go.Proofs.YtahnelihohmjfaaGreatDoor.V
namespace Go.Proofs.YtahnelihohmjfaaGreatDoor.V
open Go.RowKit
set_option linter.unusedVariables false
set_option linter.unusedSimpArgs false
/-! ### a text is quoted -/
theorem BB.iter {q : Bool} {b K k pos : Nat} {s : ByteArray} {w : World} (h : BB q b K w) (hk : w.heap[k]? = some (.stringIter s pos)) (pos' : Nat) : BB q b K (w.iterAt k s pos') := by
  obtain ⟨l, p, v, h1, h2, h3, h4, h5, h6⟩ := h
  have h7 : Lib.BuilderAtF 184 5 b b p (Lib.byteCells l) w := ⟨Nat.le_refl _, v, h4, h5, h6⟩
  have hkb : b ≠ k := fun e => by rw [e, hk] at h4; cases h4
  refine ⟨l, p, v, h1, h2, h3, (Lib.iterAt_other w k b s pos' hkb).trans h4, ⟨h5.1, ?_⟩, h6⟩
  rcases h5.2 with h | ⟨g, cap, cur, fz, e1, e2, e3, e4⟩
  · exact .inl h
  · exact .inr ⟨g, cap, cur, fz, e1, e2, (Lib.iterAt_other w k g s pos' (fun e => by rw [e, hk] at e3; cases e3)).trans e3, e4⟩
theorem chg_of_B {n : Nat} {w w' : World} (h : Below n w w') : Chg w w' (n ≤ ·) := ⟨h.os, h.tape, h.output, h.size, fun i _ hn => h.block i (Nat.lt_of_not_le hn)⟩
theorem GVb.B {w w' : World} {n : Nat} (h : GVb w n) (hb : Below n w w') : GVb w' n := h.chgS (chg_of_B hb) (fun _ hq => hq)
def VB (e : Ending) : Prop := ∃ x : Bool, e = .returned (.bool x)
set_option maxHeartbeats 4000000 in
theorem vplain_calls (c d : Int) (w : World) : Calls Tryz.prog 141 #[.int .i32 c, .int .i64 d] w (fun e w' => VB e ∧ w' = w) := by
  go_enter Tryz.func141, Tryz.ntmps141
  go_wp2_with fail
  all_goals go_ret
  all_goals exact ⟨⟨_, rfl⟩, rfl⟩
theorem width_pos (s : ByteArray) (pos : Nat) (h : pos < s.size) : 1 ≤ (Utf8.decode s pos).2 := by
  by_cases ha : (s[pos]'h).toNat < 128
  · rw [decode_ascii s pos h ha]
    exact Nat.le_refl _
  · exact (decode_high s pos h (by omega)).2
def posOf (w : World) (k : Nat) : Nat := match w.heap[k]? with | some (.stringIter _ p) => p | _ => 0
/-- in the round: at pos, the iterator in block k, j rounds done -/
def QL (b : Nat) (s : ByteArray) (w0 : World) (k : Nat) (wr : World) : Prop := ∃ pos j : Nat, j ≤ pos ∧ j ≤ 24 ∧ wr.heap[k]? = some (.stringIter s pos) ∧ BB true b (1 + 96 * j) wr ∧ Below b w0 wr
theorem u8_rng (u : UInt8) : 0 ≤ (u.toNat : Int) ∧ (u.toNat : Int) ≤ 255 := ⟨by omega, by have := u.toNat_lt; omega⟩
/-- between two writes -/
def QS (b k pos : Nat) (s : ByteArray) (w0 : World) (K : Nat) (w : World) : Prop := BB true b K w ∧ w.heap[k]? = some (.stringIter s pos) ∧ Below b w0 w
theorem QS.w {b k pos K K' : Nat} {s : ByteArray} {w0 w w' : World} {e : Ending} (h : QS b k pos s w0 K w) (hk : b < k) (hw : BW true b K' w e w') : ∃ r, e = .returned r ∧ QS b k pos s w0 K' w' ∧ Kept b w w' := by
  obtain ⟨r, rfl, h1, h2, h3⟩ := hw
  exact ⟨r, rfl, ⟨h1, h3 rfl k _ h.2.1 (by omega) (fun _ _ h => by cases h), h.2.2.trans h2⟩, h3 rfl⟩
theorem QS.below {b k pos K : Nat} {s : ByteArray} {w0 w w' : World} (h : QS b k pos s w0 K w) (hb : Below w.heap.size w w') : QS b k pos s w0 K w' := ⟨h.1.below hb, blk_below h.2.1 hb, h.2.2.trans (hb.mono (Nat.le_of_lt h.1.lt))⟩
theorem posOf_at {w : World} {k pos : Nat} {s : ByteArray} (h : w.heap[k]? = some (.stringIter s pos)) : posOf w k = pos := by unfold posOf; rw [h]
theorem blk_cell' {w : World} {g : Nat} {cs : Array Value} {t : TypeId} {fr : Nat × Nat} (h : w.heap[g]? = some (.cells cs t fr)) (i : Nat) : w.cell? ⟨g, i, none⟩ = cs[i]? := by simp [World.cell?, h]
set_option maxHeartbeats 8000000 in
set_option maxRecDepth 100000 in
theorem vquote_calls (b : Nat) (s : ByteArray) (hs : s.size ≤ 24) (w : World) (hb : BB false b 0 w) (hg : GVb w b) : Calls Tryz.prog 125 #[.pointer (some ⟨b, 0, none⟩), .string s] w (fun e w' => e = .returned (.tuple #[]) ∧ BB false b 2306 w' ∧ Below b w w') := by
  have HB := Ad.mk hb
  have HG := Ad.mk hg
  have hbl := hb.lt
  clear hb hg
  go_enter Tryz.func125, Tryz.ntmps125
  go_wp2_with (go_at_call 81; refine (bb_first b _ HB.out).mono ?_; rintro e1 w1 ⟨r1, rfl, hb1, hc1⟩; have HB1 := Ad.mk hb1; have HC1 := Ad.mk hc1; clear hb1 hc1)
  have hk1 : (w1.iter s 0).heap[w1.heap.size]? = some (.stringIter s 0) := by rw [World.iter_heap]
  have hb2 := HB1.out.below (w' := w1.iter s 0) (by exact below_alloc (Below.refl _ _) _)
  have hc2 : Below b w (w1.iter s 0) := HC1.out.trans ((below_alloc (Below.refl _ w1) (.stringIter s 0)).mono (Nat.le_of_lt HB1.out.lt))
  have hkb : b < w1.heap.size := HB1.out.lt
  have HK := Ad.mk hk1
  have HB2 := Ad.mk hb2
  have HC2 := Ad.mk hc2
  clear hk1 hb2 hc2
  generalize w1.iter s 0 = W at HK HB2 HC2 ⊢
  obtain ⟨k, hk⟩ : ∃ k, w1.heap.size = k := ⟨_, rfl⟩
  rw [hk] at HK hkb ⊢
  clear hk HB1 HC1
  go_loopw [] (fun wr => Ad (QL b s w k wr)) (fun wr => 24 - posOf wr k)
  case atStart => exact ⟨0, 0, Nat.le_refl _, Nat.zero_le _, HK.out, HB2.out, HC2.out⟩
  case round =>
    obtain ⟨⟨pos, j, hj, hj24, hit, hbb, hbw⟩⟩ := hrel
    by_cases hp : pos < s.size
    · have hnx := fun ty => Lib.run_next_any_at (P := Tryz.prog) wr k s pos ty hit hp
      have HBB := Ad.mk (hbb.iter hit (pos + (Utf8.decode s pos).2))
      have HIT := Ad.mk (Lib.iterAt_heap wr k s pos (pos + (Utf8.decode s pos).2) hit)
      have HBW := Ad.mk (Lib.below_iterAt hbw (Nat.le_of_lt hkb) s (pos + (Utf8.decode s pos).2))
      have hpw : 1 ≤ (Utf8.decode s pos).2 := width_pos s pos hp
      have hit0 := Ad.mk hit
      have h34 : Ad ((Utf8.decode s pos).1 ≠ 34 → ∀ h : pos < s.size, s[pos] ≠ 34) := ⟨fun h1 h2 h3 => h1 (by rw [decode_ascii s pos h2 (by rw [h3]; decide), h3]; rfl)⟩
      generalize wr.iterAt k s (pos + (Utf8.decode s pos).2) = w2 at HBB HIT HBW hnx ⊢
      clear hit hbb hbw
      have hk2 := blk_lt HIT.out
      obtain ⟨c, hc⟩ : ∃ c, (Utf8.decode s pos).1 = c := ⟨_, rfl⟩
      obtain ⟨d0, hd0⟩ : ∃ d0, (Utf8.decode s pos).2 = d0 := ⟨_, rfl⟩
      rw [hc] at hnx
      have H34 : Ad (((c : Nat) : Int) ≠ 34 → ∀ h : pos < s.size, s[pos] ≠ 34) := ⟨fun h => h34.out (by rw [hc]; intro e; exact h (by omega))⟩
      rw [hd0] at hpw
      have HIT := Ad.mk (hd0 ▸ HIT.out)
      have HP := Ad.mk hp
      have p0 : (0 : Int) ≤ (pos : Int) := by omega
      have p1 : (pos : Int) ≤ (s.size : Int) := by omega
      have p2 : (pos : Int) < (s.size : Int) := by omega
      have hzs : (s.extract pos s.size).size = s.size - pos := by simp [ByteArray.size_extract]
      clear h34 hd0
      have HIT0 := hit0
      have hcle : ((c : Nat) : Int) ≤ 2147483647 := by have := decode_le s pos; omega
      clear hit0 hc
      have hsi : (s[pos].toNat : Int) ≤ 255 := by have := s[pos].toNat_lt; omega
      have hsj : (0 : Int) ≤ (s[pos].toNat : Int) := by omega
      have HFIN : Ad (∀ m w', m ≤ 96 → QS b k (pos + d0) s w (1 + 96 * j + m) w' → Ad (QL b s w k w') ∧ 24 - posOf w' k < 24 - posOf wr k) := ⟨fun m w' hm h => ⟨⟨⟨pos + d0, j + 1, by omega, by omega, h.2.1, h.1.mono (by omega), h.2.2⟩⟩, by rw [posOf_at h.2.1, posOf_at HIT0.out]; omega⟩⟩
      go_wp2_with (first
        | (go_at_call 140; go_must (refine (decode_calls _ _ (by omega) (HG.out.B HBW.out).gv).mono ?_); rintro e3 w3 ⟨r3, d3, rfl, hr0, hr1, hd1, hd2, hb3⟩; have S3 : Ad (QS b k (pos + d0) s w (1 + 96 * j) w3) := ⟨QS.below ⟨HBB.out, HIT.out, HBW.out⟩ hb3⟩; have hd3 : 1 ≤ d3 := (by have := hd2 (by omega); omega); have hd4 : pos + d3 ≤ s.size := (by omega); have q0 : (pos : Int) + (d3 : Int) ≤ (s.size : Int) := (by omega); have q1 : (pos : Int) ≤ (pos : Int) + (d3 : Int) := (by omega); have q2 : (0 : Int) ≤ (pos : Int) + (d3 : Int) := (by omega); have qw := Go.IntWalk.i64_in ((pos : Int) + (d3 : Int)) (by omega); clear hb3 hd1 hd2 HBB HIT HBW)
        | (go_at_call 141; refine (vplain_calls _ _ _).mono ?_; rintro e4 w4 ⟨⟨x4, rfl⟩, rfl⟩)
        | (go_at_call 82; refine (bb_str b _ _ _ S3.out.1 (by have := S3.out.1; show 1 + 96 * j + 2 ≤ _; omega)).mono ?_; intro e4 w4 hw; obtain ⟨r4, rfl, hs4, _⟩ := S3.out.w hkb hw; have S4 := Ad.mk hs4; clear hw hs4)
        | (go_at_call 142; refine (bb_rune b _ _ _ S3.out.1 (by omega) (by omega)).mono ?_; intro e4 w4 hw; obtain ⟨r4, rfl, hs4, _⟩ := S3.out.w hkb hw; have S4 := Ad.mk hs4; clear hw hs4))
      · go_at_call 81
        refine (bb_byte b _ 92 _ S3.out.1 (by decide) (by omega)).mono ?_
        intro e4 w4 hw
        obtain ⟨r4, rfl, hs4, hk4⟩ := S3.out.w hkb hw
        have S4 := Ad.mk hs4
        clear hw hs4
        go_wp2_with fail
        go_at_call 81
        refine (bb_byte b _ _ _ S4.out.1 (by omega) (by omega)).mono ?_
        intro e5 w5 hw
        obtain ⟨r5, rfl, hs5, hk5⟩ := S4.out.w hkb hw
        have S5 := Ad.mk hs5
        clear hw hs5
        go_wp2_with fail
        exact HFIN.out 2 _ (by omega) S5.out
      · go_at_call 81
        refine (bb_byte b _ 92 _ S3.out.1 (by decide) (by omega)).mono ?_
        intro e4 w4 hw
        obtain ⟨r4, rfl, hs4, hk4⟩ := S3.out.w hkb hw
        have S4 := Ad.mk hs4
        clear hw hs4
        go_wp2_with fail
        go_at_call 81
        refine (bb_byte b _ _ _ S4.out.1 (by omega) (by omega)).mono ?_
        intro e5 w5 hw
        obtain ⟨r5, rfl, hs5, hk5⟩ := S4.out.w hkb hw
        have S5 := Ad.mk hs5
        clear hw hs5
        go_wp2_with fail
        exact HFIN.out 2 _ (by omega) S5.out
      · exact HFIN.out _ _ (by decide) S4.out
      · exact HFIN.out _ _ (by decide) S4.out
      · exact HFIN.out _ _ (by decide) S4.out
      · obtain ⟨T, hT⟩ : ∃ T, s.extract pos (pos + d3) = T := ⟨_, rfl⟩
        obtain ⟨cp, hcp⟩ : ∃ cp, grownCap w4 T.size 0 5 = cp := ⟨_, rfl⟩
        have hTs : T.size = d3 := by rw [← hT]; simp [ByteArray.size_extract]; omega
        have hcv := run_bytes_of_string (P := Tryz.prog) w4 9 169 5 T Tryz.underlying9 Tryz.underlying169 Tryz.underlying5
        rw [hcp, hTs] at hcv
        rw [hT]
        have h0 : Ad ((bytesRow T cp)[0]? ≠ some (.int .u8 34)) := ⟨by
          have hT0 : 0 < T.data.size := by have : T.data.size = T.size := rfl; omega
          have hc34 := H34.out ‹¬((c : Nat) : Int) = 34› HP.out
          rw [bytesRow_at T cp 0 hT0]
          intro h
          injection h with h
          injection h with _ h
          apply hc34
          subst hT
          have h1 : (s.extract pos (pos + d3)).data[0] = s[pos] := by simp [ByteArray.data_extract]; rfl
          rw [h1] at h
          exact UInt8.toNat_inj.1 (by have : (34 : UInt8).toNat = 34 := rfl; omega)⟩
        have S5 : Ad (QS b k (pos + d0) s w (1 + 96 * j) (w4.drew.alloc (.cells (bytesRow T cp) 5 ((bytesRow T cp).size, (bytesRow T cp).size + 1)))) := ⟨S3.out.below (below_then (Below.refl _ _).drew (below_alloc (Below.refl _ _) _))⟩
        have HROW : Ad ((w4.drew.alloc (.cells (bytesRow T cp) 5 ((bytesRow T cp).size, (bytesRow T cp).size + 1))).heap[w4.heap.size]? = some (.cells (bytesRow T cp) 5 ((bytesRow T cp).size, (bytesRow T cp).size + 1))) := ⟨blk_new _ _⟩
        clear hcp hT
        rw [hcv]
        simp only [Result.andThen]
        rw [Oper.upon_value]
        clear hcv
        obtain ⟨k5, hk5⟩ : ∃ k5, w4.heap.size = k5 := ⟨_, rfl⟩
        have hkk : b < k5 := by rw [← hk5]; exact S3.out.1.lt
        rw [hk5] at HROW ⊢
        generalize w4.drew.alloc (.cells (bytesRow T cp) 5 ((bytesRow T cp).size, (bytesRow T cp).size + 1)) = W5 at S5 HROW ⊢
        go_wp2_with fail
        go_loopw [33] (fun v33 wx => ∃ i : Nat, i ≤ d3 ∧ v33 = .int .i64 i ∧ Ad (QS b k (pos + d0) s w (1 + 96 * j + 4 * i) wx ∧ wx.heap[k5]? = some (.cells (bytesRow T cp) 5 ((bytesRow T cp).size, (bytesRow T cp).size + 1)))) (fun v33 _ => d3 - (intOf v33).toNat)
        case atStart => exact ⟨0, by omega, rfl, ⟨by simpa using S5.out, HROW.out⟩⟩
        case round =>
          obtain ⟨i, hi, rfl, ⟨hq6, hrow6⟩⟩ := hrel
          have S6 := Ad.mk hq6
          have R6 := Ad.mk hrow6
          have l6 := blk_lt hrow6
          clear hq6
          by_cases hlt : i < d3
          · have hiT : i < T.data.size := by have : T.data.size = T.size := rfl; omega
            have g0 := (blk_cell' hrow6 i).trans (bytesRow_at T cp i hiT)
            have hx0 : (T.data[i].toNat : Int) ≤ 255 := by have := T.data[i].toNat_lt; omega
            obtain ⟨x, hx⟩ : ∃ x : Nat, T.data[i].toNat = x := ⟨_, rfl⟩
            rw [hx] at g0 hx0
            have j0 : (0 : Int) ≤ (i : Int) := by omega
            have j1 : (i : Int) < (d3 : Int) := by omega
            have x0 : (0 : Int) ≤ (x : Int) / 16 := by omega
            have x1 : (x : Int) / 16 < 16 := by omega
            clear hrow6 hx
            go_wp2_with (go_at_call 82; refine (bb_str b _ _ _ S6.out.1 (by show 1 + 96 * j + 4 * i + 2 ≤ _; omega)).mono ?_; intro e7 w7 hw; obtain ⟨r7, rfl, hs7, hk7⟩ := S6.out.w hkb hw; have S7 := Ad.mk hs7; have R7 := Ad.mk (hk7 _ _ R6.out (by omega) (by intro cs fz e h; injection e with e; subst e; exact h0.out h)); clear hw hs7 hk7)
            go_at_call 81
            refine (bb_byte b _ _ _ S7.out.1 (u8_rng _) (by show 1 + 96 * j + 4 * i + 2 + 1 ≤ _; omega)).mono ?_
            intro e8 w8 hw
            obtain ⟨r8, rfl, hs8, hk8⟩ := S7.out.w hkb hw
            have S8 := Ad.mk hs8
            have R8 := Ad.mk (hk8 _ _ R7.out (by omega) (by intro cs fz e h; injection e with e; subst e; exact h0.out h))
            clear hw hs8 hk8
            go_wp2_with fail
            go_at_call 81
            refine (bb_byte b _ _ _ S8.out.1 (u8_rng _) (by show 1 + 96 * j + 4 * i + 2 + 1 + 1 ≤ _; omega)).mono ?_
            intro e9 w9 hw
            obtain ⟨r9, rfl, hs9, hk9⟩ := S8.out.w hkb hw
            have S9 := Ad.mk hs9
            have R9 := Ad.mk (hk9 _ _ R8.out (by omega) (by intro cs fz e h; injection e with e; subst e; exact h0.out h))
            clear hw hs9 hk9
            go_wp2_with fail
            go_roundw
            case rel => exact ⟨i + 1, by omega, by go_num, ⟨⟨S9.out.1.mono (by show 1 + 96 * j + 4 * i + 2 + 1 + 1 ≤ _; omega), S9.out.2⟩, R9.out⟩⟩
            case measure => simp [intOf]; omega
          · go_wp2_with fail
            exact HFIN.out (4 * i) _ (by omega) S6.out
    · have hnx := fun ty => Lib.run_next_end_at (P := Tryz.prog) wr k s pos ty hit hp
      have HBB := Ad.mk hbb
      have HBW := Ad.mk hbw
      clear hit hbb hbw
      go_wp2_with (go_at_call 81; refine (bb_byte b _ 34 _ HBB.out (by decide) (by omega)).mono ?_; rintro e4 w4 ⟨r4, rfl, hb4, hc4, _⟩; have HB4 := Ad.mk hb4; have HC4 := Ad.mk hc4; clear hb4 hc4)
      go_end0
      exact ⟨rfl, (HB4.out.mono (by omega)).any, HBW.out.trans HC4.out⟩
end Go.Proofs.YtahnelihohmjfaaGreatDoor.V
namespace Go.Proofs.YtahnelihohmjfaaGreatDoor.V
open Go.RowKit
set_option linter.unusedVariables false
set_option linter.unusedSimpArgs false
set_option maxHeartbeats 8000000 in
set_option maxRecDepth 100000 in
theorem print1_text (b c : Nat) (A : Option Addr) (u : Val) (w : World) (hk : (u.k == 2) = true) (hs : u.s.size ≤ 24) (hg : GVb w b) (hb : BB false b 0 w) :
    Calls Tryz.prog 101 #[.pointer (some ⟨b, 0, none⟩), .agg #[.int .i64 u.k, .int .i64 u.n, .string u.s, .slice A u.items.length c]] w (fun e w' => e = .returned (.tuple #[]) ∧ BB false b 2306 w' ∧ Below b w w') := by
  have hk0 : (u.k == 0) = false := by simp at hk ⊢; omega
  have hk1 : (u.k == 1) = false := by simp at hk ⊢; omega
  have HG := Ad.mk hg
  have HB := Ad.mk hb
  have HS := Ad.mk hs
  have hbl := hb.lt
  clear hg hb hs
  have hba : Ad (Below w.heap.size w (w.alloc (.cells #[.int .i64 u.k, .int .i64 u.n, .string u.s, .slice A u.items.length c] 42))) := ⟨below_alloc (Below.refl _ _) _⟩
  go_enter Tryz.func101, Tryz.ntmps101
  go_wp2_with (go_at_call 125; refine (vquote_calls b _ HS.out _ (HB.out.below hba.out) (HG.out.B (hba.out.mono (Nat.le_of_lt hbl)))).mono ?_; rintro e1 w1 ⟨rfl, hb1, hc1⟩; have HB1 := Ad.mk hb1; have HC1 := Ad.mk hc1; clear hb1 hc1)
  go_end0
  exact ⟨rfl, HB1.out, (hba.out.mono (Nat.le_of_lt hbl)).trans HC1.out⟩
theorem valid_textQ (s : ByteArray) (h : s.size ≤ 24) : checkP (Val.text s) = 0 := by
  have : ¬ 24 < s.size := by omega
  simp [Val.text, checkP, partV, partL, headE, this]
theorem text_fit {s : ByteArray} (hs : s.size ≤ 24) : fitV (Val.text s) = Val.text s := by
  have h := valid_textQ s hs
  unfold fitV
  rw [if_pos h]
set_option maxHeartbeats 8000000 in
set_option maxRecDepth 100000 in
theorem print_text (c : Nat) (A : Option Addr) (s : ByteArray) (Q : Nat → Prop) (w : World) (hs : s.size ≤ 24) (hv : VA Q w A c (Val.text s)) (hQ : ∀ b, Q b → b < w.heap.size) (hg : GV w) :
    Calls Tryz.prog 87 #[.agg #[.int .i64 (Val.text s).k, .int .i64 (Val.text s).n, .string (Val.text s).s, .slice A (Val.text s).items.length c]] w (fun e w' => ∃ t : ByteArray, e = .returned (.string t) ∧ t.size ≤ 2306 ∧ Below w.heap.size w w') := by
  have HV := Ad.mk hv
  have HQ := Ad.mk hQ
  have HG := Ad.mk hg
  have HS := Ad.mk hs
  have HF := Ad.mk (text_fit hs)
  have hbn : BB false (w.heap.size + 1) 0 ((w.alloc (.cells #[.int .i64 (Val.text s).k, .int .i64 (Val.text s).n, .string (Val.text s).s, .slice A (Val.text s).items.length c] 42)).alloc (.cells #[.pointer none, .slice none 0 0] 184)) := by
    have h := BB.new (w.alloc (.cells #[.int .i64 (Val.text s).k, .int .i64 (Val.text s).n, .string (Val.text s).s, .slice A (Val.text s).items.length c] 42))
    simpa using h
  have HBN := Ad.mk hbn
  clear hv hQ hg hs hbn
  go_enter Tryz.func87, Tryz.ntmps87
  go_wp2_with (first
    | (go_at_call 102; refine (valid_calls Q A c (Val.text s) _ (HV.out.below (below_alloc (below_alloc (Below.refl _ _) _) _)) (by intro b hb; have := HQ.out b hb; simp; omega)).mono ?_; rw [HF.out]; rintro e1 w1 ⟨A1, c1, rfl, ha1, hb1⟩; have HB1 := Ad.mk hb1; clear hb1 ha1)
    | (go_at_call 101; refine (print1_text (w.heap.size + 1) _ _ (Val.text s) _ (by rfl) HS.out (by obtain ⟨w0, h0, h1⟩ := HG.out; exact ⟨w0, h0, below_then h1 (below_then (below_alloc (below_alloc (Below.refl _ _) _) _) HB1.out), by have := h1.size; omega⟩) (HBN.out.below HB1.out)).mono ?_; rintro e2 w2 ⟨rfl, hb2, hc2⟩; have HB2 := Ad.mk hb2; have HC2 := Ad.mk hc2; clear hb2 hc2)
    | (go_at_call 83; refine (bb_string _ _ _ HB2.out).mono ?_; rintro e3 w3 ⟨t, rfl, ht, hc3⟩; have HC3 := Ad.mk hc3; have HT := Ad.mk ht; clear hc3 ht))
  go_ret
  have h1 : Below w.heap.size w w1 := below_then (below_alloc (below_alloc (Below.refl _ _) _) _) HB1.out
  exact ⟨t, rfl, HT.out, h1.trans ((HC2.out.mono (by omega)).trans (HC3.out.mono (by omega)))⟩
end Go.Proofs.YtahnelihohmjfaaGreatDoor.V
namespace Go.Proofs.YtahnelihohmjfaaGreatDoor.V
open Go.RowKit
set_option linter.unusedVariables false
set_option linter.unusedSimpArgs false
theorem u8_at (s : ByteArray) (i : Nat) (h : i < s.size) : (s[i].toNat : Int) ≤ 255 := by have := s[i].toNat_lt; omega
set_option maxHeartbeats 8000000 in
set_option maxRecDepth 100000 in
theorem eplain_calls (s : ByteArray) (hs : s.size ≤ 3000) (w : World) : Calls Tryz.prog 86 #[.string s] w (fun e w' => ∃ t : ByteArray, e = .returned (.string t) ∧ t.size ≤ 4 * s.size ∧ Below w.heap.size w w') := by
  have HB0 := Ad.mk (BB.new w)
  have HC0 : Ad (Below w.heap.size w (w.alloc (.cells #[.pointer none, .slice none 0 0] 184))) := ⟨below_alloc (Below.refl _ _) _⟩
  go_enter Tryz.func86, Tryz.ntmps86
  go_wp2_with fail
  generalize w.alloc (.cells #[.pointer none, .slice none 0 0] 184) = W at HB0 HC0 ⊢
  go_loopw [8] (fun v8 wr => ∃ i : Nat, i ≤ s.size ∧ v8 = .int .i64 i ∧ Ad (BB false w.heap.size (4 * i) wr ∧ Below w.heap.size w wr)) (fun v8 _ => s.size - (intOf v8).toNat)
  case atStart => exact ⟨0, Nat.zero_le _, rfl, ⟨by simpa using HB0.out, HC0.out⟩⟩
  case round =>
    obtain ⟨i, hi, rfl, ⟨hb, hc⟩⟩ := hrel
    have HB := Ad.mk hb
    have HC := Ad.mk hc
    clear hb hc
    by_cases hlt : i < s.size
    · have j0 : (0 : Int) ≤ (i : Int) := by omega
      have j1 : (i : Int) < (s.size : Int) := by omega
      have hu := u8_at s i hlt
      obtain ⟨x, hx⟩ : ∃ x : Nat, s[i].toNat = x := ⟨_, rfl⟩
      have HX := Ad.mk hx
      rw [hx] at hu
      have x0 : (0 : Int) ≤ (x : Int) / 16 := by omega
      have x1 : (x : Int) / 16 < 16 := by omega
      have x2 : (0 : Int) ≤ (x : Int) % 16 := by omega
      have x3 : (x : Int) % 16 < 16 := by omega
      go_wp2_with (go_at_call 82; refine (bb_str _ _ _ _ HB.out (by show 4 * i + 2 ≤ _; omega)).mono ?_; rintro e7 w7 ⟨r7, rfl, hb7, hc7, _⟩; have HB7 := Ad.mk hb7; have HC7 := Ad.mk (HC.out.trans hc7); clear hb7 hc7)
      · skip
        go_at_call 81
        refine (bb_byte _ _ _ _ HB7.out (u8_rng _) (by show 4 * i + 2 + 1 ≤ _; omega)).mono ?_
        rintro e8 w8 ⟨r8, rfl, hb8, hc8, _⟩
        have HB8 := Ad.mk hb8
        have HC8 := Ad.mk (HC7.out.trans hc8)
        clear hb8 hc8
        go_wp2_with fail
        go_at_call 81
        refine (bb_byte _ _ _ _ HB8.out (u8_rng _) (by show 4 * i + 2 + 1 + 1 ≤ _; omega)).mono ?_
        rintro e9 w9 ⟨r9, rfl, hb9, hc9, _⟩
        have HB9 := Ad.mk hb9
        have HC9 := Ad.mk (HC8.out.trans hc9)
        clear hb9 hc9
        go_wp2_with fail
        go_roundw
        case rel => exact ⟨i + 1, by omega, by go_num, ⟨HB9.out.mono (by show 4 * i + 2 + 1 + 1 ≤ _; omega), HC9.out⟩⟩
        case measure => simp [intOf]; omega
      · skip
        go_at_call 81
        refine (bb_byte _ _ _ _ HB.out (by omega) (by show 4 * i + 1 ≤ _; omega)).mono ?_
        rintro e8 w8 ⟨r8, rfl, hb8, hc8, _⟩
        have HB8 := Ad.mk hb8
        have HC8 := Ad.mk (HC.out.trans hc8)
        clear hb8 hc8
        go_wp2_with fail
        go_roundw
        case rel => exact ⟨i + 1, by omega, by go_num, ⟨HB8.out.mono (by show 4 * i + 1 ≤ _; omega), HC8.out⟩⟩
        case measure => simp [intOf]; omega
    · go_wp2_with (go_at_call 83; refine (bb_string _ _ _ HB.out).mono ?_; rintro e3 w3 ⟨t, rfl, ht, hc3⟩; have HC3 := Ad.mk hc3; have HT := Ad.mk ht; clear hc3 ht)
      go_ret
      exact ⟨t, rfl, by have := HT.out; omega, HC.out.trans HC3.out⟩
set_option maxHeartbeats 4000000 in
theorem wordy_calls (s : ByteArray) (w : World) : Calls Tryz.prog 80 #[.string s] w (fun e w' => VB e ∧ w' = w) := by
  by_cases h : 0 < s.size
  · have h0 : (0 : Int) < (s.size : Int) := by omega
    go_enter Tryz.func80, Tryz.ntmps80
    go_wp2_with fail
    all_goals go_ret
    all_goals exact ⟨⟨_, rfl⟩, rfl⟩
  · have he : s = ⟨#[]⟩ := by
      obtain ⟨a⟩ := s
      have : a = #[] := Array.eq_empty_of_size_eq_zero (by have : (ByteArray.mk a).size = a.size := rfl; omega)
      rw [this]
    subst he
    go_enter Tryz.func80, Tryz.ntmps80
    go_wp2_with fail
    all_goals go_ret
    all_goals exact ⟨⟨_, rfl⟩, rfl⟩
/-- a list of strings, together with its length at most k -/
structure StrL (w : World) (A : Option Addr) (c : Nat) (xs : List ByteArray) (k : Nat) : Prop where
  c : xs.length ≤ c
  m : (xs.map (·.size)).sum + xs.length ≤ k
  h : 0 < xs.length → ∃ ad, A = some ad ∧ ∀ i, i < xs.length → w.cell? (ad.add i) = some (.string (xs.getD i ⟨#[]⟩))
theorem StrL.later {w w' : World} {A : Option Addr} {c k : Nat} {xs : List ByteArray} {n : Nat} (h : StrL w A c xs k) (hb : Below w.heap.size w w') : StrL w' A c xs k :=
  ⟨h.c, h.m, fun hp => let ⟨ad, e, hc⟩ := h.h hp; ⟨ad, e, fun i hi => cell_below hb (hc i hi)⟩⟩
def sumT (xs : List ByteArray) (i : Nat) : Nat := ((xs.take i).map (·.size)).sum + i
theorem sumT_le (xs : List ByteArray) (i : Nat) (hi : i ≤ xs.length) : sumT xs i ≤ (xs.map (·.size)).sum + xs.length := by
  unfold sumT
  have h : (xs.map (·.size)).sum = ((xs.take i).map (·.size)).sum + ((xs.drop i).map (·.size)).sum := by
    rw [← List.sum_append, ← List.map_append, List.take_append_drop]
  omega
theorem sumT_succ (xs : List ByteArray) (i : Nat) (hi : i < xs.length) : sumT xs (i + 1) = sumT xs i + (xs.getD i ⟨#[]⟩).size + 1 := by
  unfold sumT
  rw [List.take_succ_eq_append_getElem hi, List.getD_eq_getElem?_getD, List.getElem?_eq_getElem hi]
  simp only [List.map_append, List.sum_append, List.map_cons, List.map_nil, List.sum_cons, List.sum_nil, Option.getD_some]
  omega
set_option maxHeartbeats 8000000 in
set_option maxRecDepth 100000 in
theorem joined_calls (A : Option Addr) (c k : Nat) (xs : List ByteArray) (w : World) (h : StrL w A c xs k) (hk : k ≤ 999000) : Calls Tryz.prog 65 #[.slice A xs.length c] w (fun e w' => ∃ t : ByteArray, e = .returned (.string t) ∧ t.size ≤ k ∧ Below w.heap.size w w') := by
  have HS := Ad.mk h
  have HB0 := Ad.mk (BB.new w)
  have HC0 : Ad (Below w.heap.size w (w.alloc (.cells #[.pointer none, .slice none 0 0] 184))) := ⟨below_alloc (Below.refl _ _) _⟩
  have hm := h.m
  have hsum := sumT_le xs
  have HSUM := Ad.mk hsum
  clear h hsum
  go_enter Tryz.func65, Tryz.ntmps65
  go_wp2_with fail
  generalize w.alloc (.cells #[.pointer none, .slice none 0 0] 184) = W at HB0 HC0 ⊢
  go_loopw [8] (fun v8 wr => ∃ i : Nat, i ≤ xs.length ∧ v8 = .int .i64 i ∧ Ad (BB false w.heap.size (sumT xs i) wr ∧ Below w.heap.size w wr)) (fun v8 _ => xs.length - (intOf v8).toNat)
  case atStart => exact ⟨0, Nat.zero_le _, rfl, ⟨HB0.out, HC0.out⟩⟩
  case round =>
    obtain ⟨i, hi, rfl, ⟨hb, hc⟩⟩ := hrel
    have HB := Ad.mk hb
    have HC := Ad.mk hc
    clear hb hc
    by_cases hlt : i < xs.length
    · obtain ⟨ad, rfl, hcell⟩ := HS.out.h (by omega)
      have g0 := cell_below HC.out (hcell i hlt)
      have HCELL := Ad.mk hcell
      have hsu := sumT_succ xs i hlt
      have hsl := HSUM.out (i + 1) (by omega)
      obtain ⟨x, hx⟩ : ∃ x, xs.getD i ⟨#[]⟩ = x := ⟨_, rfl⟩
      rw [hx] at g0 hsu
      have j0 : (0 : Int) ≤ (i : Int) := by omega
      have j1 : (i : Int) < (xs.length : Int) := by omega
      obtain ⟨n, hn⟩ : ∃ n, sumT xs i = n := ⟨_, rfl⟩
      rw [hn] at HB hsu
      clear hcell hx hn
      cases i with
      | zero =>
        rw [show ad.add 0 = ad from by unfold Addr.add; simp] at g0
        go_wp2_with (first
        | (go_at_call 80; refine (wordy_calls _ _).mono ?_; rintro e4 w4 ⟨⟨x4, rfl⟩, rfl⟩)
        | (go_at_call 81; refine (bb_byte _ _ 32 _ HB.out (by decide) (by omega)).mono ?_; rintro e5 w5 ⟨r5, rfl, hb5, hc5, _⟩; have HB5 := Ad.mk hb5; have HC5 := Ad.mk (HC.out.trans hc5); clear hb5 hc5)
        | (go_at_call 82; refine (bb_str _ _ _ _ HB5.out (by omega)).mono ?_; rintro e7 w7 ⟨r7, rfl, hb7, hc7, _⟩; have HB7 := Ad.mk hb7; have HC7 := Ad.mk (HC5.out.trans hc7); clear hb7 hc7)
        | (go_at_call 82; refine (bb_str _ _ _ _ HB.out (by omega)).mono ?_; rintro e7 w7 ⟨r7, rfl, hb7, hc7, _⟩; have HB7 := Ad.mk hb7; have HC7 := Ad.mk (HC.out.trans hc7); clear hb7 hc7))
        go_roundw
        case rel => exact ⟨0 + 1, by omega, by go_num, ⟨HB7.out.mono (by omega), HC7.out⟩⟩
        case measure => simp [intOf]; omega
      | succ i' =>
        rw [show ad.add (i' + 1) = ⟨ad.block, ad.off + (i' + 1), none⟩ from by unfold Addr.add; simp] at g0
        have g1 := cell_below HC.out (HCELL.out i' (by omega))
        have qw := Go.IntWalk.i64_in ((i' : Int) + 1 - 1) (by omega)
        go_wp2_with (first
        | (go_at_call 80; refine (wordy_calls _ _).mono ?_; rintro e4 w4 ⟨⟨x4, rfl⟩, rfl⟩)
        | (go_at_call 81; refine (bb_byte _ _ 32 _ HB.out (by decide) (by omega)).mono ?_; rintro e5 w5 ⟨r5, rfl, hb5, hc5, _⟩; have HB5 := Ad.mk hb5; have HC5 := Ad.mk (HC.out.trans hc5); clear hb5 hc5)
        | (go_at_call 82; refine (bb_str _ _ _ _ HB5.out (by omega)).mono ?_; rintro e7 w7 ⟨r7, rfl, hb7, hc7, _⟩; have HB7 := Ad.mk hb7; have HC7 := Ad.mk (HC5.out.trans hc7); clear hb7 hc7)
        | (go_at_call 82; refine (bb_str _ _ _ _ HB.out (by omega)).mono ?_; rintro e7 w7 ⟨r7, rfl, hb7, hc7, _⟩; have HB7 := Ad.mk hb7; have HC7 := Ad.mk (HC.out.trans hc7); clear hb7 hc7))
        all_goals
          go_roundw
          case rel => exact ⟨i' + 1 + 1, by omega, by go_num, ⟨HB7.out.mono (by omega), HC7.out⟩⟩
          case measure => simp [intOf]; omega
    · go_wp2_with (go_at_call 83; refine (bb_string _ _ _ HB.out).mono ?_; rintro e3 w3 ⟨t, rfl, ht, hc3⟩; have HC3 := Ad.mk hc3; have HT := Ad.mk ht; clear hc3 ht)
      go_ret
      exact ⟨t, rfl, by have := HT.out; have := HSUM.out i hi; omega, HC.out.trans HC3.out⟩
end Go.Proofs.YtahnelihohmjfaaGreatDoor.V
