/- The walk of ReplyRoundTrip. -/
import Derived.Test.YtiffpjlmgeklkaaDoorLawRply3
namespace Go.Proofs.YtiffpjlmgeklkaaDoor
open Go.ChangeShapes Go.WideShapes Go.ChangeAt Go.RowKit

/-- A struct stored within a block. -/
theorem blk_setCells {g : Nat} {t : TypeId} : ∀ (vs : List Value) (o : Nat) (w : World) (cs : List Value), Blk w g t cs → o + vs.length ≤ cs.length → Blk (w.setCells g o vs) g t (cs.take o ++ vs ++ cs.drop (o + vs.length)) ∧ Ch [g] w (w.setCells g o vs)
  | [], o, w, cs, h, _ => ⟨by simpa [World.setCells, List.take_append_drop] using h, Ch.refl _ _⟩
  | v :: r, o, w, cs, h, hl => by
    simp only [List.length_cons] at hl
    obtain ⟨h1, h2⟩ := blk_setCells r (o + 1) (w.setCell ⟨g, o, none⟩ v) (cs.set o v) (h.set o v) (by rw [List.length_set]; omega)
    refine ⟨?_, ((Ch.refl [g] w).setCell (p := ⟨g, o, none⟩) (.inl (by simp)) v).trans h2⟩
    have e : (cs.set o v).take (o + 1) ++ r ++ (cs.set o v).drop (o + 1 + r.length) = cs.take o ++ v :: r ++ cs.drop (o + (v :: r).length) := by
      have hlt : o < cs.length := by omega
      rw [List.take_set, List.drop_set_of_lt (by omega), List.take_succ_eq_append_getElem hlt]
      have h1 : (cs.take o).length = o := by rw [List.length_take]; omega
      rw [List.set_append_right _ _ (by omega), h1, Nat.sub_self, List.set_cons_zero]
      simp only [List.length_cons, List.append_assoc, List.cons_append, List.nil_append]
      rw [show o + 1 + r.length = o + (r.length + 1) by omega]
    rw [e] at h1
    exact h1
theorem wpList_storeMid {P : Program} {ops : Array Oper} {rest : List Oper} {o : Oper} {ac : Act} {w : World} {Q : Exit → Act → World → Prop} (hgd : o.guard = none) (ty : TypeId) (x y : Operand) (ho : o.op = .store ty x y)
    (g of : Nat) (t : TypeId) (cs vs : List Value) (hx : ac.eval x = .pointer (some ⟨g, of, none⟩)) (hy : ac.eval y = .agg vs.toArray) (hB : Blk w g t cs) (hi : (P.info? ty).map (·.size) = some vs.length) (hl : of + vs.length ≤ cs.length) (h1 : vs.all (·.oneCell') = true)
    (h : ∀ w', Blk w' g t (cs.take of ++ vs ++ cs.drop (of + vs.length)) → Ch [g] w w' → wpList P ops Q rest (ac.put o.dst undef) w') : wpList P ops Q (o :: rest) ac w := by
  obtain ⟨k1, k2⟩ := blk_setCells vs of w cs hB hl
  refine wpList_store_mid hgd ty x y ho g of vs.toArray hx hy (fun j hj => ⟨?_, hB.frozen _⟩) (by simpa using hi) (by simpa using h1) (by simpa using h _ k1 k2)
  have hj' : j < vs.length := by simpa using hj
  rw [hB.cell, List.getElem?_eq_getElem (by omega)]; rfl

theorem parse_rep (code : Int) (t : Tgt) (hg : GoodT t) (r : List Int) : parseR (encRep code t ++ r) = (code % 256, (if okT t then backT t else tgt0), ((encRep code t).length : Int), 1) := by
  have hp : parseT ((if okT t then encT' t else encT' tgt0) ++ r) = ((if okT t then backT t else tgt0), (((if okT t then encT' t else encT' tgt0)).length : Int), 1) := by
    cases h : okT t
    · simp only [Bool.false_eq_true, if_false]
      have := parse_enc tgt0 good0 rfl r
      rw [show backT tgt0 = tgt0 from rfl] at this
      exact this
    · simp only [if_true]
      exact parse_enc t hg h r
  unfold encRep
  generalize (if okT t then encT' t else encT' tgt0) = E at hp
  have h5 : at_ (5 :: (code % 256) :: 0 :: E ++ r) 0 = 5 := rfl
  have h0 : at_ (5 :: (code % 256) :: 0 :: E ++ r) 2 = 0 := rfl
  have h1 : at_ (5 :: (code % 256) :: 0 :: E ++ r) 1 = code % 256 := rfl
  have hd : (5 :: (code % 256) :: 0 :: E ++ r).drop 3 = E ++ r := rfl
  unfold parseR
  rw [if_neg (by rw [h5, h0]; rintro (⟨_, h⟩ | ⟨_, h⟩) <;> exact h rfl), if_neg (by simp only [List.cons_append, List.length_cons]; omega), hd, hp, if_neg (by simp), h1]
  simp only [List.length_cons]
  congr 3
theorem rep_bytes {t : Tgt} (hg : GoodT t) (code : Int) : ∀ x ∈ encRep code t, 0 ≤ x ∧ x ≤ 255 := by
  intro x hx
  unfold encRep at hx
  simp only [List.mem_cons] at hx
  rcases hx with rfl | rfl | rfl | hx
  · omega
  · omega
  · omega
  · cases h : okT t
    · rw [h] at hx; exact encT_bytes good0 rfl x hx
    · rw [h] at hx; exact encT_bytes hg h x hx

set_option maxRecDepth 100000 in
set_option maxHeartbeats 8000000 in
theorem replyRoundTrip_came {H : Type} {enc : TypeId × Value → H} (W : World) (args : Array Value) (ds : List (DataW H)) (_ : laidMetH Tryd.prog Rows.replyRoundTripRow.laid W) (h : Came enc Tryd.prog Tryd.f5 W args ds) :
    Calls Tryd.prog 5 args W fun e W' => e = .returned (.bool true) ∧ Below W.heap.size W W' := by
  obtain ⟨v0, v1, v2, d0, d1, d2, rfl, a0, a1, a2⟩ := h.args3 rfl
  obtain ⟨code, rfl, hc, hc'⟩ := a0.i64 Tryd.underlying3
  obtain ⟨t, rfl, hg, hns, _⟩ := a1.target
  obtain ⟨b, rfl, hbs⟩ := a2.string Tryd.underlying9
  clear h a0 a1 a2
  have h1 := replyEnc code t hg (by omega)
  have h2 := refEncRep code t hg (by omega)
  have h3 := encQ t hg (by omega)
  have hR := rep_len hg code
  have h4 : ∀ w, Calls Tryd.prog 19 #[.string (strOfNums (encRep code t) ++ b)] w fun e w' => e = .returned (.tuple #[.int .i64 (code % 256), .agg (tgtC (if okT t then backT t else tgt0)).toArray, .int .i64 (strOfNums (encRep code t)).size, .int .i64 1]) ∧ Ch [] w w' := fun w => by
    have := replyP (strOfNums (encRep code t) ++ b) (by rw [ByteArray.size_append]; omega) w
    rw [nums_app, strOf_bytes _ (rep_bytes hg code), parse_rep code t hg] at this
    rw [strOf_size]
    exact this
  generalize strOfNums (encRep code t) = S at h1 h2 h4 hR
  have m1 : S.size + b.size ≤ maxLen := by unfold maxLen; omega
  have i1 := tgt_inf hg.1
  have lt0 := hg.1
  obtain ⟨cc, hcc⟩ : ∃ cc, code % 256 = cc := ⟨_, rfl⟩
  have hcc2 : 0 ≤ cc ∧ cc ≤ 255 := by omega
  rw [hcc] at h4
  have H1 := hid h1
  have H2 := hid h2
  have I1 := hid i1
  clear h1 h2 i1
  have B0 : Blk (W.alloc (.cells (tgtC t).toArray 26)) W.heap.size 26 (tgtC t) := Blk.new W _ _
  have C0 : Ch [] W (W.alloc (.cells (tgtC t).toArray 26)) := (Ch.refl _ _).alloc _
  have c0 : (tgtC t)[0]? = some (.string t.1) := rfl
  cases ok : okT t with
  | false =>
    rw [encT_none ok] at h3
    have h3' : ∀ w, Calls Tryd.prog 12 #[.agg (tgtC t).toArray] w fun e w' => e = .returned (.tuple #[.string ⟨#[]⟩, .bool false]) ∧ Ch [] w w' := h3
    rw [ok] at h4
    have h4' : ∀ w, Calls Tryd.prog 19 #[.string (S ++ b)] w fun e w' => e = .returned (.tuple #[.int .i64 cc, .agg (tgtC tgt0).toArray, .int .i64 S.size, .int .i64 1]) ∧ Ch [] w w' := h4
    have eqs := fun w => tgt_same tgt0 rfl w
    have H3 := hid h3'
    have H4 := hid h4'
    clear h3 h3' h4 h4' ok
    have lcs : (tgtC t).length = 19 := tgt_len lt0
    have ones := tgt_one t
    generalize tgtC t = cs at H1 H2 H3 I1 B0 C0 c0 lcs ones ⊢
    go_enter Tryd.func5, Tryd.ntmps5
    go_wp2_with (first
      | (refine wpList_loadB rfl 26 _ rfl W.heap.size 26 cs _ rfl B0 Tryd.underlying26 rfl I1.out ?_)
      | (refine wpList_loadB rfl 26 _ rfl W.heap.size 26 cs _ rfl B1 Tryd.underlying26 rfl I1.out ?_)
      | (refine wpList_loadB rfl 26 _ rfl W.heap.size 26 cs _ rfl B3 Tryd.underlying26 rfl I1.out ?_)
      | (refine wpList_loadB rfl 26 _ rfl W.heap.size 26 cs _ rfl B4 Tryd.underlying26 rfl I1.out ?_)
      | (refine wpList_load_want rfl 26 _ rfl w4.heap.size 0 rfl (tgtC tgt0) _ BX8.range Tryd.underlying26 rfl (tgt_inf rfl) ?_)
      | (refine wpList_load_want rfl 26 _ rfl w6.heap.size 0 rfl (tgtC tgt0) _ BY8.range Tryd.underlying26 rfl (tgt_inf rfl) ?_)
      | (refine wpList_storeB rfl 26 _ _ rfl w6.heap.size 26 (tgtC tgt0) (tgtC (tgt0)) rfl rfl (Blk.new _ _ _) (tgt_inf rfl) ((tgt_len (t := tgt0) rfl).trans (tgt_len (t := tgt0) rfl).symm) (tgt_one _) ?_; intro w7 BY K7 Z7; have C7 := ((C5b.trans C6).alloc _).step K7 (fun i hi => .inr (by simp at hi; omega)); have BX7 := (BX6.alloc _).ch K7 (by simp; omega))
      | (go_at_call 15; (with_reducible refine (awake18 _).mono ?_); rintro e w8 ⟨rfl, C8⟩; have BY8 := BY.ch C8 (by simp); have BX8 := BX7.ch C8 (by simp))
      | (go_at_call 19; (with_reducible refine (H4.out _).mono ?_); rintro e w6 ⟨rfl, C6⟩; have BX6 := BXb.ch C6 (by simp); have lx6 := BX6.lt; have z6 := (C5b.trans C6).size)
      | (refine wpList_storeB rfl 26 _ _ rfl w4.heap.size 26 cs (tgtC tgt0) rfl rfl BX (tgt_inf rfl) (lcs.trans (tgt_len (t := tgt0) rfl).symm) (tgt_one _) ?_; intro w5b BXb K5 Z5; have C5b := CX.step K5 (fun i hi => .inr (by simp at hi; omega)); have lx := BXb.lt)
      | (refine wpList_storeB rfl 26 _ _ rfl w4.heap.size 26 (tgtC tgt0) cs rfl rfl (Blk.new _ _ _) I1.out ((tgt_len (t := tgt0) rfl).trans lcs.symm) ones ?_; intro w5 BX K4 Z4; have CX := (C4.alloc _).step K4 (fun i hi => .inr (by simp at hi; omega)); have BT := (B4.alloc _).ch K4 (by simp; omega); have d0 : w5.cell? ⟨W.heap.size, 0, none⟩ = _ := (BT.cell 0).trans c0; have zx := CX.size)
      | (go_at_call 12; (with_reducible refine (H3.out _).mono ?_); rintro e w4 ⟨rfl, C3b⟩; have C4 := C3.trans C3b; have B4 := B3.ch C3b (by simp); have l4 := B4.lt; have z4 := C4.size)
      | (go_at_call 18; (with_reducible refine (H2.out _).mono ?_); rintro e w2 ⟨rfl, C1b⟩; have C3 := C1.trans C1b; have B3 := B1.ch C1b (by simp))
      | (go_at_call 17; (with_reducible refine (H1.out _).mono ?_); rintro e w1 ⟨rfl, C1a⟩; have C1 := C0.trans C1a; have B1 := B0.ch C1a (by simp)))
    go_ret
    exact ⟨rfl, (C7.trans C8).nil_below⟩
  | true =>
    rw [encT_some ok rfl] at h3
    generalize strOfNums (encT' t) = E at h3
    rw [ok] at h4
    have h4' : ∀ w, Calls Tryd.prog 19 #[.string (S ++ b)] w fun e w' => e = .returned (.tuple #[.int .i64 cc, .agg (tgtC (backT t)).toArray, .int .i64 S.size, .int .i64 1]) ∧ Ch [] w w' := h4
    have lb : (backT t).2.2.1.length = 16 := by unfold backT; split; rfl; exact lt0
    have eqs := fun w => tgt_same (backT t) lb w
    have H3 := hid h3
    have H4 := hid h4'
    have I4 := hid (tgt_inf lb)
    clear h3 h4 h4'
    by_cases hn : t.1.size = 0
    · have hback : backT t = t := by unfold backT; rw [if_neg (by omega)]
      rw [hback] at H4 eqs I4 lb
      have he : t.1.toList = [] := isEmp hn
      have he2 : t.1.toList.isEmpty = true := by rw [he]; rfl
      clear ok hback hn
      have lcs : (tgtC t).length = 19 := tgt_len lt0
      have ones := tgt_one t
      generalize t.1 = name at c0 he he2 hns
      generalize tgtC t = cs at H1 H2 H3 H4 I1 I4 B0 C0 c0 lcs ones eqs ⊢
      go_enter Tryd.func5, Tryd.ntmps5
      go_wp2_with (first
        | (refine wpList_loadB rfl 26 _ rfl W.heap.size 26 cs _ rfl B0 Tryd.underlying26 rfl I1.out ?_)
        | (refine wpList_loadB rfl 26 _ rfl W.heap.size 26 cs _ rfl B1 Tryd.underlying26 rfl I1.out ?_)
        | (refine wpList_loadB rfl 26 _ rfl W.heap.size 26 cs _ rfl B3 Tryd.underlying26 rfl I1.out ?_)
        | (refine wpList_loadB rfl 26 _ rfl W.heap.size 26 cs _ rfl B4 Tryd.underlying26 rfl I1.out ?_)
        | (refine wpList_load_want rfl 26 _ rfl w4.heap.size 0 rfl cs _ BX8.range Tryd.underlying26 rfl I1.out ?_)
        | (refine wpList_load_want rfl 26 _ rfl w6.heap.size 0 rfl cs _ BY8.range Tryd.underlying26 rfl I1.out ?_)
        | (refine wpList_storeB rfl 26 _ _ rfl w6.heap.size 26 (tgtC tgt0) cs rfl rfl (Blk.new _ _ _) (I1.out) ((tgt_len (t := tgt0) rfl).trans lcs.symm) ones ?_; intro w7 BY K7 Z7; have C7 := ((CX.trans C6).alloc _).step K7 (fun i hi => .inr (by simp at hi; omega)); have BX7 := (BX6.alloc _).ch K7 (by simp; omega))
        | (go_at_call 15; (with_reducible refine (awake18 _).mono ?_); rintro e w8 ⟨rfl, C8⟩; have BY8 := BY.ch C8 (by simp); have BX8 := BX7.ch C8 (by simp))
        | (go_at_call 19; (with_reducible refine (H4.out _).mono ?_); rintro e w6 ⟨rfl, C6⟩; have BX6 := BX.ch C6 (by simp); have lx6 := BX6.lt; have z6 := (CX.trans C6).size)
        | (refine wpList_storeB rfl 26 _ _ rfl w4.heap.size 26 (tgtC tgt0) cs rfl rfl (Blk.new _ _ _) I1.out ((tgt_len (t := tgt0) rfl).trans lcs.symm) ones ?_; intro w5 BX K4 Z4; have CX := (C4.alloc _).step K4 (fun i hi => .inr (by simp at hi; omega)); have BT := (B4.alloc _).ch K4 (by simp; omega); have d0 : w5.cell? ⟨W.heap.size, 0, none⟩ = _ := (BT.cell 0).trans c0; have zx := CX.size)
        | (go_at_call 12; (with_reducible refine (H3.out _).mono ?_); rintro e w4 ⟨rfl, C3b⟩; have C4 := C3.trans C3b; have B4 := B3.ch C3b (by simp); have l4 := B4.lt; have z4 := C4.size)
        | (go_at_call 18; (with_reducible refine (H2.out _).mono ?_); rintro e w2 ⟨rfl, C1b⟩; have C3 := C1.trans C1b; have B3 := B1.ch C1b (by simp))
        | (go_at_call 17; (with_reducible refine (H1.out _).mono ?_); rintro e w1 ⟨rfl, C1a⟩; have C1 := C0.trans C1a; have B1 := B0.ch C1a (by simp)))
      go_ret
      exact ⟨rfl, (C7.trans C8).nil_below⟩
    · have hne := notEmp (show 0 < t.1.size by omega)
      have hne2 : ¬ t.1.toList = [] := by simpa using hne
      have hback : backT t = (t.1, false, zeros, t.2.2.2) := by unfold backT; rw [if_pos hn]
      have hcs2 : (tgtC t).take 1 ++ addrC false zeros ++ (tgtC t).drop (1 + (addrC false zeros).length) = tgtC (backT t) := by
        rw [hback]
        obtain ⟨name, six, bs, port⟩ := t
        obtain ⟨b0, b1, b2, b3, b4, b5, b6, b7, b8, b9, b10, b11, b12, b13, b14, b15, rfl⟩ := len16 lt0
        rfl
      clear ok hback hn
      have lcs : (tgtC t).length = 19 := tgt_len lt0
      have ones := tgt_one t
      generalize t.1 = name at c0 hne hne2 hns
      generalize tgtC t = cs at H1 H2 H3 I1 B0 C0 c0 lcs ones hcs2 ⊢
      go_enter Tryd.func5, Tryd.ntmps5
      go_wp2_with (first
        | (refine wpList_loadB rfl 26 _ rfl W.heap.size 26 cs _ rfl B0 Tryd.underlying26 rfl I1.out ?_)
        | (refine wpList_loadB rfl 26 _ rfl W.heap.size 26 cs _ rfl B1 Tryd.underlying26 rfl I1.out ?_)
        | (refine wpList_loadB rfl 26 _ rfl W.heap.size 26 cs _ rfl B3 Tryd.underlying26 rfl I1.out ?_)
        | (refine wpList_loadB rfl 26 _ rfl W.heap.size 26 cs _ rfl B4 Tryd.underlying26 rfl I1.out ?_)
        | (refine wpList_load_want rfl 26 _ rfl w4.heap.size 0 rfl (tgtC (backT t)) _ BX8.range Tryd.underlying26 rfl I4.out ?_)
        | (refine wpList_load_want rfl 26 _ rfl w6.heap.size 0 rfl (tgtC (backT t)) _ BY8.range Tryd.underlying26 rfl I4.out ?_)
        | (refine wpList_storeB rfl 26 _ _ rfl w6.heap.size 26 (tgtC tgt0) (tgtC (backT t)) rfl rfl (Blk.new _ _ _) (I4.out) ((tgt_len (t := tgt0) rfl).trans (tgt_len (t := backT t) lb).symm) (tgt_one _) ?_; intro w7 BY K7 Z7; have C7 := ((C5b.trans C6).alloc _).step K7 (fun i hi => .inr (by simp at hi; omega)); have BX7 := (BX6.alloc _).ch K7 (by simp; omega))
        | (go_at_call 15; (with_reducible refine (awake18 _).mono ?_); rintro e w8 ⟨rfl, C8⟩; have BY8 := BY.ch C8 (by simp); have BX8 := BX7.ch C8 (by simp))
        | (go_at_call 19; (with_reducible refine (H4.out _).mono ?_); rintro e w6 ⟨rfl, C6⟩; have BX6 := BXb.ch C6 (by simp); have lx6 := BX6.lt; have z6 := (C5b.trans C6).size)
        | (refine wpList_storeMid rfl 24 _ _ rfl w4.heap.size 1 26 cs (addrC false zeros) rfl rfl BX addr_info (by rw [lcs]; decide) rfl ?_; intro w5b BXb K5; rw [hcs2] at BXb; have C5b := CX.step K5 (fun i hi => .inr (by simp at hi; omega)); have lx := BXb.lt)
        | (refine wpList_storeB rfl 26 _ _ rfl w4.heap.size 26 (tgtC tgt0) cs rfl rfl (Blk.new _ _ _) I1.out ((tgt_len (t := tgt0) rfl).trans lcs.symm) ones ?_; intro w5 BX K4 Z4; have CX := (C4.alloc _).step K4 (fun i hi => .inr (by simp at hi; omega)); have BT := (B4.alloc _).ch K4 (by simp; omega); have d0 : w5.cell? ⟨W.heap.size, 0, none⟩ = _ := (BT.cell 0).trans c0; have zx := CX.size)
        | (go_at_call 12; (with_reducible refine (H3.out _).mono ?_); rintro e w4 ⟨rfl, C3b⟩; have C4 := C3.trans C3b; have B4 := B3.ch C3b (by simp); have l4 := B4.lt; have z4 := C4.size)
        | (go_at_call 18; (with_reducible refine (H2.out _).mono ?_); rintro e w2 ⟨rfl, C1b⟩; have C3 := C1.trans C1b; have B3 := B1.ch C1b (by simp))
        | (go_at_call 17; (with_reducible refine (H1.out _).mono ?_); rintro e w1 ⟨rfl, C1a⟩; have C1 := C0.trans C1a; have B1 := B0.ch C1a (by simp)))
      go_ret
      exact ⟨rfl, (C7.trans C8).nil_below⟩
end Go.Proofs.YtiffpjlmgeklkaaDoor
