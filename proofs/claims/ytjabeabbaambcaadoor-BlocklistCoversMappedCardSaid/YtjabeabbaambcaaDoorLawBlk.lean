/- BlocklistCoversMapped. -/
import Derived.Test.YtjabeabbaambcaaDoorLawBlk0
import Derived.Test.YtjabeabbaambcaaDoorRows
namespace Go.Proofs.YtjabeabbaambcaaDoor
open Go.ChangeShapes Go.WideShapes Go.ChangeAt Go.RowKit

theorem caseB (a b : Int) (D : Bool) (hD : blk4 a b = D) :
    (a = 0 ∧ D = true) ∨ (a = 10 ∧ D = true) ∨ (a = 127 ∧ D = true) ∨ (a = 100 ∧ decide (64 ≤ b) = false ∧ D = false) ∨ (a = 100 ∧ decide (64 ≤ b) = true ∧ decide (b < 128) = true ∧ D = true) ∨ (a = 100 ∧ decide (64 ≤ b) = true ∧ decide (b < 128) = false ∧ D = false) ∨
    (a = 169 ∧ (b == 254) = true ∧ D = true) ∨ (a = 169 ∧ (b == 254) = false ∧ D = false) ∨ (a = 172 ∧ decide (16 ≤ b) = false ∧ D = false) ∨ (a = 172 ∧ decide (16 ≤ b) = true ∧ decide (b < 32) = true ∧ D = true) ∨ (a = 172 ∧ decide (16 ≤ b) = true ∧ decide (b < 32) = false ∧ D = false) ∨
    (a = 192 ∧ (b == 168) = true ∧ D = true) ∨ (a = 192 ∧ (b == 168) = false ∧ D = false) ∨
    ((a == 0) = false ∧ (a == 10) = false ∧ (a == 127) = false ∧ decide (224 ≤ a) = true ∧ D = true) ∨
    ((a == 0) = false ∧ (a == 10) = false ∧ (a == 127) = false ∧ decide (224 ≤ a) = false ∧ (a == 100) = false ∧ (a == 169) = false ∧ (a == 172) = false ∧ (a == 192) = false ∧ D = false) := by
  subst hD
  have hb : ∀ x y : Int, (x == y) = decide (x = y) := fun x y => rfl
  simp only [hb, decide_eq_true_eq, decide_eq_false_iff_not]
  have e : (blk4 a b = true ↔ (a = 0 ∨ a = 10 ∨ a = 127 ∨ 224 ≤ a ∨ (a = 100 ∧ 64 ≤ b ∧ b < 128) ∨ (a = 169 ∧ b = 254) ∨ (a = 172 ∧ 16 ≤ b ∧ b < 32) ∨ (a = 192 ∧ b = 168))) := by
    unfold blk4
    simp only [Bool.or_eq_true, Bool.and_eq_true, decide_eq_true_eq]
    omega
  rcases hB : blk4 a b with _ | _
  · have := mt e.2 (by rw [hB]; decide)
    simp only [Bool.false_eq_true, and_false, false_or, and_true]
    omega
  · have := e.1 hB
    simp only [Bool.true_eq_false, and_false, false_or, and_true]
    omega
set_option maxRecDepth 20000 in
set_option maxHeartbeats 8000000 in
theorem blocklistCoversMapped_came {H : Type} {enc : TypeId × Value → H} (W : World) (args : Array Value) (ds : List (DataW H)) (_ : laidMetH Tryd.prog Rows.blocklistCoversMappedRow.laid W) (h : Came enc Tryd.prog Tryd.f6 W args ds) :
    Calls Tryd.prog 6 args W fun e W' => e = .returned (.bool true) ∧ Below W.heap.size W W' := by
  obtain ⟨v0, v1, v2, v3, d0, d1, d2, d3, rfl, a0, a1, a2, a3⟩ := h.args4 rfl
  obtain ⟨a, rfl, ha⟩ := a0.int Tryd.underlying5
  obtain ⟨b, rfl, hb⟩ := a1.int Tryd.underlying5
  obtain ⟨c, rfl, hc⟩ := a2.int Tryd.underlying5
  obtain ⟨d, rfl, hd⟩ := a3.int Tryd.underlying5
  have ha := bounds_u8 ha
  have hb := bounds_u8 hb
  have hc := bounds_u8 hc
  have hd := bounds_u8 hd
  clear h a0 a1 a2 a3
  have ex := idx_mapped ha hb hc hd
  have ey := idx_nat64 ha hb hc hd
  have ez := idx_v4 ha hb hc hd
  have HX1 : Hid (∀ w : World, Calls Tryd.prog 29 #[.agg #[.bool true, .int .u8 0, .int .u8 0, .int .u8 0, .int .u8 0, .int .u8 0, .int .u8 0, .int .u8 0, .int .u8 0, .int .u8 0, .int .u8 0, .int .u8 255, .int .u8 255, .int .u8 a, .int .u8 b, .int .u8 c, .int .u8 d]] w fun e w' => e = .returned (.bool true) ∧ Ch [] w w') := fun w => by
    have := blkCont true (mapA a b c d) ⟨rfl, by simp only [mapA, List.mem_cons, List.not_mem_nil, or_false, forall_eq_or_imp, forall_eq]; omega⟩ w
    rw [ex, show validA true (mapA a b c d) = true from rfl] at this
    exact this
  have HX2 : Hid (∀ w : World, Calls Tryd.prog 27 #[.agg #[.bool true, .int .u8 0, .int .u8 0, .int .u8 0, .int .u8 0, .int .u8 0, .int .u8 0, .int .u8 0, .int .u8 0, .int .u8 0, .int .u8 0, .int .u8 255, .int .u8 255, .int .u8 a, .int .u8 b, .int .u8 c, .int .u8 d]] w fun e w' => e = .returned (.int .i64 10) ∧ Ch [] w w') := fun w => by
    have := blkIdx true (mapA a b c d) ⟨rfl, by simp only [mapA, List.mem_cons, List.not_mem_nil, or_false, forall_eq_or_imp, forall_eq]; omega⟩ w
    rw [ex] at this
    exact this
  have HY1 : Hid (∀ w : World, Calls Tryd.prog 29 #[.agg #[.bool true, .int .u8 0, .int .u8 100, .int .u8 255, .int .u8 155, .int .u8 0, .int .u8 0, .int .u8 0, .int .u8 0, .int .u8 0, .int .u8 0, .int .u8 0, .int .u8 0, .int .u8 a, .int .u8 b, .int .u8 c, .int .u8 d]] w fun e w' => e = .returned (.bool true) ∧ Ch [] w w') := fun w => by
    have := blkCont true (natA a b c d) ⟨rfl, by simp only [natA, List.mem_cons, List.not_mem_nil, or_false, forall_eq_or_imp, forall_eq]; omega⟩ w
    rw [ey, show validA true (natA a b c d) = true from rfl] at this
    exact this
  have HY2 : Hid (∀ w : World, Calls Tryd.prog 27 #[.agg #[.bool true, .int .u8 0, .int .u8 100, .int .u8 255, .int .u8 155, .int .u8 0, .int .u8 0, .int .u8 0, .int .u8 0, .int .u8 0, .int .u8 0, .int .u8 0, .int .u8 0, .int .u8 a, .int .u8 b, .int .u8 c, .int .u8 d]] w fun e w' => e = .returned (.int .i64 11) ∧ Ch [] w w') := fun w => by
    have := blkIdx true (natA a b c d) ⟨rfl, by simp only [natA, List.mem_cons, List.not_mem_nil, or_false, forall_eq_or_imp, forall_eq]; omega⟩ w
    rw [ey] at this
    exact this
  have HZ : Hid (∀ w : World, Calls Tryd.prog 29 #[.agg #[.bool false, .int .u8 a, .int .u8 b, .int .u8 c, .int .u8 d, .int .u8 0, .int .u8 0, .int .u8 0, .int .u8 0, .int .u8 0, .int .u8 0, .int .u8 0, .int .u8 0, .int .u8 0, .int .u8 0, .int .u8 0, .int .u8 0]] w fun e w' => e = .returned (.bool (blk4 a b)) ∧ Ch [] w w') := fun w => by
    have := blkCont false (v4A a b c d) ⟨rfl, by simp only [v4A, List.mem_cons, List.not_mem_nil, or_false, forall_eq_or_imp, forall_eq]; omega⟩ w
    rw [ez, show validA false (v4A a b c d) = true from rfl, Bool.not_true, Bool.or_false] at this
    exact this
  obtain ⟨D, hD⟩ : ∃ D, blk4 a b = D := ⟨_, rfl⟩
  rw [hD] at HZ
  have HD := hid hD
  obtain ⟨a0, a1⟩ := ha
  obtain ⟨b0, b1⟩ := hb
  have HI := hid (addr_info)
  clear ex ey ez hc hd hD
  have CC : Ch [] W ((W.alloc (.cells #[.bool true, .int .u8 0, .int .u8 0, .int .u8 0, .int .u8 0, .int .u8 0, .int .u8 0, .int .u8 0, .int .u8 0, .int .u8 0, .int .u8 0, .int .u8 255, .int .u8 255, .int .u8 a, .int .u8 b, .int .u8 c, .int .u8 d] 29)).alloc (.cells #[.bool true, .int .u8 0, .int .u8 100, .int .u8 255, .int .u8 155, .int .u8 0, .int .u8 0, .int .u8 0, .int .u8 0, .int .u8 0, .int .u8 0, .int .u8 0, .int .u8 0, .int .u8 a, .int .u8 b, .int .u8 c, .int .u8 d] 29)) := ((Ch.refl _ _).alloc _).alloc _
  have BX : Blk ((W.alloc (.cells #[.bool true, .int .u8 0, .int .u8 0, .int .u8 0, .int .u8 0, .int .u8 0, .int .u8 0, .int .u8 0, .int .u8 0, .int .u8 0, .int .u8 0, .int .u8 255, .int .u8 255, .int .u8 a, .int .u8 b, .int .u8 c, .int .u8 d] 29)).alloc (.cells #[.bool true, .int .u8 0, .int .u8 100, .int .u8 255, .int .u8 155, .int .u8 0, .int .u8 0, .int .u8 0, .int .u8 0, .int .u8 0, .int .u8 0, .int .u8 0, .int .u8 0, .int .u8 a, .int .u8 b, .int .u8 c, .int .u8 d] 29)) W.heap.size 29 (addrC true (mapA a b c d)) := (Blk.new W 29 (addrC true (mapA a b c d))).alloc _
  have BY : Blk ((W.alloc (.cells #[.bool true, .int .u8 0, .int .u8 0, .int .u8 0, .int .u8 0, .int .u8 0, .int .u8 0, .int .u8 0, .int .u8 0, .int .u8 0, .int .u8 0, .int .u8 255, .int .u8 255, .int .u8 a, .int .u8 b, .int .u8 c, .int .u8 d] 29)).alloc (.cells #[.bool true, .int .u8 0, .int .u8 100, .int .u8 255, .int .u8 155, .int .u8 0, .int .u8 0, .int .u8 0, .int .u8 0, .int .u8 0, .int .u8 0, .int .u8 0, .int .u8 0, .int .u8 a, .int .u8 b, .int .u8 c, .int .u8 d] 29)) (W.heap.size + 1) 29 (addrC true (natA a b c d)) := Blk.newAt _ 29 (addrC true (natA a b c d)) (by simp)
  go_enter Tryd.func6, Tryd.ntmps6
  simp only [List.append]
  go_wp2_with (first
    | (refine wpList_load_want rfl 29 _ rfl W.heap.size 0 rfl [.bool true, .int .u8 0, .int .u8 0, .int .u8 0, .int .u8 0, .int .u8 0, .int .u8 0, .int .u8 0, .int .u8 0, .int .u8 0, .int .u8 0, .int .u8 255, .int .u8 255, .int .u8 a, .int .u8 b, .int .u8 c, .int .u8 d] _ BX.range Tryd.underlying29 rfl HI.out ?_)
    | (refine wpList_load_want rfl 29 _ rfl (W.heap.size + 1) 0 rfl [.bool true, .int .u8 0, .int .u8 100, .int .u8 255, .int .u8 155, .int .u8 0, .int .u8 0, .int .u8 0, .int .u8 0, .int .u8 0, .int .u8 0, .int .u8 0, .int .u8 0, .int .u8 a, .int .u8 b, .int .u8 c, .int .u8 d] _ BY.range Tryd.underlying29 rfl HI.out ?_)
    | (refine wpList_load_want rfl 29 _ rfl w1.heap.size 0 rfl [.bool false, .int .u8 a, .int .u8 b, .int .u8 c, .int .u8 d, .int .u8 0, .int .u8 0, .int .u8 0, .int .u8 0, .int .u8 0, .int .u8 0, .int .u8 0, .int .u8 0, .int .u8 0, .int .u8 0, .int .u8 0, .int .u8 0] _ BZ.range Tryd.underlying29 rfl HI.out ?_)
    | (refine wpList_storeB rfl 29 _ _ rfl w1.heap.size 29 (addrC false zeros) (addrC false (v4A a b c d)) rfl rfl (Blk.new _ _ _) HI.out rfl (addr_one' _ _) ?_; intro w2 BZ Cn Z2; clear Z2; replace BX := (BX.alloc (.cells (addrC false zeros).toArray 29)).ch Cn (by simp; omega); replace BY := (BY.alloc (.cells (addrC false zeros).toArray 29)).ch Cn (by simp; omega); replace CC := (CC.alloc (.cells (addrC false zeros).toArray 29)).step Cn (fun i hi => .inr (by simp at hi; omega)); clear Cn)
    | (go_at_call 35; (with_reducible refine (v4R _ _ _ _ _).mono ?_); rintro e w1 ⟨rfl, Cn⟩; replace BX := BX.ch Cn (by simp); replace BY := BY.ch Cn (by simp); replace CC := CC.trans Cn; have lt1 := BX.lt; have lt2 := BY.lt; have sz1 := CC.size; clear Cn)
    | (go_at_call 26; (with_reducible refine (awake11 _).mono ?_); rintro e wn ⟨rfl, Cn⟩; replace BX := BX.ch Cn (by simp); replace BY := BY.ch Cn (by simp); replace BZ := BZ.ch Cn (by simp); replace CC := CC.trans Cn; clear Cn)
    | (go_at_call 29; (with_reducible refine (HX1.out _).mono ?_); rintro e wn ⟨rfl, Cn⟩; replace BX := BX.ch Cn (by simp); replace BY := BY.ch Cn (by simp); replace BZ := BZ.ch Cn (by simp); replace CC := CC.trans Cn; clear Cn)
    | (go_at_call 27; (with_reducible refine (HX2.out _).mono ?_); rintro e wn ⟨rfl, Cn⟩; replace BX := BX.ch Cn (by simp); replace BY := BY.ch Cn (by simp); replace BZ := BZ.ch Cn (by simp); replace CC := CC.trans Cn; clear Cn)
    | (go_at_call 29; (with_reducible refine (HY1.out _).mono ?_); rintro e wn ⟨rfl, Cn⟩; replace BX := BX.ch Cn (by simp); replace BY := BY.ch Cn (by simp); replace BZ := BZ.ch Cn (by simp); replace CC := CC.trans Cn; clear Cn)
    | (go_at_call 27; (with_reducible refine (HY2.out _).mono ?_); rintro e wn ⟨rfl, Cn⟩; replace BX := BX.ch Cn (by simp); replace BY := BY.ch Cn (by simp); replace BZ := BZ.ch Cn (by simp); replace CC := CC.trans Cn; clear Cn)
    | (go_at_call 29; (with_reducible refine (HZ.out _).mono ?_); rintro e wn ⟨rfl, Cn⟩; replace BX := BX.ch Cn (by simp); replace BY := BY.ch Cn (by simp); replace BZ := BZ.ch Cn (by simp); replace CC := CC.trans Cn; clear Cn; clear BX BY BZ HX1 HX2 HY1 HY2 HZ; rcases caseB a b D HD.out with ⟨rfl, rfl⟩ | ⟨rfl, rfl⟩ | ⟨rfl, rfl⟩ | ⟨rfl, k0, rfl⟩ | ⟨rfl, k0, k1, rfl⟩ | ⟨rfl, k0, k1, rfl⟩ | ⟨rfl, k0, rfl⟩ | ⟨rfl, k0, rfl⟩ | ⟨rfl, k0, rfl⟩ | ⟨rfl, k0, k1, rfl⟩ | ⟨rfl, k0, k1, rfl⟩ | ⟨rfl, k0, rfl⟩ | ⟨rfl, k0, rfl⟩ | ⟨k0, k1, k2, k3, rfl⟩ | ⟨k0, k1, k2, k3, k4, k5, k6, k7, rfl⟩))
  all_goals
    go_ret
    exact ⟨rfl, CC.nil_below⟩
end Go.Proofs.YtjabeabbaambcaaDoor
