/- ginnelref24.Scope. -/
import Derived.Test.YtjabeabbaambcaaDoorScopeP
import Derived.Test.YtjabeabbaambcaaDoorRefPfx
namespace Go.Proofs.YtjabeabbaambcaaDoor
open Go.RowKit

set_option maxRecDepth 20000 in
set_option maxHeartbeats 4000000 in
theorem scR0 (av : List Int) (hg : GoodA av) (six : Bool) (hv : validA six av = false) (w : World) : Calls Tryd.prog 53 #[.agg (addrC six av).toArray] w fun e w' => e = .returned (.int .i64 (-1)) ∧ Ch [] w w' := by
  obtain ⟨x0, x1⟩ := hg.at (show 0 < 16 by omega)
  obtain ⟨y0, y1⟩ := hg.at (show 1 < 16 by omega)
  have HI := hid (addr_inf (six := six) hg.1)
  have HIO := hid (addr_inf (six := true) (bs := [0, 0, 0, 0, 0, 0, 0, 0, 0, 0, 0, 0, 0, 0, 0, 1]) rfl)
  have K0 : Hid ((addrC six av)[0]? = some (.bool six)) := by show _ = _; rfl
  have K1 : Hid ((addrC six av)[1]? = some (.int .u8 (at_ av 0))) := addrC_byte (k := 0) (by rw [hg.1]; omega)
  have K2 : Hid ((addrC six av)[2]? = some (.int .u8 (at_ av 1))) := addrC_byte (k := 1) (by rw [hg.1]; omega)
  have HV := hid (refValid six av hg.1)
  rw [hv] at HV
  have BA : Blk (w.alloc (.cells (addrC six av).toArray 29)) w.heap.size 29 (addrC six av) := Blk.new w _ _
  have CC : Ch [] w (w.alloc (.cells (addrC six av).toArray 29)) := (Ch.refl _ _).alloc _
  generalize at_ av 0 = x at K1 x0 x1 ⊢
  generalize at_ av 1 = y at K2 y0 y1 ⊢
  generalize addrC six av = cs at HI K0 K1 K2 BA CC HV ⊢
  clear hg hv
  go_enter Tryd.func53, Tryd.ntmps53
  go_wp2_with (first
    | go_skip
    | (refine wpList_storeB rfl 29 _ _ rfl (w.heap.size + 1) 29 (addrC false zeros) (addrC true [0, 0, 0, 0, 0, 0, 0, 0, 0, 0, 0, 0, 0, 0, 0, 1]) rfl rfl (Blk.newAt _ _ _ (by simp)) HIO.out rfl (addr_one' _ _) ?_; intro w2 BO C2 Z2; clear Z2; replace BA := (BA.alloc _).ch C2 (by simp); replace CC := (CC.alloc _).step C2 (fun i hi => .inr (by simp at hi; omega)); clear C2)
    | (refine wpList_loadB rfl 29 _ rfl w.heap.size 29 cs _ rfl BA Tryd.underlying29 rfl HI.out ?_)
    | (refine wpList_loadB rfl 29 _ rfl (w.heap.size + 1) 29 (addrC true [0, 0, 0, 0, 0, 0, 0, 0, 0, 0, 0, 0, 0, 0, 0, 1]) _ rfl BO Tryd.underlying29 rfl HIO.out ?_)
    | (go_at_call 30; (with_reducible refine (HV.out _).mono ?_); rintro e wn ⟨rfl, Cn⟩; replace BA := BA.ch Cn (by simp); replace BO := BO.ch Cn (by simp); replace CC := CC.trans Cn; have c0 := (BA.cell 0).trans K0.out; have c1 := (BA.cell 1).trans K1.out; have c2 := (BA.cell 2).trans K2.out; clear Cn))
  go_ret
  exact ⟨rfl, CC⟩
set_option maxRecDepth 20000 in
set_option maxHeartbeats 4000000 in
theorem scR1 (av : List Int) (hg : GoodA av) (hv : validA false av = true) (xa : (at_ av 0 == 127) = true) (w : World) : Calls Tryd.prog 53 #[.agg (addrC false av).toArray] w fun e w' => e = .returned (.int .i64 (2)) ∧ Ch [] w w' := by
  obtain ⟨x0, x1⟩ := hg.at (show 0 < 16 by omega)
  obtain ⟨y0, y1⟩ := hg.at (show 1 < 16 by omega)
  have HI := hid (addr_inf (six := false) hg.1)
  have HIO := hid (addr_inf (six := true) (bs := [0, 0, 0, 0, 0, 0, 0, 0, 0, 0, 0, 0, 0, 0, 0, 1]) rfl)
  have K0 : Hid ((addrC false av)[0]? = some (.bool false)) := by show _ = _; rfl
  have K1 : Hid ((addrC false av)[1]? = some (.int .u8 (at_ av 0))) := addrC_byte (k := 0) (by rw [hg.1]; omega)
  have K2 : Hid ((addrC false av)[2]? = some (.int .u8 (at_ av 1))) := addrC_byte (k := 1) (by rw [hg.1]; omega)
  have HV := hid (refValid false av hg.1)
  rw [hv] at HV
  have BA : Blk (w.alloc (.cells (addrC false av).toArray 29)) w.heap.size 29 (addrC false av) := Blk.new w _ _
  have CC : Ch [] w (w.alloc (.cells (addrC false av).toArray 29)) := (Ch.refl _ _).alloc _
  generalize at_ av 0 = x at K1 x0 x1 xa ⊢
  generalize at_ av 1 = y at K2 y0 y1 ⊢
  generalize addrC false av = cs at HI K0 K1 K2 BA CC HV ⊢
  clear hg hv
  go_enter Tryd.func53, Tryd.ntmps53
  go_wp2_with (first
    | go_skip
    | (refine wpList_storeB rfl 29 _ _ rfl (w.heap.size + 1) 29 (addrC false zeros) (addrC true [0, 0, 0, 0, 0, 0, 0, 0, 0, 0, 0, 0, 0, 0, 0, 1]) rfl rfl (Blk.newAt _ _ _ (by simp)) HIO.out rfl (addr_one' _ _) ?_; intro w2 BO C2 Z2; clear Z2; replace BA := (BA.alloc _).ch C2 (by simp); replace CC := (CC.alloc _).step C2 (fun i hi => .inr (by simp at hi; omega)); clear C2)
    | (refine wpList_loadB rfl 29 _ rfl w.heap.size 29 cs _ rfl BA Tryd.underlying29 rfl HI.out ?_)
    | (refine wpList_loadB rfl 29 _ rfl (w.heap.size + 1) 29 (addrC true [0, 0, 0, 0, 0, 0, 0, 0, 0, 0, 0, 0, 0, 0, 0, 1]) _ rfl BO Tryd.underlying29 rfl HIO.out ?_)
    | (go_at_call 30; (with_reducible refine (HV.out _).mono ?_); rintro e wn ⟨rfl, Cn⟩; replace BA := BA.ch Cn (by simp); replace BO := BO.ch Cn (by simp); replace CC := CC.trans Cn; have c0 := (BA.cell 0).trans K0.out; have c1 := (BA.cell 1).trans K1.out; have c2 := (BA.cell 2).trans K2.out; clear Cn))
  go_ret
  exact ⟨rfl, CC⟩
set_option maxRecDepth 20000 in
set_option maxHeartbeats 4000000 in
theorem scR2 (av : List Int) (hg : GoodA av) (hv : validA false av = true) (xa : (at_ av 0 == 127) = false) (xb : (at_ av 0 == 169) = true) (ya : (at_ av 1 == 254) = true) (w : World) : Calls Tryd.prog 53 #[.agg (addrC false av).toArray] w fun e w' => e = .returned (.int .i64 (2)) ∧ Ch [] w w' := by
  obtain ⟨x0, x1⟩ := hg.at (show 0 < 16 by omega)
  obtain ⟨y0, y1⟩ := hg.at (show 1 < 16 by omega)
  have HI := hid (addr_inf (six := false) hg.1)
  have HIO := hid (addr_inf (six := true) (bs := [0, 0, 0, 0, 0, 0, 0, 0, 0, 0, 0, 0, 0, 0, 0, 1]) rfl)
  have K0 : Hid ((addrC false av)[0]? = some (.bool false)) := by show _ = _; rfl
  have K1 : Hid ((addrC false av)[1]? = some (.int .u8 (at_ av 0))) := addrC_byte (k := 0) (by rw [hg.1]; omega)
  have K2 : Hid ((addrC false av)[2]? = some (.int .u8 (at_ av 1))) := addrC_byte (k := 1) (by rw [hg.1]; omega)
  have HV := hid (refValid false av hg.1)
  rw [hv] at HV
  have BA : Blk (w.alloc (.cells (addrC false av).toArray 29)) w.heap.size 29 (addrC false av) := Blk.new w _ _
  have CC : Ch [] w (w.alloc (.cells (addrC false av).toArray 29)) := (Ch.refl _ _).alloc _
  generalize at_ av 0 = x at K1 x0 x1 xa xb ⊢
  generalize at_ av 1 = y at K2 y0 y1 ya ⊢
  generalize addrC false av = cs at HI K0 K1 K2 BA CC HV ⊢
  clear hg hv
  go_enter Tryd.func53, Tryd.ntmps53
  go_wp2_with (first
    | go_skip
    | (refine wpList_storeB rfl 29 _ _ rfl (w.heap.size + 1) 29 (addrC false zeros) (addrC true [0, 0, 0, 0, 0, 0, 0, 0, 0, 0, 0, 0, 0, 0, 0, 1]) rfl rfl (Blk.newAt _ _ _ (by simp)) HIO.out rfl (addr_one' _ _) ?_; intro w2 BO C2 Z2; clear Z2; replace BA := (BA.alloc _).ch C2 (by simp); replace CC := (CC.alloc _).step C2 (fun i hi => .inr (by simp at hi; omega)); clear C2)
    | (refine wpList_loadB rfl 29 _ rfl w.heap.size 29 cs _ rfl BA Tryd.underlying29 rfl HI.out ?_)
    | (refine wpList_loadB rfl 29 _ rfl (w.heap.size + 1) 29 (addrC true [0, 0, 0, 0, 0, 0, 0, 0, 0, 0, 0, 0, 0, 0, 0, 1]) _ rfl BO Tryd.underlying29 rfl HIO.out ?_)
    | (go_at_call 30; (with_reducible refine (HV.out _).mono ?_); rintro e wn ⟨rfl, Cn⟩; replace BA := BA.ch Cn (by simp); replace BO := BO.ch Cn (by simp); replace CC := CC.trans Cn; have c0 := (BA.cell 0).trans K0.out; have c1 := (BA.cell 1).trans K1.out; have c2 := (BA.cell 2).trans K2.out; clear Cn))
  go_ret
  exact ⟨rfl, CC⟩
set_option maxRecDepth 20000 in
set_option maxHeartbeats 4000000 in
theorem scR3a (av : List Int) (hg : GoodA av) (hv : validA false av = true) (xa : (at_ av 0 == 127) = false) (xb : (at_ av 0 == 169) = false) (w : World) : Calls Tryd.prog 53 #[.agg (addrC false av).toArray] w fun e w' => e = .returned (.int .i64 (14)) ∧ Ch [] w w' := by
  obtain ⟨x0, x1⟩ := hg.at (show 0 < 16 by omega)
  obtain ⟨y0, y1⟩ := hg.at (show 1 < 16 by omega)
  have HI := hid (addr_inf (six := false) hg.1)
  have HIO := hid (addr_inf (six := true) (bs := [0, 0, 0, 0, 0, 0, 0, 0, 0, 0, 0, 0, 0, 0, 0, 1]) rfl)
  have K0 : Hid ((addrC false av)[0]? = some (.bool false)) := by show _ = _; rfl
  have K1 : Hid ((addrC false av)[1]? = some (.int .u8 (at_ av 0))) := addrC_byte (k := 0) (by rw [hg.1]; omega)
  have K2 : Hid ((addrC false av)[2]? = some (.int .u8 (at_ av 1))) := addrC_byte (k := 1) (by rw [hg.1]; omega)
  have HV := hid (refValid false av hg.1)
  rw [hv] at HV
  have BA : Blk (w.alloc (.cells (addrC false av).toArray 29)) w.heap.size 29 (addrC false av) := Blk.new w _ _
  have CC : Ch [] w (w.alloc (.cells (addrC false av).toArray 29)) := (Ch.refl _ _).alloc _
  generalize at_ av 0 = x at K1 x0 x1 xa xb ⊢
  generalize at_ av 1 = y at K2 y0 y1 ⊢
  generalize addrC false av = cs at HI K0 K1 K2 BA CC HV ⊢
  clear hg hv
  go_enter Tryd.func53, Tryd.ntmps53
  go_wp2_with (first
    | go_skip
    | (refine wpList_storeB rfl 29 _ _ rfl (w.heap.size + 1) 29 (addrC false zeros) (addrC true [0, 0, 0, 0, 0, 0, 0, 0, 0, 0, 0, 0, 0, 0, 0, 1]) rfl rfl (Blk.newAt _ _ _ (by simp)) HIO.out rfl (addr_one' _ _) ?_; intro w2 BO C2 Z2; clear Z2; replace BA := (BA.alloc _).ch C2 (by simp); replace CC := (CC.alloc _).step C2 (fun i hi => .inr (by simp at hi; omega)); clear C2)
    | (refine wpList_loadB rfl 29 _ rfl w.heap.size 29 cs _ rfl BA Tryd.underlying29 rfl HI.out ?_)
    | (refine wpList_loadB rfl 29 _ rfl (w.heap.size + 1) 29 (addrC true [0, 0, 0, 0, 0, 0, 0, 0, 0, 0, 0, 0, 0, 0, 0, 1]) _ rfl BO Tryd.underlying29 rfl HIO.out ?_)
    | (go_at_call 30; (with_reducible refine (HV.out _).mono ?_); rintro e wn ⟨rfl, Cn⟩; replace BA := BA.ch Cn (by simp); replace BO := BO.ch Cn (by simp); replace CC := CC.trans Cn; have c0 := (BA.cell 0).trans K0.out; have c1 := (BA.cell 1).trans K1.out; have c2 := (BA.cell 2).trans K2.out; clear Cn))
  go_ret
  exact ⟨rfl, CC⟩
set_option maxRecDepth 20000 in
set_option maxHeartbeats 4000000 in
theorem scR3b (av : List Int) (hg : GoodA av) (hv : validA false av = true) (xa : (at_ av 0 == 127) = false) (xb : (at_ av 0 == 169) = true) (ya : (at_ av 1 == 254) = false) (w : World) : Calls Tryd.prog 53 #[.agg (addrC false av).toArray] w fun e w' => e = .returned (.int .i64 (14)) ∧ Ch [] w w' := by
  obtain ⟨x0, x1⟩ := hg.at (show 0 < 16 by omega)
  obtain ⟨y0, y1⟩ := hg.at (show 1 < 16 by omega)
  have HI := hid (addr_inf (six := false) hg.1)
  have HIO := hid (addr_inf (six := true) (bs := [0, 0, 0, 0, 0, 0, 0, 0, 0, 0, 0, 0, 0, 0, 0, 1]) rfl)
  have K0 : Hid ((addrC false av)[0]? = some (.bool false)) := by show _ = _; rfl
  have K1 : Hid ((addrC false av)[1]? = some (.int .u8 (at_ av 0))) := addrC_byte (k := 0) (by rw [hg.1]; omega)
  have K2 : Hid ((addrC false av)[2]? = some (.int .u8 (at_ av 1))) := addrC_byte (k := 1) (by rw [hg.1]; omega)
  have HV := hid (refValid false av hg.1)
  rw [hv] at HV
  have BA : Blk (w.alloc (.cells (addrC false av).toArray 29)) w.heap.size 29 (addrC false av) := Blk.new w _ _
  have CC : Ch [] w (w.alloc (.cells (addrC false av).toArray 29)) := (Ch.refl _ _).alloc _
  generalize at_ av 0 = x at K1 x0 x1 xa xb ⊢
  generalize at_ av 1 = y at K2 y0 y1 ya ⊢
  generalize addrC false av = cs at HI K0 K1 K2 BA CC HV ⊢
  clear hg hv
  go_enter Tryd.func53, Tryd.ntmps53
  go_wp2_with (first
    | go_skip
    | (refine wpList_storeB rfl 29 _ _ rfl (w.heap.size + 1) 29 (addrC false zeros) (addrC true [0, 0, 0, 0, 0, 0, 0, 0, 0, 0, 0, 0, 0, 0, 0, 1]) rfl rfl (Blk.newAt _ _ _ (by simp)) HIO.out rfl (addr_one' _ _) ?_; intro w2 BO C2 Z2; clear Z2; replace BA := (BA.alloc _).ch C2 (by simp); replace CC := (CC.alloc _).step C2 (fun i hi => .inr (by simp at hi; omega)); clear C2)
    | (refine wpList_loadB rfl 29 _ rfl w.heap.size 29 cs _ rfl BA Tryd.underlying29 rfl HI.out ?_)
    | (refine wpList_loadB rfl 29 _ rfl (w.heap.size + 1) 29 (addrC true [0, 0, 0, 0, 0, 0, 0, 0, 0, 0, 0, 0, 0, 0, 0, 1]) _ rfl BO Tryd.underlying29 rfl HIO.out ?_)
    | (go_at_call 30; (with_reducible refine (HV.out _).mono ?_); rintro e wn ⟨rfl, Cn⟩; replace BA := BA.ch Cn (by simp); replace BO := BO.ch Cn (by simp); replace CC := CC.trans Cn; have c0 := (BA.cell 0).trans K0.out; have c1 := (BA.cell 1).trans K1.out; have c2 := (BA.cell 2).trans K2.out; clear Cn))
  go_ret
  exact ⟨rfl, CC⟩
set_option maxRecDepth 20000 in
set_option maxHeartbeats 4000000 in
theorem scR4 (av : List Int) (hg : GoodA av) (hv : validA true av = true) (xa : (at_ av 0 == 255) = true) (w : World) : Calls Tryd.prog 53 #[.agg (addrC true av).toArray] w fun e w' => e = .returned (.int .i64 (at_ av 1 % 16)) ∧ Ch [] w w' := by
  obtain ⟨x0, x1⟩ := hg.at (show 0 < 16 by omega)
  obtain ⟨y0, y1⟩ := hg.at (show 1 < 16 by omega)
  have HI := hid (addr_inf (six := true) hg.1)
  have HIO := hid (addr_inf (six := true) (bs := [0, 0, 0, 0, 0, 0, 0, 0, 0, 0, 0, 0, 0, 0, 0, 1]) rfl)
  have K0 : Hid ((addrC true av)[0]? = some (.bool true)) := by show _ = _; rfl
  have K1 : Hid ((addrC true av)[1]? = some (.int .u8 (at_ av 0))) := addrC_byte (k := 0) (by rw [hg.1]; omega)
  have K2 : Hid ((addrC true av)[2]? = some (.int .u8 (at_ av 1))) := addrC_byte (k := 1) (by rw [hg.1]; omega)
  have HV := hid (refValid true av hg.1)
  rw [hv] at HV
  have BA : Blk (w.alloc (.cells (addrC true av).toArray 29)) w.heap.size 29 (addrC true av) := Blk.new w _ _
  have CC : Ch [] w (w.alloc (.cells (addrC true av).toArray 29)) := (Ch.refl _ _).alloc _
  generalize at_ av 0 = x at K1 x0 x1 xa ⊢
  generalize at_ av 1 = y at K2 y0 y1 ⊢
  generalize addrC true av = cs at HI K0 K1 K2 BA CC HV ⊢
  clear hg hv
  go_enter Tryd.func53, Tryd.ntmps53
  go_wp2_with (first
    | go_skip
    | (refine wpList_storeB rfl 29 _ _ rfl (w.heap.size + 1) 29 (addrC false zeros) (addrC true [0, 0, 0, 0, 0, 0, 0, 0, 0, 0, 0, 0, 0, 0, 0, 1]) rfl rfl (Blk.newAt _ _ _ (by simp)) HIO.out rfl (addr_one' _ _) ?_; intro w2 BO C2 Z2; clear Z2; replace BA := (BA.alloc _).ch C2 (by simp); replace CC := (CC.alloc _).step C2 (fun i hi => .inr (by simp at hi; omega)); clear C2)
    | (refine wpList_loadB rfl 29 _ rfl w.heap.size 29 cs _ rfl BA Tryd.underlying29 rfl HI.out ?_)
    | (refine wpList_loadB rfl 29 _ rfl (w.heap.size + 1) 29 (addrC true [0, 0, 0, 0, 0, 0, 0, 0, 0, 0, 0, 0, 0, 0, 0, 1]) _ rfl BO Tryd.underlying29 rfl HIO.out ?_)
    | (go_at_call 30; (with_reducible refine (HV.out _).mono ?_); rintro e wn ⟨rfl, Cn⟩; replace BA := BA.ch Cn (by simp); replace BO := BO.ch Cn (by simp); replace CC := CC.trans Cn; have c0 := (BA.cell 0).trans K0.out; have c1 := (BA.cell 1).trans K1.out; have c2 := (BA.cell 2).trans K2.out; clear Cn))
  go_ret
  exact ⟨rfl, CC⟩
set_option maxRecDepth 20000 in
set_option maxHeartbeats 4000000 in
theorem scR5 (av : List Int) (hg : GoodA av) (hv : validA true av = true) (xa : (at_ av 0 == 255) = false) (he : decide (av = [0, 0, 0, 0, 0, 0, 0, 0, 0, 0, 0, 0, 0, 0, 0, 1]) = true) (w : World) : Calls Tryd.prog 53 #[.agg (addrC true av).toArray] w fun e w' => e = .returned (.int .i64 (2)) ∧ Ch [] w w' := by
  obtain ⟨x0, x1⟩ := hg.at (show 0 < 16 by omega)
  obtain ⟨y0, y1⟩ := hg.at (show 1 < 16 by omega)
  have HI := hid (addr_inf (six := true) hg.1)
  have HIO := hid (addr_inf (six := true) (bs := [0, 0, 0, 0, 0, 0, 0, 0, 0, 0, 0, 0, 0, 0, 0, 1]) rfl)
  have K0 : Hid ((addrC true av)[0]? = some (.bool true)) := by show _ = _; rfl
  have K1 : Hid ((addrC true av)[1]? = some (.int .u8 (at_ av 0))) := addrC_byte (k := 0) (by rw [hg.1]; omega)
  have K2 : Hid ((addrC true av)[2]? = some (.int .u8 (at_ av 1))) := addrC_byte (k := 1) (by rw [hg.1]; omega)
  have HV := hid (refValid true av hg.1)
  rw [hv] at HV
  have BA : Blk (w.alloc (.cells (addrC true av).toArray 29)) w.heap.size 29 (addrC true av) := Blk.new w _ _
  have CC : Ch [] w (w.alloc (.cells (addrC true av).toArray 29)) := (Ch.refl _ _).alloc _
  have hq : ∀ w, (Op.equalIn 10000 29 (.agg (addrC true av).toArray) (.agg (addrC true [0, 0, 0, 0, 0, 0, 0, 0, 0, 0, 0, 0, 0, 0, 0, 1]).toArray)).run Tryd.prog w = .ok (decide (av = [0, 0, 0, 0, 0, 0, 0, 0, 0, 0, 0, 0, 0, 0, 0, 1])) w := fun w => by
    rw [addr_eq true true av [0, 0, 0, 0, 0, 0, 0, 0, 0, 0, 0, 0, 0, 0, 0, 1] hg.1 rfl w]; rfl
  rw [he] at hq
  clear he
  generalize at_ av 0 = x at K1 x0 x1 xa ⊢
  generalize at_ av 1 = y at K2 y0 y1 ⊢
  generalize addrC true av = cs at HI K0 K1 K2 BA CC HV hq ⊢
  clear hg hv
  go_enter Tryd.func53, Tryd.ntmps53
  go_wp2_with (first
    | go_skip
    | (refine wpList_storeB rfl 29 _ _ rfl (w.heap.size + 1) 29 (addrC false zeros) (addrC true [0, 0, 0, 0, 0, 0, 0, 0, 0, 0, 0, 0, 0, 0, 0, 1]) rfl rfl (Blk.newAt _ _ _ (by simp)) HIO.out rfl (addr_one' _ _) ?_; intro w2 BO C2 Z2; clear Z2; replace BA := (BA.alloc _).ch C2 (by simp); replace CC := (CC.alloc _).step C2 (fun i hi => .inr (by simp at hi; omega)); clear C2)
    | (refine wpList_loadB rfl 29 _ rfl w.heap.size 29 cs _ rfl BA Tryd.underlying29 rfl HI.out ?_)
    | (refine wpList_loadB rfl 29 _ rfl (w.heap.size + 1) 29 (addrC true [0, 0, 0, 0, 0, 0, 0, 0, 0, 0, 0, 0, 0, 0, 0, 1]) _ rfl BO Tryd.underlying29 rfl HIO.out ?_)
    | (go_at_call 30; (with_reducible refine (HV.out _).mono ?_); rintro e wn ⟨rfl, Cn⟩; replace BA := BA.ch Cn (by simp); replace BO := BO.ch Cn (by simp); replace CC := CC.trans Cn; have c0 := (BA.cell 0).trans K0.out; have c1 := (BA.cell 1).trans K1.out; have c2 := (BA.cell 2).trans K2.out; clear Cn))
  go_ret
  exact ⟨rfl, CC⟩
set_option maxRecDepth 20000 in
set_option maxHeartbeats 4000000 in
theorem scR6 (av : List Int) (hg : GoodA av) (hv : validA true av = true) (xa : (at_ av 0 == 255) = false) (he : decide (av = [0, 0, 0, 0, 0, 0, 0, 0, 0, 0, 0, 0, 0, 0, 0, 1]) = false) (xb : (at_ av 0 == 254) = true) (ca : (cutB (at_ av 1) 2 == 128) = true) (w : World) : Calls Tryd.prog 53 #[.agg (addrC true av).toArray] w fun e w' => e = .returned (.int .i64 (2)) ∧ Ch [] w w' := by
  obtain ⟨x0, x1⟩ := hg.at (show 0 < 16 by omega)
  obtain ⟨y0, y1⟩ := hg.at (show 1 < 16 by omega)
  have HI := hid (addr_inf (six := true) hg.1)
  have HIO := hid (addr_inf (six := true) (bs := [0, 0, 0, 0, 0, 0, 0, 0, 0, 0, 0, 0, 0, 0, 0, 1]) rfl)
  have K0 : Hid ((addrC true av)[0]? = some (.bool true)) := by show _ = _; rfl
  have K1 : Hid ((addrC true av)[1]? = some (.int .u8 (at_ av 0))) := addrC_byte (k := 0) (by rw [hg.1]; omega)
  have K2 : Hid ((addrC true av)[2]? = some (.int .u8 (at_ av 1))) := addrC_byte (k := 1) (by rw [hg.1]; omega)
  have HV := hid (refValid true av hg.1)
  rw [hv] at HV
  have BA : Blk (w.alloc (.cells (addrC true av).toArray 29)) w.heap.size 29 (addrC true av) := Blk.new w _ _
  have CC : Ch [] w (w.alloc (.cells (addrC true av).toArray 29)) := (Ch.refl _ _).alloc _
  have hq : ∀ w, (Op.equalIn 10000 29 (.agg (addrC true av).toArray) (.agg (addrC true [0, 0, 0, 0, 0, 0, 0, 0, 0, 0, 0, 0, 0, 0, 0, 1]).toArray)).run Tryd.prog w = .ok (decide (av = [0, 0, 0, 0, 0, 0, 0, 0, 0, 0, 0, 0, 0, 0, 0, 1])) w := fun w => by
    rw [addr_eq true true av [0, 0, 0, 0, 0, 0, 0, 0, 0, 0, 0, 0, 0, 0, 0, 1] hg.1 rfl w]; rfl
  rw [he] at hq
  clear he
  have hand : bits .and .u8 (at_ av 1) 192 = cutB (at_ av 1) 2 := and_mask (at_ av 1) ⟨y0, y1⟩ 2 (by omega)
  generalize cutB (at_ av 1) 2 = c at hand ca
  generalize at_ av 0 = x at K1 x0 x1 xa xb ⊢
  generalize at_ av 1 = y at K2 y0 y1 hand ⊢
  generalize addrC true av = cs at HI K0 K1 K2 BA CC HV hq ⊢
  clear hg hv
  go_enter Tryd.func53, Tryd.ntmps53
  go_wp2_with (first
    | go_skip
    | (refine wpList_storeB rfl 29 _ _ rfl (w.heap.size + 1) 29 (addrC false zeros) (addrC true [0, 0, 0, 0, 0, 0, 0, 0, 0, 0, 0, 0, 0, 0, 0, 1]) rfl rfl (Blk.newAt _ _ _ (by simp)) HIO.out rfl (addr_one' _ _) ?_; intro w2 BO C2 Z2; clear Z2; replace BA := (BA.alloc _).ch C2 (by simp); replace CC := (CC.alloc _).step C2 (fun i hi => .inr (by simp at hi; omega)); clear C2)
    | (refine wpList_loadB rfl 29 _ rfl w.heap.size 29 cs _ rfl BA Tryd.underlying29 rfl HI.out ?_)
    | (refine wpList_loadB rfl 29 _ rfl (w.heap.size + 1) 29 (addrC true [0, 0, 0, 0, 0, 0, 0, 0, 0, 0, 0, 0, 0, 0, 0, 1]) _ rfl BO Tryd.underlying29 rfl HIO.out ?_)
    | (go_at_call 30; (with_reducible refine (HV.out _).mono ?_); rintro e wn ⟨rfl, Cn⟩; replace BA := BA.ch Cn (by simp); replace BO := BO.ch Cn (by simp); replace CC := CC.trans Cn; have c0 := (BA.cell 0).trans K0.out; have c1 := (BA.cell 1).trans K1.out; have c2 := (BA.cell 2).trans K2.out; clear Cn))
  go_ret
  exact ⟨rfl, CC⟩
set_option maxRecDepth 20000 in
set_option maxHeartbeats 4000000 in
theorem scR7 (av : List Int) (hg : GoodA av) (hv : validA true av = true) (xa : (at_ av 0 == 255) = false) (he : decide (av = [0, 0, 0, 0, 0, 0, 0, 0, 0, 0, 0, 0, 0, 0, 0, 1]) = false) (xb : (at_ av 0 == 254) = true) (ca : (cutB (at_ av 1) 2 == 128) = false) (cb : (cutB (at_ av 1) 2 == 192) = true) (w : World) : Calls Tryd.prog 53 #[.agg (addrC true av).toArray] w fun e w' => e = .returned (.int .i64 (5)) ∧ Ch [] w w' := by
  obtain ⟨x0, x1⟩ := hg.at (show 0 < 16 by omega)
  obtain ⟨y0, y1⟩ := hg.at (show 1 < 16 by omega)
  have HI := hid (addr_inf (six := true) hg.1)
  have HIO := hid (addr_inf (six := true) (bs := [0, 0, 0, 0, 0, 0, 0, 0, 0, 0, 0, 0, 0, 0, 0, 1]) rfl)
  have K0 : Hid ((addrC true av)[0]? = some (.bool true)) := by show _ = _; rfl
  have K1 : Hid ((addrC true av)[1]? = some (.int .u8 (at_ av 0))) := addrC_byte (k := 0) (by rw [hg.1]; omega)
  have K2 : Hid ((addrC true av)[2]? = some (.int .u8 (at_ av 1))) := addrC_byte (k := 1) (by rw [hg.1]; omega)
  have HV := hid (refValid true av hg.1)
  rw [hv] at HV
  have BA : Blk (w.alloc (.cells (addrC true av).toArray 29)) w.heap.size 29 (addrC true av) := Blk.new w _ _
  have CC : Ch [] w (w.alloc (.cells (addrC true av).toArray 29)) := (Ch.refl _ _).alloc _
  have hq : ∀ w, (Op.equalIn 10000 29 (.agg (addrC true av).toArray) (.agg (addrC true [0, 0, 0, 0, 0, 0, 0, 0, 0, 0, 0, 0, 0, 0, 0, 1]).toArray)).run Tryd.prog w = .ok (decide (av = [0, 0, 0, 0, 0, 0, 0, 0, 0, 0, 0, 0, 0, 0, 0, 1])) w := fun w => by
    rw [addr_eq true true av [0, 0, 0, 0, 0, 0, 0, 0, 0, 0, 0, 0, 0, 0, 0, 1] hg.1 rfl w]; rfl
  rw [he] at hq
  clear he
  have hand : bits .and .u8 (at_ av 1) 192 = cutB (at_ av 1) 2 := and_mask (at_ av 1) ⟨y0, y1⟩ 2 (by omega)
  generalize cutB (at_ av 1) 2 = c at hand ca cb
  generalize at_ av 0 = x at K1 x0 x1 xa xb ⊢
  generalize at_ av 1 = y at K2 y0 y1 hand ⊢
  generalize addrC true av = cs at HI K0 K1 K2 BA CC HV hq ⊢
  clear hg hv
  go_enter Tryd.func53, Tryd.ntmps53
  go_wp2_with (first
    | go_skip
    | (refine wpList_storeB rfl 29 _ _ rfl (w.heap.size + 1) 29 (addrC false zeros) (addrC true [0, 0, 0, 0, 0, 0, 0, 0, 0, 0, 0, 0, 0, 0, 0, 1]) rfl rfl (Blk.newAt _ _ _ (by simp)) HIO.out rfl (addr_one' _ _) ?_; intro w2 BO C2 Z2; clear Z2; replace BA := (BA.alloc _).ch C2 (by simp); replace CC := (CC.alloc _).step C2 (fun i hi => .inr (by simp at hi; omega)); clear C2)
    | (refine wpList_loadB rfl 29 _ rfl w.heap.size 29 cs _ rfl BA Tryd.underlying29 rfl HI.out ?_)
    | (refine wpList_loadB rfl 29 _ rfl (w.heap.size + 1) 29 (addrC true [0, 0, 0, 0, 0, 0, 0, 0, 0, 0, 0, 0, 0, 0, 0, 1]) _ rfl BO Tryd.underlying29 rfl HIO.out ?_)
    | (go_at_call 30; (with_reducible refine (HV.out _).mono ?_); rintro e wn ⟨rfl, Cn⟩; replace BA := BA.ch Cn (by simp); replace BO := BO.ch Cn (by simp); replace CC := CC.trans Cn; have c0 := (BA.cell 0).trans K0.out; have c1 := (BA.cell 1).trans K1.out; have c2 := (BA.cell 2).trans K2.out; clear Cn))
  go_ret
  exact ⟨rfl, CC⟩
set_option maxRecDepth 20000 in
set_option maxHeartbeats 4000000 in
theorem scR8a (av : List Int) (hg : GoodA av) (hv : validA true av = true) (xa : (at_ av 0 == 255) = false) (he : decide (av = [0, 0, 0, 0, 0, 0, 0, 0, 0, 0, 0, 0, 0, 0, 0, 1]) = false) (xb : (at_ av 0 == 254) = false) (w : World) : Calls Tryd.prog 53 #[.agg (addrC true av).toArray] w fun e w' => e = .returned (.int .i64 (14)) ∧ Ch [] w w' := by
  obtain ⟨x0, x1⟩ := hg.at (show 0 < 16 by omega)
  obtain ⟨y0, y1⟩ := hg.at (show 1 < 16 by omega)
  have HI := hid (addr_inf (six := true) hg.1)
  have HIO := hid (addr_inf (six := true) (bs := [0, 0, 0, 0, 0, 0, 0, 0, 0, 0, 0, 0, 0, 0, 0, 1]) rfl)
  have K0 : Hid ((addrC true av)[0]? = some (.bool true)) := by show _ = _; rfl
  have K1 : Hid ((addrC true av)[1]? = some (.int .u8 (at_ av 0))) := addrC_byte (k := 0) (by rw [hg.1]; omega)
  have K2 : Hid ((addrC true av)[2]? = some (.int .u8 (at_ av 1))) := addrC_byte (k := 1) (by rw [hg.1]; omega)
  have HV := hid (refValid true av hg.1)
  rw [hv] at HV
  have BA : Blk (w.alloc (.cells (addrC true av).toArray 29)) w.heap.size 29 (addrC true av) := Blk.new w _ _
  have CC : Ch [] w (w.alloc (.cells (addrC true av).toArray 29)) := (Ch.refl _ _).alloc _
  have hq : ∀ w, (Op.equalIn 10000 29 (.agg (addrC true av).toArray) (.agg (addrC true [0, 0, 0, 0, 0, 0, 0, 0, 0, 0, 0, 0, 0, 0, 0, 1]).toArray)).run Tryd.prog w = .ok (decide (av = [0, 0, 0, 0, 0, 0, 0, 0, 0, 0, 0, 0, 0, 0, 0, 1])) w := fun w => by
    rw [addr_eq true true av [0, 0, 0, 0, 0, 0, 0, 0, 0, 0, 0, 0, 0, 0, 0, 1] hg.1 rfl w]; rfl
  rw [he] at hq
  clear he
  generalize at_ av 0 = x at K1 x0 x1 xa xb ⊢
  generalize at_ av 1 = y at K2 y0 y1 ⊢
  generalize addrC true av = cs at HI K0 K1 K2 BA CC HV hq ⊢
  clear hg hv
  go_enter Tryd.func53, Tryd.ntmps53
  go_wp2_with (first
    | go_skip
    | (refine wpList_storeB rfl 29 _ _ rfl (w.heap.size + 1) 29 (addrC false zeros) (addrC true [0, 0, 0, 0, 0, 0, 0, 0, 0, 0, 0, 0, 0, 0, 0, 1]) rfl rfl (Blk.newAt _ _ _ (by simp)) HIO.out rfl (addr_one' _ _) ?_; intro w2 BO C2 Z2; clear Z2; replace BA := (BA.alloc _).ch C2 (by simp); replace CC := (CC.alloc _).step C2 (fun i hi => .inr (by simp at hi; omega)); clear C2)
    | (refine wpList_loadB rfl 29 _ rfl w.heap.size 29 cs _ rfl BA Tryd.underlying29 rfl HI.out ?_)
    | (refine wpList_loadB rfl 29 _ rfl (w.heap.size + 1) 29 (addrC true [0, 0, 0, 0, 0, 0, 0, 0, 0, 0, 0, 0, 0, 0, 0, 1]) _ rfl BO Tryd.underlying29 rfl HIO.out ?_)
    | (go_at_call 30; (with_reducible refine (HV.out _).mono ?_); rintro e wn ⟨rfl, Cn⟩; replace BA := BA.ch Cn (by simp); replace BO := BO.ch Cn (by simp); replace CC := CC.trans Cn; have c0 := (BA.cell 0).trans K0.out; have c1 := (BA.cell 1).trans K1.out; have c2 := (BA.cell 2).trans K2.out; clear Cn))
  go_ret
  exact ⟨rfl, CC⟩
set_option maxRecDepth 20000 in
set_option maxHeartbeats 4000000 in
theorem scR8b (av : List Int) (hg : GoodA av) (hv : validA true av = true) (xa : (at_ av 0 == 255) = false) (he : decide (av = [0, 0, 0, 0, 0, 0, 0, 0, 0, 0, 0, 0, 0, 0, 0, 1]) = false) (xb : (at_ av 0 == 254) = true) (ca : (cutB (at_ av 1) 2 == 128) = false) (cb : (cutB (at_ av 1) 2 == 192) = false) (w : World) : Calls Tryd.prog 53 #[.agg (addrC true av).toArray] w fun e w' => e = .returned (.int .i64 (14)) ∧ Ch [] w w' := by
  obtain ⟨x0, x1⟩ := hg.at (show 0 < 16 by omega)
  obtain ⟨y0, y1⟩ := hg.at (show 1 < 16 by omega)
  have HI := hid (addr_inf (six := true) hg.1)
  have HIO := hid (addr_inf (six := true) (bs := [0, 0, 0, 0, 0, 0, 0, 0, 0, 0, 0, 0, 0, 0, 0, 1]) rfl)
  have K0 : Hid ((addrC true av)[0]? = some (.bool true)) := by show _ = _; rfl
  have K1 : Hid ((addrC true av)[1]? = some (.int .u8 (at_ av 0))) := addrC_byte (k := 0) (by rw [hg.1]; omega)
  have K2 : Hid ((addrC true av)[2]? = some (.int .u8 (at_ av 1))) := addrC_byte (k := 1) (by rw [hg.1]; omega)
  have HV := hid (refValid true av hg.1)
  rw [hv] at HV
  have BA : Blk (w.alloc (.cells (addrC true av).toArray 29)) w.heap.size 29 (addrC true av) := Blk.new w _ _
  have CC : Ch [] w (w.alloc (.cells (addrC true av).toArray 29)) := (Ch.refl _ _).alloc _
  have hq : ∀ w, (Op.equalIn 10000 29 (.agg (addrC true av).toArray) (.agg (addrC true [0, 0, 0, 0, 0, 0, 0, 0, 0, 0, 0, 0, 0, 0, 0, 1]).toArray)).run Tryd.prog w = .ok (decide (av = [0, 0, 0, 0, 0, 0, 0, 0, 0, 0, 0, 0, 0, 0, 0, 1])) w := fun w => by
    rw [addr_eq true true av [0, 0, 0, 0, 0, 0, 0, 0, 0, 0, 0, 0, 0, 0, 0, 1] hg.1 rfl w]; rfl
  rw [he] at hq
  clear he
  have hand : bits .and .u8 (at_ av 1) 192 = cutB (at_ av 1) 2 := and_mask (at_ av 1) ⟨y0, y1⟩ 2 (by omega)
  generalize cutB (at_ av 1) 2 = c at hand ca cb
  generalize at_ av 0 = x at K1 x0 x1 xa xb ⊢
  generalize at_ av 1 = y at K2 y0 y1 hand ⊢
  generalize addrC true av = cs at HI K0 K1 K2 BA CC HV hq ⊢
  clear hg hv
  go_enter Tryd.func53, Tryd.ntmps53
  go_wp2_with (first
    | go_skip
    | (refine wpList_storeB rfl 29 _ _ rfl (w.heap.size + 1) 29 (addrC false zeros) (addrC true [0, 0, 0, 0, 0, 0, 0, 0, 0, 0, 0, 0, 0, 0, 0, 1]) rfl rfl (Blk.newAt _ _ _ (by simp)) HIO.out rfl (addr_one' _ _) ?_; intro w2 BO C2 Z2; clear Z2; replace BA := (BA.alloc _).ch C2 (by simp); replace CC := (CC.alloc _).step C2 (fun i hi => .inr (by simp at hi; omega)); clear C2)
    | (refine wpList_loadB rfl 29 _ rfl w.heap.size 29 cs _ rfl BA Tryd.underlying29 rfl HI.out ?_)
    | (refine wpList_loadB rfl 29 _ rfl (w.heap.size + 1) 29 (addrC true [0, 0, 0, 0, 0, 0, 0, 0, 0, 0, 0, 0, 0, 0, 0, 1]) _ rfl BO Tryd.underlying29 rfl HIO.out ?_)
    | (go_at_call 30; (with_reducible refine (HV.out _).mono ?_); rintro e wn ⟨rfl, Cn⟩; replace BA := BA.ch Cn (by simp); replace BO := BO.ch Cn (by simp); replace CC := CC.trans Cn; have c0 := (BA.cell 0).trans K0.out; have c1 := (BA.cell 1).trans K1.out; have c2 := (BA.cell 2).trans K2.out; clear Cn))
  go_ret
  exact ⟨rfl, CC⟩
theorem scopeR (six : Bool) (av : List Int) (hg : GoodA av) (w : World) : Calls Tryd.prog 53 #[.agg (addrC six av).toArray] w fun e w' => e = .returned (.int .i64 (scopeP six av)) ∧ Ch [] w w' := by
  cases hv : validA six av with
  | false =>
    rw [show scopeP six av = -1 by unfold scopeP; rw [hv]; rfl]
    exact scR0 av hg six hv w
  | true =>
    cases six with
    | false =>
      rw [scope_four hv]
      by_cases h1 : at_ av 0 = 127
      · rw [if_pos h1]; exact scR1 av hg hv (by simpa using h1) w
      · rw [if_neg h1]
        by_cases h2 : at_ av 0 = 169
        · by_cases h3 : at_ av 1 = 254
          · rw [if_pos ⟨h2, h3⟩]; exact scR2 av hg hv (by simpa using h1) (by simpa using h2) (by simpa using h3) w
          · rw [if_neg (fun h => h3 h.2)]; exact scR3b av hg hv (by simpa using h1) (by simpa using h2) (by simpa using h3) w
        · rw [if_neg (fun h => h2 h.1)]; exact scR3a av hg hv (by simpa using h1) (by simpa using h2) w
    | true =>
      rw [scope_six]
      by_cases hx : at_ av 0 = 255
      · rw [if_pos hx, and15_mod _ (hg.at (by omega))]; exact scR4 av hg hv (by simpa using hx) w
      · rw [if_neg hx]
        by_cases he : av = [0, 0, 0, 0, 0, 0, 0, 0, 0, 0, 0, 0, 0, 0, 0, 1]
        · rw [if_pos he]; exact scR5 av hg hv (by simpa using hx) (by simpa using he) w
        · rw [if_neg he]
          by_cases h4 : at_ av 0 = 254
          · by_cases h5 : cutB (at_ av 1) 2 = 128
            · rw [if_pos ⟨h4, h5⟩]; exact scR6 av hg hv (by simpa using hx) (by simpa using he) (by simpa using h4) (by simpa using h5) w
            · rw [if_neg (fun h => h5 h.2)]
              by_cases h6 : cutB (at_ av 1) 2 = 192
              · rw [if_pos ⟨h4, h6⟩]; exact scR7 av hg hv (by simpa using hx) (by simpa using he) (by simpa using h4) (by simpa using h5) (by simpa using h6) w
              · rw [if_neg (fun h => h6 h.2)]; exact scR8b av hg hv (by simpa using hx) (by simpa using he) (by simpa using h4) (by simpa using h5) (by simpa using h6) w
          · rw [if_neg (fun h => h4 h.1), if_neg (fun h => h4 h.1)]; exact scR8a av hg hv (by simpa using hx) (by simpa using he) (by simpa using h4) w
end Go.Proofs.YtjabeabbaambcaaDoor
