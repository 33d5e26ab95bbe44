/- PolicytableRowBoundaries. -/
import Derived.Test.YtjabeabbaambcaaDoorLawPol0
import Derived.Test.YtjabeabbaambcaaDoorShellD
import Derived.Test.YtjabeabbaambcaaDoorArgsA
import Derived.Test.YtjabeabbaambcaaDoorRows
import Derived.Deep.DeepCutAuto
namespace Go.Proofs.YtjabeabbaambcaaDoor
open Go.ChangeShapes Go.WideShapes Go.ChangeAt Go.RowKit

theorem bits_u8' (op : BinOp) (x y : Int) : 0 ≤ bits op .u8 x y ∧ bits op .u8 x y ≤ 255 := by
  unfold bits
  rw [IntKind.wrap_u8]
  omega
def XB (w : World) (g : Nat) : Prop := ∃ bz, GoodA bz ∧ Blk w g 29 (addrC true bz)
theorem XB.set {w : World} {g : Nat} {bz : List Int} (hg : GoodA bz) (h : Blk w g 29 (addrC true bz)) (q : Nat) {y : Int} (hy : 0 ≤ y ∧ y ≤ 255) : XB (w.setCell ⟨g, 1 + q, none⟩ (.int .u8 y)) g :=
  ⟨bz.set q y, ⟨by rw [List.length_set]; exact hg.1, fun x hx => by rcases List.mem_or_eq_of_mem_set hx with hx | rfl; exact hg.2 x hx; exact hy⟩, by rw [← addr_set]; exact h.set _ _⟩
theorem arr16_size : (Tryd.prog.info? 27).map (·.size) = some 16 := by kernel_rfl
set_option maxRecDepth 100000 in
set_option maxHeartbeats 8000000 in
theorem policytableRowBoundaries_came {H : Type} {enc : TypeId × Value → H} (W : World) (args : Array Value) (ds : List (DataW H)) (_ : laidMetH Tryd.prog Rows.policytableRowBoundariesRow.laid W) (h : Came enc Tryd.prog Tryd.f10 W args ds) :
    Calls Tryd.prog 10 args W fun e W' => e = .returned (.bool true) ∧ Below W.heap.size W W' := by
  obtain ⟨v0, v1, v2, d0, d1, d2, rfl, a0, a1, a2⟩ := h.args3 rfl
  obtain ⟨n, rfl, _, _⟩ := a0.i64 Tryd.underlying3
  obtain ⟨six, av, rfl, hga⟩ := a1.addr
  obtain ⟨bt, rfl, _, _⟩ := a2.i64 Tryd.underlying3
  clear h a0 a1 a2
  obtain ⟨b0, b1, b2, b3, b4, b5, b6, b7, b8, b9, b10, b11, b12, b13, b14, b15, rfl⟩ := len16 hga.1
  have r1 := modI_rng n 9 (by omega)
  have M1 := hid (fun w => genMod n 9 w (by omega) (by omega))
  obtain ⟨i, hi⟩ : ∃ i : Nat, modI n 9 = i := ⟨(modI n 9).toNat, by omega⟩
  rw [hi] at M1 r1
  have r2 := modI_rng bt 128 (by omega)
  have M2 := hid (fun w => genMod bt 128 w (by omega) (by omega))
  obtain ⟨k, hk⟩ : ∃ k : Nat, modI bt 128 = k := ⟨(modI bt 128).toNat, by omega⟩
  rw [hk] at M2 r2
  have hi9 : i < 9 := by omega
  have z0 : (0 : Int) ≤ i := by omega
  have z1 : (i : Int) < 9 := by omega
  have k0 : (0 : Int) ≤ k := by omega
  have k1 : (k : Int) < 128 := by omega
  clear hi hk
  obtain ⟨r, hr⟩ : ∃ r, polT[i]? = some r := ⟨_, List.getElem?_eq_getElem hi9⟩
  have hgr := pol_good r (List.mem_of_getElem? hr)
  obtain ⟨⟨s6, ps, m⟩, pr, lb⟩ := r
  obtain ⟨h6, hgp⟩ := hgr
  obtain rfl : s6 = true := h6
  have hgp : GoodA ps := hgp
  have HR := hid hr
  have HIP := hid (pfx_inf (p := (true, ps, m)) hgp.1)
  have HIS := hid (addr_inf (six := true) hgp.1)
  have HLP : Hid ((pfxC (true, ps, m)).length = 18) := pfx_len (p := (true, ps, m)) hgp.1
  have HIX := hid (addr_inf (six := true) (bs := zeros) rfl)
  have HPA : Hid (∀ j v, (addrC true ps)[j]? = some v → (pfxC (true, ps, m))[0 + j]? = some v) := fun j v hj => pfx_addr (p := (true, ps, m)) hj
  have HP17 : Hid ((pfxC (true, ps, m))[17]? = some (.int .i64 m)) := pfx_bits (p := (true, ps, m)) hgp.1
  have H16 := hid arr16_size
  have HGP := hid hgp
  have HGA := hid hga
  clear hr hgp hga
  have BA0 : Blk (W.alloc (.cells (addrC six [b0, b1, b2, b3, b4, b5, b6, b7, b8, b9, b10, b11, b12, b13, b14, b15]).toArray 29)) W.heap.size 29 (addrC six [b0, b1, b2, b3, b4, b5, b6, b7, b8, b9, b10, b11, b12, b13, b14, b15]) := Blk.new W _ _
  have CC0 : Ch [] W (W.alloc (.cells (addrC six [b0, b1, b2, b3, b4, b5, b6, b7, b8, b9, b10, b11, b12, b13, b14, b15]).toArray 29)) := (Ch.refl _ _).alloc _
  go_enter Tryd.func10, Tryd.ntmps10
  go_upto_region 4 with (first
    | (refine wpList_load_want rfl 49 _ rfl g (i * 20) rfl (pfxC (true, ps, m)) _ HRP Tryd.underlying49 rfl HIP.out ?_)
    | (refine wpList_storeB rfl 49 _ _ rfl w1.heap.size 49 (pfxC (false, zeros, 0)) (pfxC (true, ps, m)) rfl rfl (Blk.new _ _ _) HIP.out (by rw [HLP.out]; rfl) (pfx_one _) ?_; intro w2 BP2 C2 Z2; clear Z2; have BA2 := (BA1.alloc _).ch C2 (by simp; omega); have CC2 := (CC1.alloc _).step C2 (fun i hi => .inr (by simp at hi; omega)); have lt2 := BP2.lt; have lt2a := BA2.lt)
    | (refine wpList_storeB rfl 29 _ _ rfl w2.heap.size 29 (addrC false zeros) (addrC true zeros) rfl rfl (Blk.new _ _ _) HIX.out rfl (addr_one' _ _) ?_; intro w3 BX3 C3 Z3; clear Z3; have BA3 := (BA2.alloc _).ch C3 (by simp; omega); have BP3 := (BP2.alloc _).ch C3 (by simp; omega); have CC3 := (CC2.alloc _).step C3 (fun i hi => .inr (by simp at hi; have := CC2.size; omega)))
    | (go_at_call 48; (with_reducible refine (refRows _).mono ?_); rintro e w1 ⟨T, cT, rfl, own, C1⟩; have BA1 := BA0.ch C1 (by simp); have CC1 := CC0.trans C1; obtain ⟨g, rfl, hg0, hg1⟩ := own.form (by decide); have HRP : w1.rangeAt g (i * 20) (pfxC (true, ps, m)) := (fun j v hj => own_rows20 own i _ HR.out j v (by have := row_pfx (r := ((true, ps, m), pr, lb)) hj; rwa [Nat.zero_add] at this)); have lt1 := BA1.lt; have sz1 := CC1.size; clear own)
    | (go_at_call 14; (with_reducible refine (M1.out _).mono ?_); rintro e wz ⟨rfl, rfl⟩))
  have HNE : Hid (W.heap.size < w1.heap.size ∧ w1.heap.size < w2.heap.size) := ⟨lt1, lt2⟩
  have hX3 : XB w3 w2.heap.size := ⟨zeros, ⟨rfl, by decide⟩, BX3⟩
  obtain ⟨gp, hgp0⟩ : ∃ gp, w1.heap.size = gp := ⟨_, rfl⟩
  obtain ⟨gx, hgx0⟩ : ∃ gx, w2.heap.size = gx := ⟨_, rfl⟩
  rw [hgp0, hgx0] at HNE
  rw [hgp0] at BP3 ⊢
  rw [hgx0] at hX3 ⊢
  clear hgp0 hgx0 BX3 BA0 BA1 BA2 CC0 CC1 CC2 C1 C2 C3 BP2 HRP lt1 lt2 lt2a sz1
  try simp only [Act.put]
  go_wp2_with fail
  go_loopw [10] (fun i wr => ∃ j : Nat, i = .int .i64 j ∧ j ≤ 128 ∧ XB wr gx ∧ Blk wr gp 49 (pfxC (true, ps, m)) ∧ Blk wr W.heap.size 29 (addrC six [b0, b1, b2, b3, b4, b5, b6, b7, b8, b9, b10, b11, b12, b13, b14, b15]) ∧ Ch [] W wr) (fun i _ => 128 - (intOf i).toNat)
  case atStart => exact ⟨0, rfl, by omega, hX3, BP3, BA3, CC3⟩
  case round =>
    clear hX3 BP3 BA3 CC3
    obtain ⟨j, rfl, hj, hX, BP, BA, CC⟩ := hrel
    obtain ⟨bz, hgz, BX⟩ := hX
    have hne := HNE.out
    by_cases hlt : j < 128
    · obtain ⟨qq, hqq⟩ : ∃ qq : Nat, (j : Int) / 8 = qq := ⟨j / 8, by omega⟩
      have hq16 : qq < 16 := by omega
      have j0 : (0 : Int) ≤ j := by omega
      have j1 : (j : Int) < 128 := by omega
      have j2 : (0 : Int) ≤ (j : Int) % 8 := by omega
      have j3 : (j : Int) % 8 < 8 := by omega
      obtain ⟨xq, hxq⟩ : ∃ xq, at_ bz qq = xq := ⟨_, rfl⟩
      obtain ⟨x0, x1⟩ := hgz.at hq16
      rw [hxq] at x0 x1
      have HXQ : Hid ((addrC true bz)[1 + qq]? = some (.int .u8 xq)) := by rw [← hxq]; exact addrC_byte (by rw [hgz.1]; exact hq16)
      have HGZ := hid hgz
      have c17 : wr.cell? ⟨gp, 17, none⟩ = some (.int .i64 m) := (BP.cell 17).trans HP17.out
      have HB1 : Hid (∀ w, Calls Tryd.prog 49 #[.agg #[.bool true, .int .u8 b0, .int .u8 b1, .int .u8 b2, .int .u8 b3, .int .u8 b4, .int .u8 b5, .int .u8 b6, .int .u8 b7, .int .u8 b8, .int .u8 b9, .int .u8 b10, .int .u8 b11, .int .u8 b12, .int .u8 b13, .int .u8 b14, .int .u8 b15], .int .i64 j] w fun e w' => e = .returned (.int .i64 (bitA [b0, b1, b2, b3, b4, b5, b6, b7, b8, b9, b10, b11, b12, b13, b14, b15] j)) ∧ Ch [] w w') := bitR true [b0, b1, b2, b3, b4, b5, b6, b7, b8, b9, b10, b11, b12, b13, b14, b15] HGA.out j j1
      have HB2 := hid (bitR true ps HGP.out j j1)
      have t1 := bit_rng [b0, b1, b2, b3, b4, b5, b6, b7, b8, b9, b10, b11, b12, b13, b14, b15] j
      have t2 := bit_rng ps j
      obtain ⟨u, hu⟩ : ∃ u, bitA [b0, b1, b2, b3, b4, b5, b6, b7, b8, b9, b10, b11, b12, b13, b14, b15] j = u := ⟨_, rfl⟩
      obtain ⟨v, hv⟩ : ∃ v, bitA ps j = v := ⟨_, rfl⟩
      rw [hu] at HB1 t1
      rw [hv] at HB2 t2
      have u0 : 0 ≤ u := by omega
      have u1 : u ≤ 1 := by omega
      have v0 : 0 ≤ v := by omega
      have v1 : v ≤ 1 := by omega
      clear hxq hgz hu hv t1 t2
      by_cases hjm : (j : Int) < m
      · have dm : decide ((j : Int) < m) = true := by simpa using hjm
        go_wp2_with (first
          | (refine wpList_load_want rfl 27 _ rfl W.heap.size 1 rfl [.int .u8 b0, .int .u8 b1, .int .u8 b2, .int .u8 b3, .int .u8 b4, .int .u8 b5, .int .u8 b6, .int .u8 b7, .int .u8 b8, .int .u8 b9, .int .u8 b10, .int .u8 b11, .int .u8 b12, .int .u8 b13, .int .u8 b14, .int .u8 b15] _ (BA.rangeMid 1 _ (fun j v hj => by rw [Nat.add_comm]; exact hj)) Tryd.underlying27 rfl H16.out ?_)
          | (refine wpList_load_want rfl 29 _ rfl gp 0 rfl (addrC true ps) _ (BP1.rangeMid 0 _ HPA.out) Tryd.underlying29 rfl HIS.out ?_)
          | (go_at_call 49; (with_reducible refine (HB1.out _).mono ?_); rintro e w1 ⟨rfl, C1⟩; have BA1 := BA.ch C1 (by simp); have BP1 := BP.ch C1 (by simp); have BX1 := BX.ch C1 (by simp); have CC1 := CC.trans C1; have hcx1 : w1.cell? ⟨gx, 1 + qq, none⟩ = some (.int .u8 xq) := (BX1.cell _).trans HXQ.out; have hfx1 : w1.frozen? ⟨gx, 1 + qq, none⟩ = false := BX1.frozen _; have d17 : w1.cell? ⟨gp, 17, none⟩ = some (.int .i64 m) := (BP1.cell 17).trans HP17.out)
          | (go_at_call 49; (with_reducible refine (HB2.out _).mono ?_); rintro e w2 ⟨rfl, C2⟩; have BA2 := BA1.ch C2 (by simp); have BP2 := BP1.ch C2 (by simp); have BX2 := BX1.ch C2 (by simp); have CC2 := CC1.trans C2; have hcx2 : w2.cell? ⟨gx, 1 + qq, none⟩ = some (.int .u8 xq) := (BX2.cell _).trans HXQ.out; have hfx2 : w2.frozen? ⟨gx, 1 + qq, none⟩ = false := BX2.frozen _))
        go_roundw
        case rel => exact ⟨j + 1, by go_num, by omega, XB.set HGZ.out BX2 qq (bits_u8' _ _ _), BP2.far (p := ⟨gx, 1 + qq, none⟩) (by simp; omega) _, BA2.far (p := ⟨gx, 1 + qq, none⟩) (by simp; omega) _, CC2.setCell (p := ⟨gx, 1 + qq, none⟩) (.inr (by simp; omega)) _⟩
        case measure => simp [intOf]; omega
      · have dm : decide ((j : Int) < m) = false := by simpa using hjm
        go_wp2_with (first
          | (refine wpList_load_want rfl 27 _ rfl W.heap.size 1 rfl [.int .u8 b0, .int .u8 b1, .int .u8 b2, .int .u8 b3, .int .u8 b4, .int .u8 b5, .int .u8 b6, .int .u8 b7, .int .u8 b8, .int .u8 b9, .int .u8 b10, .int .u8 b11, .int .u8 b12, .int .u8 b13, .int .u8 b14, .int .u8 b15] _ (BA.rangeMid 1 _ (fun j v hj => by rw [Nat.add_comm]; exact hj)) Tryd.underlying27 rfl H16.out ?_)
          | (go_at_call 49; (with_reducible refine (HB1.out _).mono ?_); rintro e w1 ⟨rfl, C1⟩; have BA1 := BA.ch C1 (by simp); have BP1 := BP.ch C1 (by simp); have BX1 := BX.ch C1 (by simp); have CC1 := CC.trans C1; have hcx1 : w1.cell? ⟨gx, 1 + qq, none⟩ = some (.int .u8 xq) := (BX1.cell _).trans HXQ.out; have hfx1 : w1.frozen? ⟨gx, 1 + qq, none⟩ = false := BX1.frozen _; have d17 : w1.cell? ⟨gp, 17, none⟩ = some (.int .i64 m) := (BP1.cell 17).trans HP17.out))
        go_roundw
        case rel => exact ⟨j + 1, by go_num, by omega, XB.set HGZ.out BX1 qq (bits_u8' _ _ _), BP1.far (p := ⟨gx, 1 + qq, none⟩) (by simp; omega) _, BA1.far (p := ⟨gx, 1 + qq, none⟩) (by simp; omega) _, CC1.setCell (p := ⟨gx, 1 + qq, none⟩) (.inr (by simp; omega)) _⟩
        case measure => simp [intOf]; omega
    · obtain rfl : j = 128 := by omega
      obtain ⟨qq, hqq⟩ : ∃ qq : Nat, (k : Int) / 8 = qq := ⟨k / 8, by omega⟩
      have hq16 : qq < 16 := by omega
      have m0 : (0 : Int) ≤ (k : Int) % 8 := by omega
      have m1 : (k : Int) % 8 < 8 := by omega
      obtain ⟨xq, hxq⟩ : ∃ xq, at_ bz qq = xq := ⟨_, rfl⟩
      obtain ⟨x0, x1⟩ := hgz.at hq16
      rw [hxq] at x0 x1
      have HXQ : Hid ((addrC true bz)[1 + qq]? = some (.int .u8 xq)) := by rw [← hxq]; exact addrC_byte (by rw [hgz.1]; exact hq16)
      obtain ⟨yq, hyq⟩ : ∃ yq, at_ ps qq = yq := ⟨_, rfl⟩
      obtain ⟨y0, y1⟩ := HGP.out.at hq16
      rw [hyq] at y0 y1
      have HYQ : Hid ((addrC true ps)[1 + qq]? = some (.int .u8 yq)) := by rw [← hyq]; exact addrC_byte (by rw [HGP.out.1]; exact hq16)
      have HGZ := hid hgz
      have HIZ := hid (addr_inf (six := true) hgz.1)
      have HLZ : Hid ((addrC true bz).length = 17) := addr_len hgz.1
      have HLS : Hid ((addrC true ps).length = 17) := addr_len HGP.out.1
      clear hxq hyq hgz BA
      have ltx := BX.lt
      have ltp := BP.lt
      have szr := CC.size
      go_upto_region 14 with (first
        | (refine wpList_loadB rfl 29 _ rfl gx 29 (addrC true bz) _ rfl BX Tryd.underlying29 rfl HIZ.out ?_)
        | (refine wpList_storeB rfl 29 _ _ rfl wr.heap.size 29 (addrC false zeros) (addrC true bz) rfl rfl (Blk.new _ _ _) HIZ.out (by rw [HLZ.out]; rfl) (addr_one' _ _) ?_; intro w5 BY C5 Z5; clear Z5; have BX5 := (BX.alloc _).ch C5 (by simp; omega); have BP5 := (BP.alloc _).ch C5 (by simp; omega); have CC5 := (CC.alloc _).step C5 (fun i hi => .inr (by simp at hi; omega)); have hcy : w5.cell? ⟨wr.heap.size, 1 + qq, none⟩ = some (.int .u8 xq) := (BY.cell _).trans HXQ.out; have hfy : w5.frozen? ⟨wr.heap.size, 1 + qq, none⟩ = false := BY.frozen _)
        | (go_at_call 14; (with_reducible refine (M2.out _).mono ?_); rintro e wz ⟨rfl, rfl⟩))
      have hY6 : XB (w5.setCell ⟨wr.heap.size, 1 + qq, none⟩ (.int .u8 (bits BinOp.xor IntKind.u8 xq (2 ^ (7 - k % 8) % 256)))) wr.heap.size := XB.set HGZ.out BY qq (bits_u8' _ _ _)
      have BX6 := BX5.far (p := ⟨wr.heap.size, 1 + qq, none⟩) (by simp; omega) (.int .u8 (bits BinOp.xor IntKind.u8 xq (2 ^ (7 - k % 8) % 256)))
      have BP6 := BP5.far (p := ⟨wr.heap.size, 1 + qq, none⟩) (by simp; omega) (.int .u8 (bits BinOp.xor IntKind.u8 xq (2 ^ (7 - k % 8) % 256)))
      have CC6 : Ch [] W (w5.setCell ⟨wr.heap.size, 1 + qq, none⟩ (.int .u8 (bits BinOp.xor IntKind.u8 xq (2 ^ (7 - k % 8) % 256)))) := CC5.setCell (p := ⟨wr.heap.size, 1 + qq, none⟩) (.inr (by simp; omega)) _
      have HN2 : Hid (gx < wr.heap.size ∧ gp < wr.heap.size ∧ W.heap.size < wr.heap.size) := ⟨ltx, ltp, by omega⟩
      generalize w5.setCell ⟨wr.heap.size, 1 + qq, none⟩ (.int .u8 (bits BinOp.xor IntKind.u8 xq (2 ^ (7 - k % 8) % 256))) = w6 at hY6 BX6 BP6 CC6 ⊢
      generalize wr.heap.size = gy at hY6 HN2 ⊢
      clear BX5 BP5 CC5 BY C5 hcy hfy BX BP CC ltx ltp szr
      obtain ⟨yz, hgyz, BY6⟩ := hY6
      have lty := BY6.lt
      have ltx := BX6.lt
      have ltp := BP6.lt
      have szr := CC6.size
      try simp only [Act.put]
      go_upto_region 16 with (first
        | (refine wpList_load_want rfl 29 _ rfl gp 0 rfl (addrC true ps) _ (BP6.rangeMid 0 _ HPA.out) Tryd.underlying29 rfl HIS.out ?_)
        | (refine wpList_storeB rfl 29 _ _ rfl w6.heap.size 29 (addrC false zeros) (addrC true ps) rfl rfl (Blk.new _ _ _) HIS.out (by rw [HLS.out]; rfl) (addr_one' _ _) ?_; intro w7 BZ C7 Z7; clear Z7; have BX7 := (BX6.alloc _).ch C7 (by simp; omega); have BY7 := (BY6.alloc _).ch C7 (by simp; omega); have BP7 := (BP6.alloc _).ch C7 (by simp; omega); have CC7 := (CC6.alloc _).step C7 (fun i hi => .inr (by simp at hi; omega)); have hcz : w7.cell? ⟨w6.heap.size, 1 + qq, none⟩ = some (.int .u8 yq) := (BZ.cell _).trans HYQ.out; have hfz : w7.frozen? ⟨w6.heap.size, 1 + qq, none⟩ = false := BZ.frozen _))
      have hZ8 : XB (w7.setCell ⟨w6.heap.size, 1 + qq, none⟩ (.int .u8 (bits BinOp.xor IntKind.u8 yq (2 ^ (7 - k % 8) % 256)))) w6.heap.size := XB.set HGP.out BZ qq (bits_u8' _ _ _)
      have BX8 := BX7.far (p := ⟨w6.heap.size, 1 + qq, none⟩) (by simp; omega) (.int .u8 (bits BinOp.xor IntKind.u8 yq (2 ^ (7 - k % 8) % 256)))
      have BY8 := BY7.far (p := ⟨w6.heap.size, 1 + qq, none⟩) (by simp; omega) (.int .u8 (bits BinOp.xor IntKind.u8 yq (2 ^ (7 - k % 8) % 256)))
      have BP8 := BP7.far (p := ⟨w6.heap.size, 1 + qq, none⟩) (by simp; omega) (.int .u8 (bits BinOp.xor IntKind.u8 yq (2 ^ (7 - k % 8) % 256)))
      have CC8 : Ch [] W (w7.setCell ⟨w6.heap.size, 1 + qq, none⟩ (.int .u8 (bits BinOp.xor IntKind.u8 yq (2 ^ (7 - k % 8) % 256)))) := CC7.setCell (p := ⟨w6.heap.size, 1 + qq, none⟩) (.inr (by simp; omega)) _
      generalize w7.setCell ⟨w6.heap.size, 1 + qq, none⟩ (.int .u8 (bits BinOp.xor IntKind.u8 yq (2 ^ (7 - k % 8) % 256))) = w8 at hZ8 BX8 BY8 BP8 CC8 ⊢
      generalize w6.heap.size = gz at hZ8 ⊢
      obtain ⟨zz, hgzz, BZ8⟩ := hZ8
      clear BX7 BY7 BP7 CC7 BZ C7 hcz hfz BX6 BY6 BP6 CC6 lty ltx ltp szr
      have HAX := hid (agrees24 true bz HGZ.out)
      have HAY := hid (agrees24 true yz hgyz)
      have HAZ := hid (agrees24 true zz hgzz)
      have HAP := hid (agrees24 true ps HGP.out)
      have HIY := hid (addr_inf (six := true) hgyz.1)
      have HIW := hid (addr_inf (six := true) hgzz.1)
      try simp only [Act.put]
      go_wp2_with (first
        | go_skip
        | (refine wpList_load_want rfl 29 _ rfl gx 0 rfl (addrC true bz) _ BX8.range Tryd.underlying29 rfl HIZ.out ?_)
        | (refine wpList_load_want rfl 29 _ rfl gy 0 rfl (addrC true yz) _ BY8.range Tryd.underlying29 rfl HIY.out ?_)
        | (refine wpList_load_want rfl 29 _ rfl gz 0 rfl (addrC true zz) _ BZ8.range Tryd.underlying29 rfl HIW.out ?_)
        | (refine wpList_load_want rfl 29 _ rfl gp 0 rfl (addrC true ps) _ (BP8.rangeMid 0 _ HPA.out) Tryd.underlying29 rfl HIS.out ?_)
        | (go_at_call 46; (with_reducible refine (awake24 _).mono ?_); rintro e wn ⟨rfl, Cn⟩; replace BX8 := BX8.ch Cn (by simp); replace BY8 := BY8.ch Cn (by simp); replace BZ8 := BZ8.ch Cn (by simp); replace BP8 := BP8.ch Cn (by simp); replace CC8 := CC8.trans Cn; clear Cn)
        | (go_at_call 47; (with_reducible refine (HAX.out _).mono ?_); rintro e wn ⟨rfl, Cn⟩; replace BX8 := BX8.ch Cn (by simp); replace BY8 := BY8.ch Cn (by simp); replace BZ8 := BZ8.ch Cn (by simp); replace BP8 := BP8.ch Cn (by simp); replace CC8 := CC8.trans Cn; clear Cn)
        | (go_at_call 47; (with_reducible refine (HAY.out _).mono ?_); rintro e wn ⟨rfl, Cn⟩; replace BX8 := BX8.ch Cn (by simp); replace BY8 := BY8.ch Cn (by simp); replace BZ8 := BZ8.ch Cn (by simp); replace BP8 := BP8.ch Cn (by simp); replace CC8 := CC8.trans Cn; clear Cn)
        | (go_at_call 47; (with_reducible refine (HAZ.out _).mono ?_); rintro e wn ⟨rfl, Cn⟩; replace BX8 := BX8.ch Cn (by simp); replace BY8 := BY8.ch Cn (by simp); replace BZ8 := BZ8.ch Cn (by simp); replace BP8 := BP8.ch Cn (by simp); replace CC8 := CC8.trans Cn; clear Cn)
        | (go_at_call 47; (with_reducible refine (HAP.out _).mono ?_); rintro e wn ⟨rfl, Cn⟩; replace BX8 := BX8.ch Cn (by simp); replace BY8 := BY8.ch Cn (by simp); replace BZ8 := BZ8.ch Cn (by simp); replace BP8 := BP8.ch Cn (by simp); replace CC8 := CC8.trans Cn; clear Cn))
      go_ret
      exact ⟨rfl, CC8.nil_below⟩
end Go.Proofs.YtjabeabbaambcaaDoor
