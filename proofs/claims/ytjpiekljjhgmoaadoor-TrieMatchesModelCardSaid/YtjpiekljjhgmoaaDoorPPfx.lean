/- ginnelref07.ParsePrefix where it succeeds. -/
import Derived.Test.YtjpiekljjhgmoaaDoorPPar
import Derived.Test.YtjpiekljjhgmoaaDoorRefPfx
namespace Go.Proofs.YtjpiekljjhgmoaaDoor
open Go.RowKit

theorem addrT_good {l : List Int} {six : Bool} {bs : List Int} (h : addrT l = some (six, bs)) : GoodA bs := by
  rcases addrT_spec h with ⟨b, h4, rfl, rfl⟩ | ⟨hd, k, a, b, hk, ha, hb, hl, rfl, rfl⟩
  · refine ⟨by rw [List.length_append, (ip4_spec h4).2.1]; rfl, fun x hx => ?_⟩
    rcases List.mem_append.1 hx with hx | hx
    · exact ip4_rng h4 x hx
    · simp [z12] at hx; omega
  · refine grpB_good (by simp; omega) (fun x hx => ?_)
    rcases List.mem_append.1 hx with hx | hx
    · rcases List.mem_append.1 hx with hx | hx
      · exact grp_rng ha x hx
      · have := List.eq_of_mem_replicate hx; omega
    · exact grp_rng hb x hx
theorem prefT_spec {l : List Int} {p : Pfx} (h : prefT l = some p) : ∃ x y, splitC 47 l = [x, y] ∧ addrT x = some (p.1, p.2.1) ∧ decP y 128 = some p.2.2 ∧ validP p = true := by
  unfold prefT at h
  split at h
  case h_2 => cases h
  rename_i x y hxy
  split at h
  case h_2 => cases h
  rename_i r k hr hk
  split at h
  case isFalse => cases h
  rename_i hv
  obtain rfl := Option.some.inj h
  exact ⟨x, y, hxy, hr, hk, hv⟩
theorem zpfx : pfxC (false, zeros, 0) = [.bool false, .int .u8 0, .int .u8 0, .int .u8 0, .int .u8 0, .int .u8 0, .int .u8 0, .int .u8 0, .int .u8 0, .int .u8 0, .int .u8 0, .int .u8 0, .int .u8 0, .int .u8 0, .int .u8 0, .int .u8 0, .int .u8 0, .int .i64 0] := rfl
set_option maxRecDepth 20000 in
set_option maxHeartbeats 4000000 in
theorem refPPfx (s : ByteArray) (p : Pfx) (hs : s.size ≤ 1000000) (h : prefT (numsOf s) = some p) (w : World) : Calls Tryd.prog 43 #[.string s] w fun e w' => e = .returned (.tuple #[.agg (pfxC p).toArray, .bool true]) ∧ Ch [] w w' := by
  obtain ⟨x, y, hxy, hx, hy, hv⟩ := prefT_spec h
  obtain ⟨six, bs, n⟩ := p
  have hgd := addrT_good hx
  obtain ⟨b0, b1, b2, b3, b4, b5, b6, b7, b8, b9, b10, b11, b12, b13, b14, b15, rfl⟩ := len16 hgd.1
  have hn := decP_le hy
  have HVP := hid (refValidPfx six _ n hgd)
  have hv' : validP (six, [b0, b1, b2, b3, b4, b5, b6, b7, b8, b9, b10, b11, b12, b13, b14, b15], n) = true := hv
  rw [hv'] at HVP
  have HP : Hid (∀ z : ByteArray, z.size ≤ 1000000 → numsOf z = x → ∀ w, Calls Tryd.prog 65 #[.string z] w fun e w' => e = .returned (.tuple #[.agg #[.bool six, .int .u8 b0, .int .u8 b1, .int .u8 b2, .int .u8 b3, .int .u8 b4, .int .u8 b5, .int .u8 b6, .int .u8 b7, .int .u8 b8, .int .u8 b9, .int .u8 b10, .int .u8 b11, .int .u8 b12, .int .u8 b13, .int .u8 b14, .int .u8 b15], .bool true]) ∧ Ch [] w w') := fun z hz he w => refParse z six [b0, b1, b2, b3, b4, b5, b6, b7, b8, b9, b10, b11, b12, b13, b14, b15] hz (by rw [he]; exact hx) w
  have HD : Hid (∀ z : ByteArray, numsOf z = y → ∀ w, Calls Tryd.prog 66 #[.string z, .int .i64 128] w fun e w' => e = .returned (.int .i64 n) ∧ w = w') := fun z he w => refDec z 128 n (by rw [he]; exact hy) (by omega) w
  have HSP := hid (refSplit s 47 hs)
  have HZ := hid (splitC_size 47 (numsOf s))
  have HXY := hid hxy
  have HI := hid (addr_inf (six := six) (bs := [b0, b1, b2, b3, b4, b5, b6, b7, b8, b9, b10, b11, b12, b13, b14, b15]) rfl)
  have HIP := hid (pfx_inf (p := (six, [b0, b1, b2, b3, b4, b5, b6, b7, b8, b9, b10, b11, b12, b13, b14, b15], n)) rfl)
  clear h hx hy hv hv' hxy hgd hn
  show Calls Tryd.prog _ _ w fun e w' => e = .returned (.tuple #[.agg (pfxC (six, [b0, b1, b2, b3, b4, b5, b6, b7, b8, b9, b10, b11, b12, b13, b14, b15], n)).toArray, .bool true]) ∧ Ch [] w w'
  have hB1 : Blk (w.alloc (.cells (pfxC (false, zeros, 0)).toArray 33)) w.heap.size 33 (pfxC (false, zeros, 0)) := Blk.new _ _ _
  go_enter Tryd.func43, Tryd.ntmps43
  go_wp2_with (first
    | (refine wpList_loadB rfl 33 _ rfl w3.heap.size 33 (pfxC (six, [b0, b1, b2, b3, b4, b5, b6, b7, b8, b9, b10, b11, b12, b13, b14, b15], n)) _ rfl B6 Tryd.underlying33 rfl HIP.out ?_)
    | (refine wpList_load_want rfl 33 _ rfl w3.heap.size 0 rfl (pfxC (six, [b0, b1, b2, b3, b4, b5, b6, b7, b8, b9, b10, b11, b12, b13, b14, b15], n)) _ B5.range Tryd.underlying33 rfl HIP.out ?_)
    | (refine wpList_storeB rfl 33 _ _ rfl w.heap.size 33 (pfxC (false, zeros, 0)) (pfxC (six, [b0, b1, b2, b3, b4, b5, b6, b7, b8, b9, b10, b11, b12, b13, b14, b15], n)) rfl rfl B1e HIP.out rfl (pfx_one _) ?_; intro w8 B8 C8 Z8)
    | (refine wpList_storeB rfl 33 _ _ rfl w3.heap.size 33 (pfxC (false, zeros, 0)) (pfxC (six, [b0, b1, b2, b3, b4, b5, b6, b7, b8, b9, b10, b11, b12, b13, b14, b15], n)) rfl rfl (Blk.new _ _ _) HIP.out rfl (pfx_one _) ?_; intro w5 B5 C5 Z5; have CC5 := (CC3.alloc _).step C5 (fun i hi => .inr (by simp at hi; omega)); have B1d := (B1c.alloc _).ch C5 (by simp; omega); clear Z5)
    | (refine wpList_loadB rfl 24 _ rfl w2.heap.size 24 [.bool six, .int .u8 b0, .int .u8 b1, .int .u8 b2, .int .u8 b3, .int .u8 b4, .int .u8 b5, .int .u8 b6, .int .u8 b7, .int .u8 b8, .int .u8 b9, .int .u8 b10, .int .u8 b11, .int .u8 b12, .int .u8 b13, .int .u8 b14, .int .u8 b15] _ rfl B3 Tryd.underlying24 rfl HI.out ?_)
    | (refine wpList_storeB rfl 24 _ _ rfl w2.heap.size 24 (addrC false zeros) (addrC six [b0, b1, b2, b3, b4, b5, b6, b7, b8, b9, b10, b11, b12, b13, b14, b15]) rfl rfl (Blk.new _ _ _) HI.out rfl (addr_one' _ _) ?_; intro w3 B3 C3 Z3; have CC3 := (CC2.alloc _).step C3 (fun i hi => .inr (by simp at hi; omega)); have B1c := (B1b.alloc _).ch C3 (by simp; omega); have own3 := (own2.alloc _).ch C3 (by intro q hq; have := (own2.blks q hq).2; simp; omega); have hy3 := own_str own3 rfl hp1; have lt3 := B1c.lt; clear Z3)
    | (go_at_call 64; (with_reducible refine (HSP.out _).mono ?_); rintro e w1 ⟨A, cp, ps, rfl, hps, own, C1⟩; rw [HXY.out] at hps; obtain ⟨z0, z1, rfl⟩ : ∃ z0 z1, ps = [z0, z1] := (by match ps, hps with | [z0, z1], _ => exact ⟨z0, z1, rfl⟩); have hz0 : numsOf z0 = x := List.cons.inj hps |>.1; have hz1 : numsOf z1 = y := List.cons.inj (List.cons.inj hps).2 |>.1; have hzs : z0.size ≤ 1000000 := (by have h9 := HZ.out x (by rw [HXY.out]; simp); rw [← hz0, numsOf_length, numsOf_length] at h9; omega); obtain ⟨q, rfl, hqw, hql⟩ := own.form (by simp); have hp0 : ([z0, z1] : List ByteArray)[0]? = some z0 := rfl; have hp1 : ([z0, z1] : List ByteArray)[1]? = some z1 := rfl; have hx1 := own_str own rfl hp0; have B1 := hB1.ch C1 (by simp); have lt1 := B1.lt; have CA := ((Ch.refl [] w).alloc _).trans C1; have HP0 := hid (HP.out z0 hzs hz0); have HD1 := hid (HD.out z1 hz1); clear hps hz0 hz1 hzs)
    | (go_at_call 65; (with_reducible refine (HP0.out _).mono ?_); rintro e w2 ⟨rfl, C2⟩; have own2 := own.ch C2 (by simp); have B1b := B1.ch C2 (by simp); have CC2 := CA.trans C2; have lt2 := B1b.lt)
    | (go_at_call 66; (with_reducible refine (HD1.out _).mono ?_); rintro e w4 ⟨rfl, rfl⟩)
    | (go_at_call 31; (with_reducible refine (HVP.out _).mono ?_); rintro e w6 ⟨rfl, C6⟩; have B6 := B5.ch C6 (by simp); have B1e := B1d.ch C6 (by simp); have CC6 := CC5.trans C6))
  try simp only [Exit.inBlock, Exit.then]
  refine bodyPost_ret (results_rowF2 rfl _ _ rfl B8 Tryd.underlying33 rfl HIP.out) rfl ?_
  exact ⟨rfl, CC6.step C8 (fun i hi => .inr (by simp at hi; omega))⟩
end Go.Proofs.YtjpiekljjhgmoaaDoor
