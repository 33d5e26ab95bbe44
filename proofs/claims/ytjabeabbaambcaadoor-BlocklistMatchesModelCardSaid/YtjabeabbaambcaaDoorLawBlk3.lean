/- BlocklistMatchesModel. -/
import Derived.Test.YtjabeabbaambcaaDoorLawBlk0
import Derived.Test.YtjabeabbaambcaaDoorGenD
import Derived.Test.YtjabeabbaambcaaDoorShellD
import Derived.Test.YtjabeabbaambcaaDoorArgsA
import Derived.Test.YtjabeabbaambcaaDoorRows
import Derived.Deep.DeepCutAuto
namespace Go.Proofs.YtjabeabbaambcaaDoor
open Go.ChangeShapes Go.WideShapes Go.ChangeAt Go.RowKit

theorem bits_u8 (op : BinOp) (x y : Int) : 0 ≤ bits op .u8 x y ∧ bits op .u8 x y ≤ 255 := by
  unfold bits
  rw [IntKind.wrap_u8]
  omega
theorem good_set {bs : List Int} (h : GoodA bs) (q : Nat) {y : Int} (hy : 0 ≤ y ∧ y ≤ 255) : GoodA (bs.set q y) :=
  ⟨by rw [List.length_set]; exact h.1, fun x hx => by rcases List.mem_or_eq_of_mem_set hx with hx | rfl; exact h.2 x hx; exact hy⟩
theorem valid_set {six : Bool} {bs : List Int} (hg : GoodA bs) (h : validA six bs = true) {q : Nat} (hq : six = true ∨ q < 4) (y : Int) : validA six (bs.set q y) = true := by
  cases six
  · have hz := validA_zero hg.1 h
    refine validA_of (by rw [List.length_set]; exact hg.1) fun j h4 h16 => ?_
    have hq4 : q < 4 := by rcases hq with h | h; cases h; exact h
    have := hz j h4 h16
    simp only [at_, List.getD, List.getElem?_set] at this ⊢
    rw [if_neg (by omega)]
    exact this
  · rfl
def OkB (six : Bool) (bs : List Int) : Prop := GoodA bs ∧ validA six bs = true
theorem ok_set {six : Bool} {bs : List Int} (h : OkB six bs) {q : Nat} (hq : six = true ∨ q < 4) {y : Int} (hy : 0 ≤ y ∧ y ≤ 255) : OkB six (bs.set q y) := ⟨good_set h.1 q hy, valid_set h.1 h.2 hq y⟩

set_option maxRecDepth 100000 in
set_option maxHeartbeats 8000000 in
theorem blocklistMatchesModel_came {H : Type} {enc : TypeId × Value → H} (W : World) (args : Array Value) (ds : List (DataW H)) (_ : laidMetH Tryd.prog Rows.blocklistMatchesModelRow.laid W) (h : Came enc Tryd.prog Tryd.f4 W args ds) :
    Calls Tryd.prog 4 args W fun e W' => e = .returned (.bool true) ∧ Below W.heap.size W W' := by
  obtain ⟨v0, v1, v2, v3, d0, d1, d2, d3, rfl, a0, a1, a2, a3⟩ := h.args4 rfl
  obtain ⟨six, av, rfl, hga⟩ := a0.addr
  obtain ⟨n, rfl, hn0, hn1⟩ := a1.i64 Tryd.underlying3
  obtain ⟨bt, rfl, hb0, hb1⟩ := a2.i64 Tryd.underlying3
  obtain ⟨up, rfl⟩ := a3.bool Tryd.underlying4
  clear h a0 a1 a2 a3 hn0 hn1 hb0 hb1
  have r1 := modI_rng n 15 (by omega)
  have M1 := hid (fun w => genMod n 15 w (by omega) (by omega))
  obtain ⟨i, hi⟩ : ∃ i : Nat, modI n 15 = i := ⟨(modI n 15).toNat, by omega⟩
  rw [hi] at M1 r1
  have hi15 : i < 15 := by omega
  have z0 : (0 : Int) ≤ i := by omega
  have z1 : (i : Int) < 15 := by omega
  obtain ⟨p, hp⟩ : ∃ p, blkT[i]? = some p := ⟨_, List.getElem?_eq_getElem (by rw [blk_len]; exact hi15)⟩
  have hgp : GoodA p.2.1 := blk_good p (List.mem_of_getElem? hp)
  have hvp : validA p.1 p.2.1 = true := by
    have := blk_valid p (List.mem_of_getElem? hp)
    unfold validP at this
    simp only [Bool.and_eq_true] at this
    exact this.1.1.1
  have HP := hid hp
  obtain ⟨s6, ps, m⟩ := p
  have HIP := hid (pfx_inf (p := (s6, ps, m)) hgp.1)
  have HPA := hid (fun j v (hj : (addrC s6 ps)[j]? = some v) => pfx_addr (p := (s6, ps, m)) hj)
  have HIA := hid (addr_inf (six := six) hga.1)
  have HIB := hid (addr_inf (six := s6) hgp.1)
  have hok : OkB s6 ps := ⟨hgp, hvp⟩
  have HL0 := hid hgp.1
  have hL : bitL s6 = 128 ∨ bitL s6 = 32 := by cases s6 <;> simp [bitL]
  have hL6 : s6 = true ∨ bitL s6 = 32 := by cases s6 <;> simp [bitL]
  have HBL := hid (fun bs => bitLenR s6 bs)
  have HL6 := hid hL6
  have HOK := hid hok
  clear hi hp hgp hvp r1 hok hL6
  have HSA := hid (genSome six av hga)
  have hgc := someA_good (six := six) hga
  generalize someA six av = cz at HSA hgc
  obtain ⟨s7, cv⟩ := cz
  have HIC := hid (addr_inf (six := s7) hgc.1)
  have HLC := hid hgc.1
  have hB0 : Blk (W.alloc (.cells (addrC six av).toArray 29)) W.heap.size 29 (addrC six av) := Blk.new W _ _
  have hC0 : Ch [] W (W.alloc (.cells (addrC six av).toArray 29)) := (Ch.refl _ _).alloc _
  have HM2 : Hid (∀ w, Calls Tryd.prog 14 #[.int .i64 bt, .int .i64 (bitL s6)] w fun e w' => e = .returned (.int .i64 (modI bt (bitL s6))) ∧ w = w') := fun w => genMod bt _ w (by omega) (by omega)
  have r2 := modI_rng bt (bitL s6) (by omega)
  obtain ⟨k, hk⟩ : ∃ k : Nat, modI bt (bitL s6) = k := ⟨(modI bt (bitL s6)).toNat, by omega⟩
  rw [hk] at HM2 r2
  obtain ⟨L, hLL⟩ : ∃ L : Nat, bitL s6 = L := ⟨(bitL s6).toNat, by omega⟩
  rw [hLL] at HM2 r2 hL HL6 HBL
  clear hk hLL
  have hkL : k < L := by omega
  have hL2 : L ≤ 128 := by omega
  have kz : (0 : Int) ≤ k := by omega
  have kz2 : (k : Int) < 128 := by omega
  obtain ⟨qq, hqq⟩ : ∃ qq : Nat, (k : Int) / 8 = qq := ⟨k / 8, by omega⟩
  have hq16 : qq < 16 := by omega
  have hq4 : Hid (s6 = true ∨ qq < 4) := by rcases HL6.out with h | h; exact .inl h; exact .inr (by omega)
  obtain ⟨x, hx⟩ : ∃ x, at_ ps qq = x := ⟨_, rfl⟩
  obtain ⟨x0, x1⟩ := HOK.out.1.at hq16
  rw [hx] at x0 x1
  have HX : Hid ((addrC s6 ps)[1 + qq]? = some (.int .u8 x)) := by rw [← hx]; exact addrC_byte (by rw [HL0.out]; exact hq16)
  clear hx
  obtain ⟨vs, hvs⟩ : ∃ vs, (addrC six av).toArray = vs := ⟨_, rfl⟩
  have HVS := hid hvs
  rw [hvs] at hB0 hC0 ⊢
  clear hvs
  have m0 : (0 : Int) ≤ (k : Int) % 8 := by omega
  have m1 : (k : Int) % 8 < 8 := by omega
  go_enter Tryd.func4, Tryd.ntmps4
  go_upto_region 6 with (first
    | (refine wpList_loadB rfl 29 _ rfl w2.heap.size 29 (addrC s6 ps) _ rfl BB Tryd.underlying29 rfl HIB.out ?_)
    | (refine wpList_load_want rfl 49 _ rfl g (i * 18) rfl (pfxC (s6, ps, m)) _ HRI Tryd.underlying49 rfl HIP.out ?_)
    | (refine wpList_load_want rfl 29 _ rfl w1.heap.size 0 rfl (addrC s6 ps) _ (BP.rangeMid 0 _ HPA.out) Tryd.underlying29 rfl HIB.out ?_)
    | (refine wpList_storeB rfl 49 _ _ rfl w1.heap.size 49 (pfxC (false, zeros, 0)) (pfxC (s6, ps, m)) rfl rfl (Blk.new _ _ _) HIP.out ((pfx_len (p := (false, zeros, 0)) rfl).trans (pfx_len (p := (s6, ps, m)) HL0.out).symm) (pfx_one _) ?_; intro w2 BP C2 Z2; clear Z2; have BA2 := (BA1.alloc _).ch C2 (by simp; omega); have CC2 := (CC1.alloc _).step C2 (fun i hi => .inr (by simp at hi; omega)); have lt2 := BA2.lt; have sz2 := CC2.size)
    | (refine wpList_storeB rfl 29 _ _ rfl w2.heap.size 29 (addrC false zeros) (addrC s6 ps) rfl rfl (Blk.new _ _ _) HIB.out ((addr_len (six := false) (bs := zeros) rfl).trans (addr_len HL0.out).symm) (addr_one' _ _) ?_; intro w3 BB C3 Z3; clear Z3; have BA3 := (BA2.alloc _).ch C3 (by simp; omega); have CC3 := (CC2.alloc _).step C3 (fun i hi => .inr (by simp at hi; omega)))
    | (go_at_call 23; (with_reducible refine (refBlkL _).mono ?_); rintro e w1 ⟨A, cA, rfl, own, C1⟩; have BA1 := hB0.ch C1 (by simp); have CC1 := hC0.trans C1; obtain ⟨g, rfl, hg0, hg1⟩ := own.form (by decide); have HRI := own_rows own i _ HP.out; have lt1 := BA1.lt; have sz1 := CC1.size; clear own)
    | (go_at_call 24; (with_reducible refine (HBL.out _ _).mono ?_); rintro e w4 ⟨rfl, C4⟩; have BA4 := BA3.ch C4 (by simp); have BB4 := BB.ch C4 (by simp); have CC4 := CC3.trans C4; have hcx : w4.cell? ⟨w2.heap.size, 1 + qq, none⟩ = some (.int .u8 x) := (BB4.cell _).trans HX.out; have hfx : w4.frozen? ⟨w2.heap.size, 1 + qq, none⟩ = false := BB4.frozen _)
    | (go_at_call 14; (with_reducible refine (M1.out _).mono ?_); rintro e w6 ⟨rfl, rfl⟩)
    | (go_at_call 14; (with_reducible refine (HM2.out _).mono ?_); rintro e w6 ⟨rfl, rfl⟩))
  have BB5 : Blk (w4.setCell ⟨w2.heap.size, 1 + qq, none⟩ (.int .u8 (bits BinOp.xor IntKind.u8 x (2 ^ (7 - k % 8) % 256)))) w2.heap.size 29 (addrC s6 (ps.set qq (bits BinOp.xor IntKind.u8 x (2 ^ (7 - k % 8) % 256)))) := by
    rw [← addr_set]; exact BB4.set _ _
  have BA5 := BA4.far (p := ⟨w2.heap.size, 1 + qq, none⟩) (by simp; omega) (.int .u8 (bits BinOp.xor IntKind.u8 x (2 ^ (7 - k % 8) % 256)))
  have CC5 : Ch [] W (w4.setCell ⟨w2.heap.size, 1 + qq, none⟩ (.int .u8 (bits BinOp.xor IntKind.u8 x (2 ^ (7 - k % 8) % 256)))) := CC4.setCell (p := ⟨w2.heap.size, 1 + qq, none⟩) (.inr (by simp; omega)) _
  have hok5 : OkB s6 (ps.set qq (bits BinOp.xor IntKind.u8 x (2 ^ (7 - k % 8) % 256))) := ok_set HOK.out hq4.out (bits_u8 _ _ _)
  generalize ps.set qq (bits BinOp.xor IntKind.u8 x (2 ^ (7 - k % 8) % 256)) = b5 at BB5 hok5
  generalize w4.setCell ⟨w2.heap.size, 1 + qq, none⟩ (.int .u8 (bits BinOp.xor IntKind.u8 x (2 ^ (7 - k % 8) % 256))) = w5 at BB5 BA5 CC5 ⊢
  have HNB : Hid (W.heap.size ≤ w2.heap.size ∧ W.heap.size ≠ w2.heap.size) := ⟨by omega, by omega⟩
  generalize w2.heap.size = gb at BB5 BA5 CC5 HNB ⊢
  clear BB4 BA4 CC4 hcx hfx HRI BP BB BA1 BA2 BA3 CC1 CC2 CC3 C1 C2 C3 C4 hB0 hC0
  cases up
  · obtain ⟨bz, hbz⟩ : ∃ bz, b5 = bz := ⟨_, rfl⟩
    subst hbz
    have BAz := BA5
    have BBz := BB5
    have CCz := CC5
    have hokb := hok5
    clear BA5 BB5 CC5 hok5
    have HIBb := hid (addr_inf (six := s6) hokb.1.1)
    go_wp2_with (first
      | (refine wpList_loadB rfl 29 _ rfl W.heap.size 29 (addrC six av) _ rfl BAz Tryd.underlying29 rfl HIA.out ?_)
      | (go_at_call 25; (with_reducible refine (HSA.out _).mono ?_); rintro e w7 ⟨rfl, C7⟩; have BA7 := BAz.ch C7 (by simp); have BB7 := BBz.ch C7 (by simp); have CC7 := CCz.trans C7; have lt7 := BA7.lt; have lt8 := BB7.lt; have sz7 := CC7.size)
      | (refine wpList_storeB rfl 29 _ _ rfl w7.heap.size 29 (addrC false zeros) (addrC s7 cv) rfl rfl (Blk.new _ _ _) HIC.out ((addr_len (six := false) (bs := zeros) rfl).trans (addr_len HLC.out).symm) (addr_one' _ _) ?_; intro w8 BC8 C8 Z8; clear Z8; have BA8 := (BA7.alloc _).ch C8 (by simp; omega); have BB8 := (BB7.alloc _).ch C8 (by simp; omega); have CC8 := (CC7.alloc _).step C8 (fun i hi => .inr (by simp at hi; omega))))
    try simp only [Act.put]
    have HRA : Hid (∀ w', Ch [] w8 w' → w'.rangeAt W.heap.size 0 (addrC six av)) := fun w' h => (BA8.ch h (by simp)).range
    have HRB : Hid (∀ w', Ch [] w8 w' → w'.rangeAt gb 0 (addrC s6 b5)) := fun w' h => (BB8.ch h (by simp)).range
    have HRC : Hid (∀ w', Ch [] w8 w' → w'.rangeAt w7.heap.size 0 (addrC s7 cv)) := fun w' h => (BC8.ch h (by simp)).range
    have HIa := hid (blkIdx six av hga)
    have HIb := hid (blkIdx s6 b5 hokb.1)
    have HIc := hid (blkIdx s7 cv hgc)
    have HRa := hid (refIdx six av hga)
    have HRb := hid (refIdx s6 b5 hokb.1)
    have HRc := hid (refIdx s7 cv hgc)
    have HCa := hid (blkCont six av hga)
    have HCb := hid (blkCont s6 b5 hokb.1)
    have HVa := hid (refValid six av hga.1)
    rw [hokb.2, Bool.not_true, Bool.or_false] at HCb
    obtain ⟨gc, hgcz⟩ : ∃ gc, w7.heap.size = gc := ⟨_, rfl⟩
    rw [hgcz] at HRC ⊢
    clear hgcz BA8 BB8 BC8 BA7 BB7 BAz BBz hokb HVS
    generalize idxP six av blkT 0 = X at HIa HRa HCa
    generalize idxP s6 b5 blkT 0 = Y at HIb HRb HCb
    generalize idxP s7 cv blkT 0 = Z at HIc HRc
    generalize validA six av = V at HVa HCa
    generalize addrC six av = ca at HRA HIA HIa HRa HCa HVa
    generalize addrC s6 b5 = cb at HRB HIBb HIb HRb HCb
    generalize addrC s7 cv = cc at HRC HIC HIc HRc
    by_cases hX : 0 ≤ X
    · have hd : decide (0 ≤ X) = true := by simpa using hX
      rw [hd, Bool.true_or] at HCa
      refine wp_region_quietA (w8) (by kernel_rfl) (by kernel_rfl) (Ch.refl _ _) ?_
      repeat (first
        | (go_big_quiet_want; refine quiet_rowA 29 _ rfl W.heap.size 0 rfl ca _ HRA.out Tryd.underlying29 rfl HIA.out ?_; simp only [Act.put, List.setIfInBounds_toArray, List.set_cons_succ, List.set_cons_zero]; go_big_quiet_on)
        | (go_big_quiet_want; refine quiet_rowA 29 _ rfl gb 0 rfl cb _ HRB.out Tryd.underlying29 rfl HIBb.out ?_; simp only [Act.put, List.setIfInBounds_toArray, List.set_cons_succ, List.set_cons_zero]; go_big_quiet_on)
        | (go_big_quiet_want; refine quiet_rowA 29 _ rfl gc 0 rfl cc _ HRC.out Tryd.underlying29 rfl HIC.out ?_; simp only [Act.put, List.setIfInBounds_toArray, List.set_cons_succ, List.set_cons_zero]; go_big_quiet_on)
        | go_big_quiet_step (first
          | (go_at_call 26; with_reducible exact after_of (awake11 _))
          | (go_at_call 27; with_reducible exact after_of (HIa.out _))
          | (go_at_call 27; with_reducible exact after_of (HIb.out _))
          | (go_at_call 27; with_reducible exact after_of (HIc.out _))
          | (go_at_call 28; with_reducible exact after_of (HRa.out _))
          | (go_at_call 28; with_reducible exact after_of (HRb.out _))
          | (go_at_call 28; with_reducible exact after_of (HRc.out _))
          | (go_at_call 29; with_reducible exact after_of (HCa.out _))
          | (go_at_call 29; with_reducible exact after_of (HCb.out _))
          | (go_at_call 30; with_reducible exact after_of (HVa.out _))))
      refine wpQuiet_nil ?_
      intro wq hwq
      go_wp2_with fail
      go_ret
      exact ⟨rfl, (CC8.trans hwq).nil_below⟩
    · have hd : decide (0 ≤ X) = false := by simpa using hX
      rw [hd, Bool.false_or] at HCa
      refine wp_region_quietA (w8) (by kernel_rfl) (by kernel_rfl) (Ch.refl _ _) ?_
      repeat (first
        | (go_big_quiet_want; refine quiet_rowA 29 _ rfl W.heap.size 0 rfl ca _ HRA.out Tryd.underlying29 rfl HIA.out ?_; simp only [Act.put, List.setIfInBounds_toArray, List.set_cons_succ, List.set_cons_zero]; go_big_quiet_on)
        | (go_big_quiet_want; refine quiet_rowA 29 _ rfl gb 0 rfl cb _ HRB.out Tryd.underlying29 rfl HIBb.out ?_; simp only [Act.put, List.setIfInBounds_toArray, List.set_cons_succ, List.set_cons_zero]; go_big_quiet_on)
        | (go_big_quiet_want; refine quiet_rowA 29 _ rfl gc 0 rfl cc _ HRC.out Tryd.underlying29 rfl HIC.out ?_; simp only [Act.put, List.setIfInBounds_toArray, List.set_cons_succ, List.set_cons_zero]; go_big_quiet_on)
        | go_big_quiet_step (first
          | (go_at_call 26; with_reducible exact after_of (awake11 _))
          | (go_at_call 27; with_reducible exact after_of (HIa.out _))
          | (go_at_call 27; with_reducible exact after_of (HIb.out _))
          | (go_at_call 27; with_reducible exact after_of (HIc.out _))
          | (go_at_call 28; with_reducible exact after_of (HRa.out _))
          | (go_at_call 28; with_reducible exact after_of (HRb.out _))
          | (go_at_call 28; with_reducible exact after_of (HRc.out _))
          | (go_at_call 29; with_reducible exact after_of (HCa.out _))
          | (go_at_call 29; with_reducible exact after_of (HCb.out _))
          | (go_at_call 30; with_reducible exact after_of (HVa.out _))))
      refine wpQuiet_nil ?_
      intro wq hwq
      go_wp2_with fail
      go_ret
      exact ⟨rfl, (CC8.trans hwq).nil_below⟩
  · have hkL1 : k + 1 ≤ L := by omega
    go_wp2_with fail
    go_loopw [13] (fun i wr => ∃ (j : Nat) (bz : List Int), i = .int .i64 j ∧ j ≤ L ∧ Hid (OkB s6 bz) ∧ Blk wr gb 29 (addrC s6 bz) ∧ Blk wr W.heap.size 29 (addrC six av) ∧ Ch [] W wr) (fun i _ => L - (intOf i).toNat)
    case atStart => exact ⟨k + 1, b5, by go_num, hkL1, hok5, BB5, BA5, CC5⟩
    case round =>
      clear BB5 BA5 CC5 hok5
      obtain ⟨j, bz, rfl, hjL, HOKZ, BBz, BAz, CCz⟩ := hrel
      by_cases hlt : j < L
      · obtain ⟨q2, hq2⟩ : ∃ q2 : Nat, (j : Int) / 8 = q2 := ⟨j / 8, by omega⟩
        have hq216 : q2 < 16 := by omega
        have hq24 : Hid (s6 = true ∨ q2 < 4) := by rcases HL6.out with h | h; exact .inl h; exact .inr (by omega)
        have jz : (0 : Int) ≤ j := by omega
        have j0 : (0 : Int) ≤ (j : Int) % 8 := by omega
        have j1 : (j : Int) % 8 < 8 := by omega
        have hjL2 : (j : Int) < L := by omega
        obtain ⟨y, hy⟩ : ∃ y, at_ bz q2 = y := ⟨_, rfl⟩
        obtain ⟨y0, y1⟩ := HOKZ.out.1.at hq216
        rw [hy] at y0 y1
        have HY : Hid ((addrC s6 bz)[1 + q2]? = some (.int .u8 y)) := by rw [← hy]; exact addrC_byte (by rw [HOKZ.out.1.1]; exact hq216)
        have HIBb := hid (addr_inf (six := s6) HOKZ.out.1.1)
        have ltb := BBz.lt
        have hneb : W.heap.size ≤ gb ∧ W.heap.size ≠ gb := HNB.out
        clear hy
        go_wp2_with (first
          | (refine wpList_loadB rfl 29 _ rfl gb 29 (addrC s6 bz) _ rfl BBz Tryd.underlying29 rfl HIBb.out ?_)
          | (go_at_call 24; (with_reducible refine (HBL.out _ _).mono ?_); rintro e w9 ⟨rfl, C9⟩; have BA9 := BAz.ch C9 (by simp); have BB9 := BBz.ch C9 (by simp); have CC9 := CCz.trans C9; have hcx : w9.cell? ⟨gb, 1 + q2, none⟩ = some (.int .u8 y) := (BB9.cell _).trans HY.out; have hfx : w9.frozen? ⟨gb, 1 + q2, none⟩ = false := BB9.frozen _))
        go_roundw
        case rel =>
          refine ⟨j + 1, bz.set q2 (bits BinOp.or IntKind.u8 y (2 ^ (7 - j % 8) % 256)), by go_num, by omega, ok_set HOKZ.out hq24.out (bits_u8 _ _ _), ?_, BA9.far (p := ⟨gb, 1 + q2, none⟩) hneb.2 _, CC9.setCell (p := ⟨gb, 1 + q2, none⟩) (.inr hneb.1) _⟩
          rw [← addr_set]; exact BB9.set _ _
        case measure => simp [intOf]; omega
      · obtain rfl : j = L := by omega
        have hokb := HOKZ.out
        have HIBc := hid (addr_inf (six := s6) hokb.1.1)
        clear HOKZ
        go_upto_region 11 with (first
          | (refine wpList_loadB rfl 29 _ rfl gb 29 (addrC s6 bz) _ rfl BBz Tryd.underlying29 rfl HIBc.out ?_)
          | (go_at_call 24; (with_reducible refine (HBL.out _ _).mono ?_); rintro e w9 ⟨rfl, C9⟩; replace BAz := BAz.ch C9 (by simp); replace BBz := BBz.ch C9 (by simp); replace CCz := CCz.trans C9; clear C9))
        clear HIBc
        have HIBb := hid (addr_inf (six := s6) hokb.1.1)
        go_wp2_with (first
          | (refine wpList_loadB rfl 29 _ rfl W.heap.size 29 (addrC six av) _ rfl BAz Tryd.underlying29 rfl HIA.out ?_)
          | (go_at_call 25; (with_reducible refine (HSA.out _).mono ?_); rintro e w7 ⟨rfl, C7⟩; have BA7 := BAz.ch C7 (by simp); have BB7 := BBz.ch C7 (by simp); have CC7 := CCz.trans C7; have lt7 := BA7.lt; have lt8 := BB7.lt; have sz7 := CC7.size)
          | (refine wpList_storeB rfl 29 _ _ rfl w7.heap.size 29 (addrC false zeros) (addrC s7 cv) rfl rfl (Blk.new _ _ _) HIC.out ((addr_len (six := false) (bs := zeros) rfl).trans (addr_len HLC.out).symm) (addr_one' _ _) ?_; intro w8 BC8 C8 Z8; clear Z8; have BA8 := (BA7.alloc _).ch C8 (by simp; omega); have BB8 := (BB7.alloc _).ch C8 (by simp; omega); have CC8 := (CC7.alloc _).step C8 (fun i hi => .inr (by simp at hi; omega))))
        try simp only [Act.put]
        have HRA : Hid (∀ w', Ch [] w8 w' → w'.rangeAt W.heap.size 0 (addrC six av)) := fun w' h => (BA8.ch h (by simp)).range
        have HRB : Hid (∀ w', Ch [] w8 w' → w'.rangeAt gb 0 (addrC s6 bz)) := fun w' h => (BB8.ch h (by simp)).range
        have HRC : Hid (∀ w', Ch [] w8 w' → w'.rangeAt w7.heap.size 0 (addrC s7 cv)) := fun w' h => (BC8.ch h (by simp)).range
        have HIa := hid (blkIdx six av hga)
        have HIb := hid (blkIdx s6 bz hokb.1)
        have HIc := hid (blkIdx s7 cv hgc)
        have HRa := hid (refIdx six av hga)
        have HRb := hid (refIdx s6 bz hokb.1)
        have HRc := hid (refIdx s7 cv hgc)
        have HCa := hid (blkCont six av hga)
        have HCb := hid (blkCont s6 bz hokb.1)
        have HVa := hid (refValid six av hga.1)
        rw [hokb.2, Bool.not_true, Bool.or_false] at HCb
        obtain ⟨gc, hgcz⟩ : ∃ gc, w7.heap.size = gc := ⟨_, rfl⟩
        rw [hgcz] at HRC ⊢
        clear hgcz BA8 BB8 BC8 BA7 BB7 BAz BBz hokb HVS
        generalize idxP six av blkT 0 = X at HIa HRa HCa
        generalize idxP s6 bz blkT 0 = Y at HIb HRb HCb
        generalize idxP s7 cv blkT 0 = Z at HIc HRc
        generalize validA six av = V at HVa HCa
        generalize addrC six av = ca at HRA HIA HIa HRa HCa HVa
        generalize addrC s6 bz = cb at HRB HIBb HIb HRb HCb
        generalize addrC s7 cv = cc at HRC HIC HIc HRc
        by_cases hX : 0 ≤ X
        · have hd : decide (0 ≤ X) = true := by simpa using hX
          rw [hd, Bool.true_or] at HCa
          refine wp_region_quietA (w8) (by kernel_rfl) (by kernel_rfl) (Ch.refl _ _) ?_
          repeat (first
            | (go_big_quiet_want; refine quiet_rowA 29 _ rfl W.heap.size 0 rfl ca _ HRA.out Tryd.underlying29 rfl HIA.out ?_; simp only [Act.put, List.setIfInBounds_toArray, List.set_cons_succ, List.set_cons_zero]; go_big_quiet_on)
            | (go_big_quiet_want; refine quiet_rowA 29 _ rfl gb 0 rfl cb _ HRB.out Tryd.underlying29 rfl HIBb.out ?_; simp only [Act.put, List.setIfInBounds_toArray, List.set_cons_succ, List.set_cons_zero]; go_big_quiet_on)
            | (go_big_quiet_want; refine quiet_rowA 29 _ rfl gc 0 rfl cc _ HRC.out Tryd.underlying29 rfl HIC.out ?_; simp only [Act.put, List.setIfInBounds_toArray, List.set_cons_succ, List.set_cons_zero]; go_big_quiet_on)
            | go_big_quiet_step (first
              | (go_at_call 26; with_reducible exact after_of (awake11 _))
              | (go_at_call 27; with_reducible exact after_of (HIa.out _))
              | (go_at_call 27; with_reducible exact after_of (HIb.out _))
              | (go_at_call 27; with_reducible exact after_of (HIc.out _))
              | (go_at_call 28; with_reducible exact after_of (HRa.out _))
              | (go_at_call 28; with_reducible exact after_of (HRb.out _))
              | (go_at_call 28; with_reducible exact after_of (HRc.out _))
              | (go_at_call 29; with_reducible exact after_of (HCa.out _))
              | (go_at_call 29; with_reducible exact after_of (HCb.out _))
              | (go_at_call 30; with_reducible exact after_of (HVa.out _))))
          refine wpQuiet_nil ?_
          intro wq hwq
          go_wp2_with fail
          go_ret
          exact ⟨rfl, (CC8.trans hwq).nil_below⟩
        · have hd : decide (0 ≤ X) = false := by simpa using hX
          rw [hd, Bool.false_or] at HCa
          refine wp_region_quietA (w8) (by kernel_rfl) (by kernel_rfl) (Ch.refl _ _) ?_
          repeat (first
            | (go_big_quiet_want; refine quiet_rowA 29 _ rfl W.heap.size 0 rfl ca _ HRA.out Tryd.underlying29 rfl HIA.out ?_; simp only [Act.put, List.setIfInBounds_toArray, List.set_cons_succ, List.set_cons_zero]; go_big_quiet_on)
            | (go_big_quiet_want; refine quiet_rowA 29 _ rfl gb 0 rfl cb _ HRB.out Tryd.underlying29 rfl HIBb.out ?_; simp only [Act.put, List.setIfInBounds_toArray, List.set_cons_succ, List.set_cons_zero]; go_big_quiet_on)
            | (go_big_quiet_want; refine quiet_rowA 29 _ rfl gc 0 rfl cc _ HRC.out Tryd.underlying29 rfl HIC.out ?_; simp only [Act.put, List.setIfInBounds_toArray, List.set_cons_succ, List.set_cons_zero]; go_big_quiet_on)
            | go_big_quiet_step (first
              | (go_at_call 26; with_reducible exact after_of (awake11 _))
              | (go_at_call 27; with_reducible exact after_of (HIa.out _))
              | (go_at_call 27; with_reducible exact after_of (HIb.out _))
              | (go_at_call 27; with_reducible exact after_of (HIc.out _))
              | (go_at_call 28; with_reducible exact after_of (HRa.out _))
              | (go_at_call 28; with_reducible exact after_of (HRb.out _))
              | (go_at_call 28; with_reducible exact after_of (HRc.out _))
              | (go_at_call 29; with_reducible exact after_of (HCa.out _))
              | (go_at_call 29; with_reducible exact after_of (HCb.out _))
              | (go_at_call 30; with_reducible exact after_of (HVa.out _))))
          refine wpQuiet_nil ?_
          intro wq hwq
          go_wp2_with fail
          go_ret
          exact ⟨rfl, (CC8.trans hwq).nil_below⟩
end Go.Proofs.YtjabeabbaambcaaDoor
