/- The walk of TrieLongestMatch (printed by mk_lawtr1.py). -/
import Derived.Test.YtjpiekljjhgmoaaDoorLawTr0
import Derived.Test.YtjpiekljjhgmoaaDoorLmP
import Derived.Test.YtjpiekljjhgmoaaDoorTrFnI
import Derived.Test.YtjpiekljjhgmoaaDoorGenS
import Derived.Test.YtjpiekljjhgmoaaDoorMB
import Derived.Test.YtjpiekljjhgmoaaDoorMD
import Derived.Test.YtjpiekljjhgmoaaDoorRefPfx
import Derived.Test.YtjpiekljjhgmoaaDoorRows
import Derived.Deep.DeepCutAuto
import Derived.Deep.CutRange
namespace Go.Proofs.YtjpiekljjhgmoaaDoor
open Go.ChangeShapes Go.WideShapes Go.ChangeAt Go.RowKit

theorem genModAs (v n r : Int) (hr : modI v n = r) (w : World) (h0 : 0 < n) (h1 : n ≤ 9223372036854775807) :
    Calls Tryd.prog 9 #[.int .i64 v, .int .i64 n] w fun e w' => e = .returned (.int .i64 r) ∧ w = w' := by
  subst hr; exact genMod v n w h0 h1
def seenC (sn : Nat → Bool) : List Value := (List.range 129).map fun k => Value.bool (sn k)
theorem seenC_at (sn : Nat → Bool) {k : Nat} (hk : k < 129) : (seenC sn)[k]? = some (.bool (sn k)) := by
  unfold seenC
  rw [List.getElem?_map, List.getElem?_range hk]
  rfl
theorem seenC_set (sn : Nat → Bool) (n : Nat) : (seenC sn).set n (.bool true) = seenC (upd sn n) := by
  unfold seenC
  apply List.ext_getElem?
  intro i
  by_cases hi : i < 129
  · rw [List.getElem?_set]
    by_cases e : n = i
    · subst e
      simp [hi, upd]
    · rw [if_neg e, List.getElem?_map, List.getElem?_map, List.getElem?_range hi]
      simp [upd, Ne.symm e]
  · rw [List.getElem?_eq_none (by simp; omega), List.getElem?_eq_none (by simp; omega)]
theorem seenC_new : seenC (fun _ => false) = [.bool false, .bool false, .bool false, .bool false, .bool false, .bool false, .bool false, .bool false, .bool false, .bool false, .bool false, .bool false, .bool false, .bool false, .bool false, .bool false, .bool false, .bool false, .bool false, .bool false, .bool false, .bool false, .bool false, .bool false, .bool false, .bool false, .bool false, .bool false, .bool false, .bool false, .bool false, .bool false, .bool false, .bool false, .bool false, .bool false, .bool false, .bool false, .bool false, .bool false, .bool false, .bool false, .bool false, .bool false, .bool false, .bool false, .bool false, .bool false, .bool false, .bool false, .bool false, .bool false, .bool false, .bool false, .bool false, .bool false, .bool false, .bool false, .bool false, .bool false, .bool false, .bool false, .bool false, .bool false, .bool false, .bool false, .bool false, .bool false, .bool false, .bool false, .bool false, .bool false, .bool false, .bool false, .bool false, .bool false, .bool false, .bool false, .bool false, .bool false, .bool false, .bool false, .bool false, .bool false, .bool false, .bool false, .bool false, .bool false, .bool false, .bool false, .bool false, .bool false, .bool false, .bool false, .bool false, .bool false, .bool false, .bool false, .bool false, .bool false, .bool false, .bool false, .bool false, .bool false, .bool false, .bool false, .bool false, .bool false, .bool false, .bool false, .bool false, .bool false, .bool false, .bool false, .bool false, .bool false, .bool false, .bool false, .bool false, .bool false, .bool false, .bool false, .bool false, .bool false, .bool false, .bool false, .bool false, .bool false, .bool false] := by kernel_rfl

set_option maxRecDepth 100000 in
set_option maxHeartbeats 16000000 in
theorem trieLongestMatch_came {H : Type} {enc : TypeId × Value → H} (W : World) (args : Array Value) (ds : List (DataW H)) (_ : laidMetH Tryd.prog Rows.trieLongestMatchRow.laid W) (h : Came enc Tryd.prog Tryd.f3 W args ds) :
    Calls Tryd.prog 3 args W fun e W' => e = .returned (.bool true) ∧ Below W.heap.size W W' := by
  obtain ⟨v0, v1, v2, d0, d1, d2, rfl, a0, a1, a2⟩ := h.args3 rfl
  obtain ⟨six, bs, rfl, hg1⟩ := a0.addr
  obtain ⟨A, n, cap, zs, rfl, hn1, hn2, _, hrm⟩ := a1.ints Tryd.underlying25 Tryd.underlying3 (by kernel_rfl)
  obtain ⟨s2, b2, rfl, hg2⟩ := a2.addr
  clear h a0 a1 a2
  have HZ := hid hrm.1
  unfold maxLen at hn2
  obtain ⟨hgx, hvx⟩ := (vldA_good (six := six) hg1).1, (vldA_good (six := six) hg1).2
  have HVX := hid (genValid six bs hg1)
  have HVY := hid (genValid s2 b2 hg2)
  have HIA := hid (addr_inf (six := six) hg1.1)
  have HIB := hid (addr_inf (six := s2) hg2.1)
  have HIX := hid (addr_inf (six := six) hgx.1)
  have C0 : Ch [] W ((W.alloc (.cells (addrC six bs).toArray 24)).alloc (.cells (addrC s2 b2).toArray 24)) := ((Ch.refl _ _).alloc _).alloc _
  have BA : Blk ((W.alloc (.cells (addrC six bs).toArray 24)).alloc (.cells (addrC s2 b2).toArray 24)) W.heap.size 24 (addrC six bs) := (Blk.new W _ _).alloc _
  have BB : Blk ((W.alloc (.cells (addrC six bs).toArray 24)).alloc (.cells (addrC s2 b2).toArray 24)) (W.heap.size + 1) 24 (addrC s2 b2) := Blk.newAt _ _ _ (by simp)
  obtain ⟨xs, hxs⟩ : ∃ xs, vldA six bs = xs := ⟨_, rfl⟩
  rw [hxs] at hgx hvx HVX HIX
  clear hxs
  have HLX : Hid ((addrC false zeros).length = (addrC six xs).length) := (addr_len (six := false) (bs := zeros) rfl).trans (addr_len hgx.1).symm
  have HGX := hid hgx
  have HVXA := hid hvx
  clear hgx hvx hrm
  go_enter Tryd.func3, Tryd.ntmps3
  go_upto_region 6 with (first
    | (go_at_call 7; (with_reducible refine (trNewFI _).mono ?_); rintro e w1 ⟨rfl, P0, C1⟩; rw [World.size_alloc, World.size_alloc] at P0; replace C0 := C0.trans C1; replace BA := BA.ch C1 (by simp); replace BB := BB.ch C1 (by simp))
    | (refine wpList_load_want rfl 24 _ rfl W.heap.size 0 rfl (addrC six bs) _ BA.range Tryd.underlying24 rfl HIA.out ?_)
    | (go_at_call 8; (with_reducible refine (HVX.out _).mono ?_); rintro e w2 ⟨rfl, C2⟩; replace C0 := C0.trans C2; replace BA := BA.ch C2 (by simp); replace BB := BB.ch C2 (by simp); replace P0 := P0.nil C2; have ltb := BB.lt; have ltp := P0.lt _ (List.mem_singleton_self _))
    | (refine wpList_storeB rfl 24 _ _ rfl w2.heap.size 24 (addrC false zeros) (addrC six xs) rfl rfl (Blk.new _ _ _) HIX.out HLX.out (addr_one' _ _) ?_; intro w3 BX C3 Z3; replace C3 := ((Ch.refl [] w2).alloc _).step C3 (fun i hi => .inr (by simp at hi; omega)); replace C0 := C0.trans C3; replace BB := BB.ch C3 (by simp); replace P0 := P0.nil C3; clear Z3)
    | (refine wpList_load_want rfl 24 _ rfl w2.heap.size 0 rfl (addrC six xs) _ BX.range Tryd.underlying24 rfl HIX.out ?_)
    | (refine wpList_storeB rfl 24 _ _ rfl w3.heap.size 24 (addrC false zeros) (addrC six xs) rfl rfl (Blk.new _ _ _) HIX.out HLX.out (addr_one' _ _) ?_; intro w4 BY C4 Z4; have lt3 := BX.lt; replace C4 := ((Ch.refl [] w3).alloc _).step C4 (fun i hi => .inr (by simp at hi; omega)); replace C0 := C0.trans C4; replace BB := BB.ch C4 (by simp); replace BX := BX.ch C4 (by simp); replace P0 := P0.nil C4; clear Z4))
  generalize hgx : w2.heap.size = gx at BX lt3 ltb ltp ⊢
  generalize hgy : w3.heap.size = gy at BY lt3 ⊢
  have lt4 := BY.lt
  generalize hgt : W.heap.size + 1 + 1 = gt at P0 ltp ⊢
  have HGT : Hid (W.heap.size < gt) := by show _ < _; omega
  clear hgx hgy hgt C1 C2 C3 C4
  have k5 : w4.cell? ⟨W.heap.size + 1, 0, none⟩ = some (.bool s2) := BB.cell 0
  have k8 : w4.cell? ⟨gx, 0, none⟩ = some (.bool six) := BX.cell 0
  go_upto_if 30 with fail
  generalize hq6 : (s2 == six) = q6
  have HQ6 := hid hq6
  clear hq6
  go_cut [] (fun wx => ∃ ys, GoodA ys ∧ validA six ys = true ∧ Blk wx gx 24 (addrC six xs) ∧ Blk wx gy 24 (addrC six ys) ∧ TrMI wx gt (fun _ => none) 0 [gt] ∧ Ch [] W wx)
  case first =>
    cases q6
    · go_wp2_with fail
      go_meet
      exact ⟨xs, HGX.out, HVXA.out, BX, BY, P0, C0⟩
    · obtain rfl : s2 = six := by have := HQ6.out; simpa using this
      obtain ⟨hgy2, hvy2⟩ := (vldA_good (six := s2) hg2).1, (vldA_good (six := s2) hg2).2
      have HGY := hid hgy2
      have HVYA := hid hvy2
      have HIY := hid (addr_inf (six := s2) hgy2.1)
      have HLY : Hid ((addrC s2 xs).length = (addrC s2 (vldA s2 b2)).length) := (addr_len HGX.out.1).trans (addr_len hgy2.1).symm
      clear hgy2 hvy2
      go_wp2_with (first
        | (refine wpList_load_want rfl 24 _ rfl (W.heap.size + 1) 0 rfl (addrC s2 b2) _ BB.range Tryd.underlying24 rfl HIB.out ?_)
        | (go_at_call 8; (with_reducible refine (HVY.out _).mono ?_); rintro e w5 ⟨rfl, C5⟩; replace C0 := C0.trans C5; replace BX := BX.ch C5 (by simp); replace BY := BY.ch C5 (by simp); replace P0 := P0.nil C5)
        | (refine wpList_storeB rfl 24 _ _ rfl gy 24 (addrC s2 xs) (addrC s2 (vldA s2 b2)) rfl rfl BY HIY.out HLY.out (addr_one' _ _) ?_; intro w6 BY6 C6 Z6))
      go_meet
      exact ⟨vldA s2 b2, HGY.out, HVYA.out, BX.ch C6 (fun h => by rw [List.mem_singleton] at h; omega), BY6, P0.ch C6 (fun b hb h => by rw [List.mem_singleton] at h hb; omega), C0.step C6 (fun i hi => .inr (by rw [List.mem_singleton] at hi; have := HGT.out; omega))⟩
  case rest =>
    obtain ⟨ys, hgy, hvy, BX', BY', P1, C1⟩ := hcut
    clear BX BY P0 C0 BA BB k5 k8 HVX HVY
    go_upto_region 10 with fail
    have hvyz := hvy
    have HGY := hid hgy
    have HVYA := hid hvy
    have HIY := hid (addr_inf (six := six) hgy.1)
    have BS : Blk (wc.alloc (.cells Tryd.zeroCells29 29)) wc.heap.size 29 (seenC fun _ => false) := by
      have : Tryd.zeroCells29 = (seenC fun _ => false).toArray := by kernel_rfl
      rw [this]
      exact Blk.new wc _ _
    obtain ⟨C, hC⟩ : ∃ C : Nat → Bool, ∀ k : Nat, contP (six, truncL xs k, (k : Int)) six ys = C k := ⟨_, fun _ => rfl⟩
    have hCd : ∀ k, k ≤ bitN six → C k = decide (truncL ys k = truncL xs k) := fun k hk => by
      rw [← hC, cont_six (okP_of HGX.out HVXA.out (by rw [bitN_eq]; omega)).v hvy (by simp)]
    have HC := hid hC
    have HCD := hid hCd
    have M0 := hid (MapOk.new six ys C)
    have hb128 : bitN six ≤ 128 := by cases six <;> decide
    have T0 := P1.nil ((Ch.refl [] wc).alloc (.cells Tryd.zeroCells29 29))
    have X0 := BX'.alloc (.cells Tryd.zeroCells29 29)
    have Y0 := BY'.alloc (.cells Tryd.zeroCells29 29)
    have D0 := C1.alloc (.cells Tryd.zeroCells29 29)
    have hgs : gt < wc.heap.size := P1.lt _ (List.mem_singleton_self _)
    have hgxl := BX'.lt
    have hgyl := BY'.lt
    generalize hgs' : wc.heap.size = gs at BS hgs hgxl hgyl ⊢
    generalize hws : wc.alloc (.cells Tryd.zeroCells29 29) = ws at BS T0 X0 Y0 D0 ⊢
    have HGS : Hid (gs ≤ ws.heap.size) := by show _ ≤ _; have := BS.lt; omega
    have HNE : Hid (gx ≠ gs ∧ gy ≠ gs ∧ W.heap.size ≤ gs) := by show _ ∧ _; have := HGT.out; omega
    clear hgs' hws hgy hvy hvyz hC hCd BX' BY' P1 C1
    go_wp2_with fail
    go_loopw [10, 11, 13] (fun be mn i wr => ∃ (k : Nat) (sn : Nat → Bool) (m : KM) (nt : Nat) (F : List Nat) (bv : Int) (mv : Nat), be = .int .i64 bv ∧ mn = .int .i64 mv ∧ i = .int .i64 k ∧ k ≤ n ∧ k ≤ 60 ∧ Hid (bestL (hitL sn C (bitN six + 1)) = bv) ∧ Hid ((hitL sn C (bitN six + 1)).length = mv) ∧ mv ≤ k ∧ Hid (MapOk m six ys sn C) ∧ TrMI wr gt m nt F ∧ nt ≤ k ∧ Hid (∀ b ∈ F, W.heap.size ≤ b ∧ b ≠ gx ∧ b ≠ gy ∧ b ≠ gs) ∧ Blk wr gx 24 (addrC six xs) ∧ Blk wr gy 24 (addrC six ys) ∧ Blk wr gs 29 (seenC sn) ∧ Ch [] W wr) (fun _ _ i _ => 60 - (intOf i).toNat)
    case atStart =>
      have h0 : ∀ N, hitL (fun _ => false) C N = [] := fun N => by simp [hitL]
      exact ⟨0, fun _ => false, _, 0, [gt], -1, 0, rfl, rfl, rfl, by omega, by omega, (by show _ = _; rw [h0]; rfl), (by show _ = _; rw [h0]; rfl), by omega, M0, T0, by omega, fun b hb => by rw [List.mem_singleton] at hb; have := HGT.out; omega, X0, Y0, BS, D0⟩
    case round =>
      clear BS T0 X0 Y0 D0 M0
      obtain ⟨k, sn, m, nt, F, bv, mv, rfl, rfl, rfl, hk, hk60, HBV, HMV, hmv, HM, TX, hnt, HF, XX, YY, SS, CX⟩ := hrel
      by_cases hlt : k < n
      · by_cases hl6 : k < 60
        · obtain ⟨b, off, rfl, hb, hz⟩ := HZ.out.at_ hlt
          obtain ⟨z, hzz⟩ : ∃ z, at_ zs k = z := ⟨_, rfl⟩
          rw [hzz] at hz
          have kz : ∀ y : After wr, y.w.cell? ⟨b, off + k, none⟩ = some (.int .i64 z) := fun y => ((CX.trans y.ch).cell hb (by simp)).trans hz
          obtain ⟨N0, hN0⟩ : ∃ N0, bitN six = N0 := ⟨_, rfl⟩
          have HBL : Hid (∀ w, Calls Tryd.prog 10 #[.agg (addrC six xs).toArray] w fun e w' => e = .returned (.int .i64 N0) ∧ Ch [] w w') := fun w => by
            have := bitLenR six xs w
            rw [bitN_eq, hN0] at this
            exact this
          have hN128 : N0 ≤ 128 := by omega
          obtain ⟨p0, p1⟩ := modI_rng z ((N0 : Int) + 1) (by omega)
          obtain ⟨nn, hnn⟩ := Int.eq_ofNat_of_zero_le p0
          have hnl : nn ≤ N0 := by omega
          have HMD : Hid (∀ w, Calls Tryd.prog 9 #[.int .i64 z, .int .i64 ((N0 : Int) + 1)] w fun e w' => e = .returned (.int .i64 nn) ∧ Ch [] w w') := fun w => (genModAs z ((N0 : Int) + 1) nn hnn w (by omega) (by omega)).mono fun e w' h => ⟨h.1, h.2 ▸ Ch.refl _ _⟩
          have HMW : Hid (∀ w, Calls Tryd.prog 9 #[.int .i64 z, .int .i64 (IntKind.i64.wrap ((N0 : Int) + 1))] w fun e w' => e = .returned (.int .i64 nn) ∧ Ch [] w w') := by
            show ∀ w, _
            rw [wrapI _ (by omega) (by omega)]
            exact HMD.out
          have HRX : Hid (∀ w', Ch [] wr w' → w'.rangeAt gx 0 (addrC six xs)) := fun w' c => (XX.ch c (by simp)).range
          have hi0 : (0 : Int) ≤ k := by omega
          have hi1 : (k : Int) < n := by omega
          have hi2 : (k : Int) < 60 := by omega
          clear hz hzz p0 p1 hnn
          go_upto_region 13 with fail
          refine wp_region_quietA (wr) (by kernel_rfl) (by kernel_rfl) (Ch.refl _ _) ?_
          repeat (first
            | (go_big_quiet_want; refine quiet_rowA 24 _ rfl gx 0 rfl (addrC six xs) _ HRX.out Tryd.underlying24 rfl HIX.out ?_; simp only [Act.put, List.setIfInBounds_toArray, List.set_cons_succ, List.set_cons_zero]; go_big_quiet_on)
            | go_big_quiet_step (first
              | (go_at_call 10; with_reducible exact after_of (HBL.out _))
              | (go_at_call 9; with_reducible exact after_of (HMD.out _))
              | (go_at_call 9; with_reducible exact after_of (HMW.out _))))
          refine wpQuiet_nil ?_
          intro wq hwq
          replace XX := XX.ch hwq (by simp)
          replace YY := YY.ch hwq (by simp)
          replace SS := SS.ch hwq (by simp)
          replace TX := TX.nil hwq
          replace CX := CX.trans hwq
          have hnL : (nn : Int) ≤ bitL six := by rw [bitN_eq]; omega
          have HRP := hid (refPfxOf six xs HGX.out HVXA.out nn hnL)
          have hok := okP_of HGX.out HVXA.out hnL
          have HOK := hid hok
          have HKEY : Hid (keyP (six, truncL xs nn, (nn : Int)) = keyA six xs nn) := keyP_of HGX.out hnL
          have HIP := hid (pfx_inf (p := (six, truncL xs nn, (nn : Int))) hok.g.1)
          have HLP : Hid ((pfxC (false, zeros, 0)).length = (pfxC (six, truncL xs nn, (nn : Int))).length) := by show _ = _; rw [pfx_len hok.g.1]; rfl
          have HCO : Hid (∀ w, Calls Tryd.prog 13 #[.agg (pfxC (six, truncL xs nn, (nn : Int))).toArray, .agg (addrC six ys).toArray] w fun e w' => e = .returned (.bool (C nn)) ∧ Ch [] w w') := fun w => by
            rw [← HC.out nn]
            exact refContPfx six (truncL xs nn) nn hok.g six ys HGY.out w
          have HSC : Hid ((seenC sn)[nn]? = some (.bool (sn nn))) := seenC_at sn (by omega)
          have hnt2 : 0 ≤ (nt : Int) ∧ (nt : Int) ≤ 1000000 := by omega
          have hmvi : (mv : Int) ≤ 60 := by omega
          clear hok kz hnL
          cases hc : C nn with
          | false =>
            rw [hc] at HCO
            have HCN := hid hc
            clear hc
            go_wp2_with (first
              | (refine wpList_load_want rfl 24 _ rfl gx 0 rfl (addrC six xs) _ XX.range Tryd.underlying24 rfl HIX.out ?_)
              | (go_at_call 11; (with_reducible refine (HRP.out _).mono ?_); rintro e w5 ⟨rfl, C5⟩; replace TX := TX.nil C5; replace XX := XX.ch C5 (by simp); replace YY := YY.ch C5 (by simp); replace SS := SS.ch C5 (by simp); replace CX := CX.trans C5; have nP : w5.heap.size ∉ F := fun h => Nat.lt_irrefl _ (TX.lt _ h))
              | (refine wpList_storeB rfl 33 _ _ rfl w5.heap.size 33 (pfxC (false, zeros, 0)) (pfxC (six, truncL xs nn, (nn : Int))) rfl rfl (Blk.new _ _ _) HIP.out HLP.out (pfx_one _) ?_; intro w6 BP C6 Z6; clear Z6; replace C6 := ((Ch.refl [] w5).alloc _).step C6 (fun i hi => .inr (by simp at hi; omega)); replace TX := TX.nil C6; replace XX := XX.ch C6 (by simp); replace YY := YY.ch C6 (by simp); replace SS := SS.ch C6 (by simp); replace CX := CX.trans C6)
              | (refine wpList_load_want rfl 33 _ rfl w5.heap.size 0 rfl (pfxC (six, truncL xs nn, (nn : Int))) _ BP.range Tryd.underlying33 rfl HIP.out ?_)
              | (refine wpList_load_want rfl 24 _ rfl gy 0 rfl (addrC six ys) _ YY.range Tryd.underlying24 rfl HIY.out ?_)
              | (go_at_call 12; (with_reducible refine (trInsFI TX hnt2 _ HOK.out nn).mono ?_); rintro e w7 ⟨rfl, F', T7, C7, hF'⟩; have lx := XX.lt; have ly := YY.lt; have ls := SS.lt; have sx := CX.size; replace BP := BP.ch C7 nP; replace XX := XX.ch C7 (fun h => (HF.out _ h).2.1 rfl); replace YY := YY.ch C7 (fun h => (HF.out _ h).2.2.1 rfl); replace SS := SS.ch C7 (fun h => (HF.out _ h).2.2.2 rfl); replace CX := CX.step C7 (fun i hi => .inr (HF.out i hi).1))
              | (go_at_call 13; (with_reducible refine (HCO.out _).mono ?_); rintro e w8 ⟨rfl, C8⟩; replace T7 := T7.nil C8; replace XX := XX.ch C8 (by simp); replace YY := YY.ch C8 (by simp); replace SS := SS.ch C8 (by simp); replace CX := CX.trans C8; have ec := (SS.cell nn).trans (HSC.out); have fc := SS.frozen nn)
              | (refine wpList_max rfl _ _ _ rfl .i64 .i64 _ _ _ rfl rfl rfl ?_))
            go_roundw
            case rel =>
              have hT8 := T7
              rw [HKEY.out] at hT8
              obtain ⟨nt2, hnt3, hnt4⟩ : ∃ nt2 : Nat, (if m (keyA six xs nn) = none then (nt : Int) + 1 else nt) = (nt2 : Int) ∧ nt2 ≤ nt + 1 := by
                split
                · exact ⟨nt + 1, by simp, by omega⟩
                · exact ⟨nt, rfl, by omega⟩
              rw [hnt3] at hT8
              have hgF : gs ∉ F' := fun h => (hF' _ h).elim (fun h => (HF.out _ h).2.2.2 rfl) (fun h => by omega)
              refine ⟨k + 1, upd sn nn, _, nt2, F', bv, mv, rfl, rfl, by go_num, by omega, by omega, ?_, ?_, by omega, HM.out.step HGX.out HGY.out HCD.out (by omega), hT8.ch ((Ch.refl [gs] w8).setCell (p := ⟨gs, nn, none⟩) (.inl (by simp)) (.bool true)) (fun b hb h => hgF (by rw [List.mem_singleton] at h; exact h ▸ hb)), by omega, fun b hb => ?_, XX.far (fun h => by simp only at h; have := HNE.out; omega) _, YY.far (fun h => by simp only at h; have := HNE.out; omega) _, ?_, CX.setCell (.inr (by have := HNE.out; simp only; omega)) _⟩
              · show _ = _
                rw [hitL_off (.inl HCN.out)]; exact HBV.out
              · show _ = _
                rw [hitL_off (.inl HCN.out)]; exact HMV.out
              · rcases hF' b hb with h | h
                · exact HF.out b h
                · omega
              · have := SS.set nn (.bool true)
                rw [seenC_set] at this
                exact this
            case measure => simp [intOf]; omega
          | true =>
            rw [hc] at HCO
            have HCN := hid hc
            clear hc
            cases hs : sn nn with
            | false =>
              rw [hs] at HSC
              have HSN := hid hs
              clear hs
              go_wp2_with (first
                | (refine wpList_load_want rfl 24 _ rfl gx 0 rfl (addrC six xs) _ XX.range Tryd.underlying24 rfl HIX.out ?_)
                | (go_at_call 11; (with_reducible refine (HRP.out _).mono ?_); rintro e w5 ⟨rfl, C5⟩; replace TX := TX.nil C5; replace XX := XX.ch C5 (by simp); replace YY := YY.ch C5 (by simp); replace SS := SS.ch C5 (by simp); replace CX := CX.trans C5; have nP : w5.heap.size ∉ F := fun h => Nat.lt_irrefl _ (TX.lt _ h))
                | (refine wpList_storeB rfl 33 _ _ rfl w5.heap.size 33 (pfxC (false, zeros, 0)) (pfxC (six, truncL xs nn, (nn : Int))) rfl rfl (Blk.new _ _ _) HIP.out HLP.out (pfx_one _) ?_; intro w6 BP C6 Z6; clear Z6; replace C6 := ((Ch.refl [] w5).alloc _).step C6 (fun i hi => .inr (by simp at hi; omega)); replace TX := TX.nil C6; replace XX := XX.ch C6 (by simp); replace YY := YY.ch C6 (by simp); replace SS := SS.ch C6 (by simp); replace CX := CX.trans C6)
                | (refine wpList_load_want rfl 33 _ rfl w5.heap.size 0 rfl (pfxC (six, truncL xs nn, (nn : Int))) _ BP.range Tryd.underlying33 rfl HIP.out ?_)
                | (refine wpList_load_want rfl 24 _ rfl gy 0 rfl (addrC six ys) _ YY.range Tryd.underlying24 rfl HIY.out ?_)
                | (go_at_call 12; (with_reducible refine (trInsFI TX hnt2 _ HOK.out nn).mono ?_); rintro e w7 ⟨rfl, F', T7, C7, hF'⟩; have lx := XX.lt; have ly := YY.lt; have ls := SS.lt; have sx := CX.size; replace BP := BP.ch C7 nP; replace XX := XX.ch C7 (fun h => (HF.out _ h).2.1 rfl); replace YY := YY.ch C7 (fun h => (HF.out _ h).2.2.1 rfl); replace SS := SS.ch C7 (fun h => (HF.out _ h).2.2.2 rfl); replace CX := CX.step C7 (fun i hi => .inr (HF.out i hi).1))
                | (go_at_call 13; (with_reducible refine (HCO.out _).mono ?_); rintro e w8 ⟨rfl, C8⟩; replace T7 := T7.nil C8; replace XX := XX.ch C8 (by simp); replace YY := YY.ch C8 (by simp); replace SS := SS.ch C8 (by simp); replace CX := CX.trans C8; have ec := (SS.cell nn).trans (HSC.out); have fc := SS.frozen nn)
                | (refine wpList_max rfl _ _ _ rfl .i64 .i64 _ _ _ rfl rfl rfl ?_))
              go_roundw
              case rel =>
                have hT8 := T7
                rw [HKEY.out] at hT8
                obtain ⟨nt2, hnt3, hnt4⟩ : ∃ nt2 : Nat, (if m (keyA six xs nn) = none then (nt : Int) + 1 else nt) = (nt2 : Int) ∧ nt2 ≤ nt + 1 := by
                  split
                  · exact ⟨nt + 1, by simp, by omega⟩
                  · exact ⟨nt, rfl, by omega⟩
                rw [hnt3] at hT8
                have hgF : gs ∉ F' := fun h => (hF' _ h).elim (fun h => (HF.out _ h).2.2.2 rfl) (fun h => by omega)
                refine ⟨k + 1, upd sn nn, _, nt2, F', max bv nn, mv + 1, rfl, by go_num, by go_num, by omega, by omega, ?_, ?_, by omega, HM.out.step HGX.out HGY.out HCD.out (by omega), hT8.ch ((Ch.refl [gs] w8).setCell (p := ⟨gs, nn, none⟩) (.inl (by simp)) (.bool true)) (fun b hb h => hgF (by rw [List.mem_singleton] at h; exact h ▸ hb)), by omega, fun b hb => ?_, XX.far (fun h => by simp only at h; have := HNE.out; omega) _, YY.far (fun h => by simp only at h; have := HNE.out; omega) _, ?_, CX.setCell (.inr (by have := HNE.out; simp only; omega)) _⟩
                · show _ = _
                  rw [bestL_upd HCN.out _ (by omega), HBV.out]
                · show _ = _
                  rw [hitL_len HCN.out HSN.out, HMV.out, if_pos (by omega)]
                · rcases hF' b hb with h | h
                  · exact HF.out b h
                  · omega
                · have := SS.set nn (.bool true)
                  rw [seenC_set] at this
                  exact this
              case measure => simp [intOf]; omega
            | true =>
              rw [hs] at HSC
              have HSN := hid hs
              clear hs
              go_wp2_with (first
                | (refine wpList_load_want rfl 24 _ rfl gx 0 rfl (addrC six xs) _ XX.range Tryd.underlying24 rfl HIX.out ?_)
                | (go_at_call 11; (with_reducible refine (HRP.out _).mono ?_); rintro e w5 ⟨rfl, C5⟩; replace TX := TX.nil C5; replace XX := XX.ch C5 (by simp); replace YY := YY.ch C5 (by simp); replace SS := SS.ch C5 (by simp); replace CX := CX.trans C5; have nP : w5.heap.size ∉ F := fun h => Nat.lt_irrefl _ (TX.lt _ h))
                | (refine wpList_storeB rfl 33 _ _ rfl w5.heap.size 33 (pfxC (false, zeros, 0)) (pfxC (six, truncL xs nn, (nn : Int))) rfl rfl (Blk.new _ _ _) HIP.out HLP.out (pfx_one _) ?_; intro w6 BP C6 Z6; clear Z6; replace C6 := ((Ch.refl [] w5).alloc _).step C6 (fun i hi => .inr (by simp at hi; omega)); replace TX := TX.nil C6; replace XX := XX.ch C6 (by simp); replace YY := YY.ch C6 (by simp); replace SS := SS.ch C6 (by simp); replace CX := CX.trans C6)
                | (refine wpList_load_want rfl 33 _ rfl w5.heap.size 0 rfl (pfxC (six, truncL xs nn, (nn : Int))) _ BP.range Tryd.underlying33 rfl HIP.out ?_)
                | (refine wpList_load_want rfl 24 _ rfl gy 0 rfl (addrC six ys) _ YY.range Tryd.underlying24 rfl HIY.out ?_)
                | (go_at_call 12; (with_reducible refine (trInsFI TX hnt2 _ HOK.out nn).mono ?_); rintro e w7 ⟨rfl, F', T7, C7, hF'⟩; have lx := XX.lt; have ly := YY.lt; have ls := SS.lt; have sx := CX.size; replace BP := BP.ch C7 nP; replace XX := XX.ch C7 (fun h => (HF.out _ h).2.1 rfl); replace YY := YY.ch C7 (fun h => (HF.out _ h).2.2.1 rfl); replace SS := SS.ch C7 (fun h => (HF.out _ h).2.2.2 rfl); replace CX := CX.step C7 (fun i hi => .inr (HF.out i hi).1))
                | (go_at_call 13; (with_reducible refine (HCO.out _).mono ?_); rintro e w8 ⟨rfl, C8⟩; replace T7 := T7.nil C8; replace XX := XX.ch C8 (by simp); replace YY := YY.ch C8 (by simp); replace SS := SS.ch C8 (by simp); replace CX := CX.trans C8; have ec := (SS.cell nn).trans (HSC.out); have fc := SS.frozen nn)
                | (refine wpList_max rfl _ _ _ rfl .i64 .i64 _ _ _ rfl rfl rfl ?_))
              go_roundw
              case rel =>
                have hT8 := T7
                rw [HKEY.out] at hT8
                obtain ⟨nt2, hnt3, hnt4⟩ : ∃ nt2 : Nat, (if m (keyA six xs nn) = none then (nt : Int) + 1 else nt) = (nt2 : Int) ∧ nt2 ≤ nt + 1 := by
                  split
                  · exact ⟨nt + 1, by simp, by omega⟩
                  · exact ⟨nt, rfl, by omega⟩
                rw [hnt3] at hT8
                have hgF : gs ∉ F' := fun h => (hF' _ h).elim (fun h => (HF.out _ h).2.2.2 rfl) (fun h => by omega)
                refine ⟨k + 1, upd sn nn, _, nt2, F', max bv nn, mv, rfl, rfl, by go_num, by omega, by omega, ?_, ?_, by omega, HM.out.step HGX.out HGY.out HCD.out (by omega), hT8.ch ((Ch.refl [gs] w8).setCell (p := ⟨gs, nn, none⟩) (.inl (by simp)) (.bool true)) (fun b hb h => hgF (by rw [List.mem_singleton] at h; exact h ▸ hb)), by omega, fun b hb => ?_, XX.far (fun h => by simp only at h; have := HNE.out; omega) _, YY.far (fun h => by simp only at h; have := HNE.out; omega) _, ?_, CX.setCell (.inr (by have := HNE.out; simp only; omega)) _⟩
                · show _ = _
                  rw [bestL_upd HCN.out _ (by omega), HBV.out]
                · show _ = _
                  rw [hitL_off (.inr HSN.out)]; exact HMV.out
                · rcases hF' b hb with h | h
                  · exact HF.out b h
                  · omega
                · have := SS.set nn (.bool true)
                  rw [seenC_set] at this
                  exact this
              case measure => simp [intOf]; omega
        · obtain rfl : k = 60 := by omega
          have hi1 : ((60 : Nat) : Int) < n := by omega
          go_upto_region 22 with fail
          have HMKM := HM.out.mk HVYA.out
          rcases List.eq_nil_or_concat (hitL sn C (bitN six + 1)) with hh | ⟨l', kk, hh⟩
          · have hbv := HBV.out
            have hmv0 := HMV.out
            rw [hh] at hbv hmv0 HMKM
            obtain rfl : bv = -1 := hbv.symm
            obtain rfl : mv = 0 := hmv0.symm
            have HMK : Hid (mK m six ys = []) := HMKM
            have HLEN : Hid (([] : List (Nat × Value)).length = 0) := rfl
            have HIQ := hid (pfx_inf (p := (false, zeros, 0)) rfl)
            have H17 : Hid ((pfxC (false, zeros, 0))[17]? = some (.int .i64 0)) := rfl
            clear hh hbv hmv0 HMKM HBV HMV
            go_upto_region 23 with (first
              | (refine wpList_load_want rfl 24 _ rfl gy 0 rfl (addrC six ys) _ YY.range Tryd.underlying24 rfl HIY.out ?_)
              | (go_at_call 14; (with_reducible refine (trLookNI TX HGY.out HMK.out).mono ?_); rintro e w9 ⟨rfl, C9⟩; replace TX := TX.nil C9; replace YY := YY.ch C9 (by simp); replace CX := CX.trans C9)
              | (refine wpList_storeB rfl 33 _ _ rfl w9.heap.size 33 (pfxC (false, zeros, 0)) (pfxC (false, zeros, 0)) rfl rfl (Blk.new _ _ _) HIQ.out rfl (pfx_one _) ?_; intro w10 PP C10 Z10; clear Z10; replace C10 := ((Ch.refl [] w9).alloc _).step C10 (fun i hi => .inr (by simp at hi; omega)); replace TX := TX.nil C10; replace YY := YY.ch C10 (by simp); replace CX := CX.trans C10))
            have e17 := (PP.cell 17).trans H17.out
            go_wp2_with (first
              | go_big_skip
              | (refine wpList_load_want rfl 24 _ rfl gy 0 rfl (addrC six ys) _ YY.range Tryd.underlying24 rfl HIY.out ?_)
              | (go_at_call 15; (with_reducible refine (awake10 _).mono ?_); rintro e x0 ⟨rfl, D0⟩; replace YY := YY.ch D0 (by simp); replace PP := PP.ch D0 (by simp); replace TX := TX.nil D0; replace CX := CX.trans D0; have e17_0 := (PP.cell 17).trans H17.out)
              | (go_at_call 16; (with_reducible refine (trMtsFI TX HGY.out HMK.out).mono ?_); rintro e x2 ⟨A9, c9, rfl, own9, D2⟩; simp only [HLEN.out]; replace YY := YY.ch D2 (by simp); replace PP := PP.ch D2 (by simp); replace TX := TX.nil D2; replace CX := CX.trans D2; have e17_2 := (PP.cell 17).trans H17.out))
            go_ret
            exact ⟨rfl, CX.nil_below⟩
          · rw [List.concat_eq_append] at hh
            have hbv := HBV.out
            have hmv0 := HMV.out
            rw [hh] at hbv hmv0 HMKM
            rw [bestL_append] at hbv
            obtain rfl : bv = kk := hbv.symm
            rw [List.map_append] at HMKM
            have HMK : Hid (mK m six ys = (l'.map fun k : Nat => (k, Value.int .i64 (k : Int))) ++ [(kk, Value.int .i64 (kk : Int))]) := HMKM
            have HLEN : Hid (((l'.map fun k : Nat => (k, Value.int .i64 (k : Int))) ++ [(kk, Value.int .i64 (kk : Int))]).length = mv) := by show _ = _; rw [← hmv0]; simp
            have hkk : kk ≤ bitN six := by
              have : kk ∈ hitL sn C (bitN six + 1) := by rw [hh]; simp
              have := List.mem_range.1 (List.mem_filter.1 this).1
              omega
            have hkL : (kk : Int) ≤ bitL six := by rw [bitN_eq]; omega
            have hokk := okP_of HGY.out HVYA.out hkL
            have HIQ : Hid ((Tryd.prog.info? 33).map (·.size) = some (pfxC (kPfx six ys (kk, Value.int .i64 (kk : Int)))).length) := pfx_inf (p := (six, truncL ys kk, (kk : Int))) hokk.g.1
            have HLQ : Hid ((pfxC (false, zeros, 0)).length = (pfxC (kPfx six ys (kk, Value.int .i64 (kk : Int)))).length) := by
              show _ = (pfxC (six, truncL ys kk, (kk : Int))).length
              rw [pfx_len hokk.g.1]; rfl
            have H17 : Hid ((pfxC (kPfx six ys (kk, Value.int .i64 (kk : Int))))[17]? = some (.int .i64 kk)) := pfx_bits (p := (six, truncL ys kk, (kk : Int))) hokk.g.1
            have HCN : Hid (∀ w, Calls Tryd.prog 13 #[.agg (pfxC (kPfx six ys (kk, Value.int .i64 (kk : Int)))).toArray, .agg (addrC six ys).toArray] w fun e w' => e = .returned (.bool true) ∧ Ch [] w w') := fun w => by
              have := refContPfx six (truncL ys kk) kk hokk.g six ys HGY.out w
              rw [cont_six hokk.v HVYA.out (by simp), decide_eq_true rfl] at this
              exact this
            have hkk0 : (kk : Int) ≥ 0 := by omega
            clear hh hbv hmv0 HMKM HBV HMV hkk hkL hokk
            go_upto_region 23 with (first
              | (refine wpList_load_want rfl 24 _ rfl gy 0 rfl (addrC six ys) _ YY.range Tryd.underlying24 rfl HIY.out ?_)
              | (go_at_call 14; (with_reducible refine (trLookSI TX HGY.out HMK.out).mono ?_); rintro e w9 ⟨rfl, C9⟩; replace TX := TX.nil C9; replace YY := YY.ch C9 (by simp); replace CX := CX.trans C9)
              | (refine wpList_storeB rfl 33 _ _ rfl w9.heap.size 33 (pfxC (false, zeros, 0)) (pfxC (kPfx six ys (kk, Value.int .i64 (kk : Int)))) rfl rfl (Blk.new _ _ _) HIQ.out HLQ.out (pfx_one _) ?_; intro w10 PP C10 Z10; clear Z10; replace C10 := ((Ch.refl [] w9).alloc _).step C10 (fun i hi => .inr (by simp at hi; omega)); replace TX := TX.nil C10; replace YY := YY.ch C10 (by simp); replace CX := CX.trans C10))
            have e17 := (PP.cell 17).trans H17.out
            go_wp2_with (first
              | go_big_skip
              | (refine wpList_load_want rfl 33 _ rfl w9.heap.size 0 rfl (pfxC (kPfx six ys (kk, Value.int .i64 (kk : Int)))) _ PP.range Tryd.underlying33 rfl HIQ.out ?_)
              | (refine wpList_load_want rfl 24 _ rfl gy 0 rfl (addrC six ys) _ YY.range Tryd.underlying24 rfl HIY.out ?_)
              | (go_at_call 15; (with_reducible refine (awake10 _).mono ?_); rintro e x0 ⟨rfl, D0⟩; replace YY := YY.ch D0 (by simp); replace PP := PP.ch D0 (by simp); replace TX := TX.nil D0; replace CX := CX.trans D0; have e17_0 := (PP.cell 17).trans H17.out)
              | (go_at_call 13; (with_reducible refine (HCN.out _).mono ?_); rintro e x1 ⟨rfl, D1⟩; replace YY := YY.ch D1 (by simp); replace PP := PP.ch D1 (by simp); replace TX := TX.nil D1; replace CX := CX.trans D1; have e17_1 := (PP.cell 17).trans H17.out)
              | (go_at_call 16; (with_reducible refine (trMtsFI TX HGY.out HMK.out).mono ?_); rintro e x2 ⟨A9, c9, rfl, own9, D2⟩; simp only [HLEN.out]; replace YY := YY.ch D2 (by simp); replace PP := PP.ch D2 (by simp); replace TX := TX.nil D2; replace CX := CX.trans D2; have e17_2 := (PP.cell 17).trans H17.out))
            go_ret
            exact ⟨rfl, CX.nil_below⟩
      · obtain rfl : k = n := by omega
        go_upto_region 22 with fail
        have HMKM := HM.out.mk HVYA.out
        rcases List.eq_nil_or_concat (hitL sn C (bitN six + 1)) with hh | ⟨l', kk, hh⟩
        · have hbv := HBV.out
          have hmv0 := HMV.out
          rw [hh] at hbv hmv0 HMKM
          obtain rfl : bv = -1 := hbv.symm
          obtain rfl : mv = 0 := hmv0.symm
          have HMK : Hid (mK m six ys = []) := HMKM
          have HLEN : Hid (([] : List (Nat × Value)).length = 0) := rfl
          have HIQ := hid (pfx_inf (p := (false, zeros, 0)) rfl)
          have H17 : Hid ((pfxC (false, zeros, 0))[17]? = some (.int .i64 0)) := rfl
          clear hh hbv hmv0 HMKM HBV HMV
          go_upto_region 23 with (first
            | (refine wpList_load_want rfl 24 _ rfl gy 0 rfl (addrC six ys) _ YY.range Tryd.underlying24 rfl HIY.out ?_)
            | (go_at_call 14; (with_reducible refine (trLookNI TX HGY.out HMK.out).mono ?_); rintro e w9 ⟨rfl, C9⟩; replace TX := TX.nil C9; replace YY := YY.ch C9 (by simp); replace CX := CX.trans C9)
            | (refine wpList_storeB rfl 33 _ _ rfl w9.heap.size 33 (pfxC (false, zeros, 0)) (pfxC (false, zeros, 0)) rfl rfl (Blk.new _ _ _) HIQ.out rfl (pfx_one _) ?_; intro w10 PP C10 Z10; clear Z10; replace C10 := ((Ch.refl [] w9).alloc _).step C10 (fun i hi => .inr (by simp at hi; omega)); replace TX := TX.nil C10; replace YY := YY.ch C10 (by simp); replace CX := CX.trans C10))
          have e17 := (PP.cell 17).trans H17.out
          go_wp2_with (first
            | go_big_skip
            | (refine wpList_load_want rfl 24 _ rfl gy 0 rfl (addrC six ys) _ YY.range Tryd.underlying24 rfl HIY.out ?_)
            | (go_at_call 15; (with_reducible refine (awake10 _).mono ?_); rintro e x0 ⟨rfl, D0⟩; replace YY := YY.ch D0 (by simp); replace PP := PP.ch D0 (by simp); replace TX := TX.nil D0; replace CX := CX.trans D0; have e17_0 := (PP.cell 17).trans H17.out)
            | (go_at_call 16; (with_reducible refine (trMtsFI TX HGY.out HMK.out).mono ?_); rintro e x2 ⟨A9, c9, rfl, own9, D2⟩; simp only [HLEN.out]; replace YY := YY.ch D2 (by simp); replace PP := PP.ch D2 (by simp); replace TX := TX.nil D2; replace CX := CX.trans D2; have e17_2 := (PP.cell 17).trans H17.out))
          go_ret
          exact ⟨rfl, CX.nil_below⟩
        · rw [List.concat_eq_append] at hh
          have hbv := HBV.out
          have hmv0 := HMV.out
          rw [hh] at hbv hmv0 HMKM
          rw [bestL_append] at hbv
          obtain rfl : bv = kk := hbv.symm
          rw [List.map_append] at HMKM
          have HMK : Hid (mK m six ys = (l'.map fun k : Nat => (k, Value.int .i64 (k : Int))) ++ [(kk, Value.int .i64 (kk : Int))]) := HMKM
          have HLEN : Hid (((l'.map fun k : Nat => (k, Value.int .i64 (k : Int))) ++ [(kk, Value.int .i64 (kk : Int))]).length = mv) := by show _ = _; rw [← hmv0]; simp
          have hkk : kk ≤ bitN six := by
            have : kk ∈ hitL sn C (bitN six + 1) := by rw [hh]; simp
            have := List.mem_range.1 (List.mem_filter.1 this).1
            omega
          have hkL : (kk : Int) ≤ bitL six := by rw [bitN_eq]; omega
          have hokk := okP_of HGY.out HVYA.out hkL
          have HIQ : Hid ((Tryd.prog.info? 33).map (·.size) = some (pfxC (kPfx six ys (kk, Value.int .i64 (kk : Int)))).length) := pfx_inf (p := (six, truncL ys kk, (kk : Int))) hokk.g.1
          have HLQ : Hid ((pfxC (false, zeros, 0)).length = (pfxC (kPfx six ys (kk, Value.int .i64 (kk : Int)))).length) := by
            show _ = (pfxC (six, truncL ys kk, (kk : Int))).length
            rw [pfx_len hokk.g.1]; rfl
          have H17 : Hid ((pfxC (kPfx six ys (kk, Value.int .i64 (kk : Int))))[17]? = some (.int .i64 kk)) := pfx_bits (p := (six, truncL ys kk, (kk : Int))) hokk.g.1
          have HCN : Hid (∀ w, Calls Tryd.prog 13 #[.agg (pfxC (kPfx six ys (kk, Value.int .i64 (kk : Int)))).toArray, .agg (addrC six ys).toArray] w fun e w' => e = .returned (.bool true) ∧ Ch [] w w') := fun w => by
            have := refContPfx six (truncL ys kk) kk hokk.g six ys HGY.out w
            rw [cont_six hokk.v HVYA.out (by simp), decide_eq_true rfl] at this
            exact this
          have hkk0 : (kk : Int) ≥ 0 := by omega
          clear hh hbv hmv0 HMKM HBV HMV hkk hkL hokk
          go_upto_region 23 with (first
            | (refine wpList_load_want rfl 24 _ rfl gy 0 rfl (addrC six ys) _ YY.range Tryd.underlying24 rfl HIY.out ?_)
            | (go_at_call 14; (with_reducible refine (trLookSI TX HGY.out HMK.out).mono ?_); rintro e w9 ⟨rfl, C9⟩; replace TX := TX.nil C9; replace YY := YY.ch C9 (by simp); replace CX := CX.trans C9)
            | (refine wpList_storeB rfl 33 _ _ rfl w9.heap.size 33 (pfxC (false, zeros, 0)) (pfxC (kPfx six ys (kk, Value.int .i64 (kk : Int)))) rfl rfl (Blk.new _ _ _) HIQ.out HLQ.out (pfx_one _) ?_; intro w10 PP C10 Z10; clear Z10; replace C10 := ((Ch.refl [] w9).alloc _).step C10 (fun i hi => .inr (by simp at hi; omega)); replace TX := TX.nil C10; replace YY := YY.ch C10 (by simp); replace CX := CX.trans C10))
          have e17 := (PP.cell 17).trans H17.out
          go_wp2_with (first
            | go_big_skip
            | (refine wpList_load_want rfl 33 _ rfl w9.heap.size 0 rfl (pfxC (kPfx six ys (kk, Value.int .i64 (kk : Int)))) _ PP.range Tryd.underlying33 rfl HIQ.out ?_)
            | (refine wpList_load_want rfl 24 _ rfl gy 0 rfl (addrC six ys) _ YY.range Tryd.underlying24 rfl HIY.out ?_)
            | (go_at_call 15; (with_reducible refine (awake10 _).mono ?_); rintro e x0 ⟨rfl, D0⟩; replace YY := YY.ch D0 (by simp); replace PP := PP.ch D0 (by simp); replace TX := TX.nil D0; replace CX := CX.trans D0; have e17_0 := (PP.cell 17).trans H17.out)
            | (go_at_call 13; (with_reducible refine (HCN.out _).mono ?_); rintro e x1 ⟨rfl, D1⟩; replace YY := YY.ch D1 (by simp); replace PP := PP.ch D1 (by simp); replace TX := TX.nil D1; replace CX := CX.trans D1; have e17_1 := (PP.cell 17).trans H17.out)
            | (go_at_call 16; (with_reducible refine (trMtsFI TX HGY.out HMK.out).mono ?_); rintro e x2 ⟨A9, c9, rfl, own9, D2⟩; simp only [HLEN.out]; replace YY := YY.ch D2 (by simp); replace PP := PP.ch D2 (by simp); replace TX := TX.nil D2; replace CX := CX.trans D2; have e17_2 := (PP.cell 17).trans H17.out))
          go_ret
          exact ⟨rfl, CX.nil_below⟩
end Go.Proofs.YtjpiekljjhgmoaaDoor
