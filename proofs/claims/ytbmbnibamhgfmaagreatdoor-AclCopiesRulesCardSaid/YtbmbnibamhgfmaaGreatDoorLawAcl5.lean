/- The walk of AclCopiesRules (printed by mk_lawacl1.py). -/
import Derived.Test.YtbmbnibamhgfmaaGreatDoorLawAcl0
import Derived.Test.YtbmbnibamhgfmaaGreatDoorML
import Derived.Test.YtbmbnibamhgfmaaGreatDoorMD
import Derived.Test.YtbmbnibamhgfmaaGreatDoorSpareU
import Derived.Test.YtbmbnibamhgfmaaGreatDoorRows
import Derived.Deep.DeepCutAuto
import Derived.Deep.CutRange
namespace Go.Proofs.YtbmbnibamhgfmaaGreatDoor
open Go.ChangeShapes Go.WideShapes Go.ChangeAt Go.RowKit

set_option maxRecDepth 100000 in
set_option maxHeartbeats 16000000 in
theorem aclCopiesRules_came {H : Type} {enc : TypeId × Value → H} (W : World) (args : Array Value) (ds : List (DataW H)) (_ : laidMetH Tryz.prog Rows.aclCopiesRulesRow.laid W) (h : Came enc Tryz.prog Tryz.f7 W args ds) :
    Calls Tryz.prog 7 args W fun e W' => e = .returned (.bool true) ∧ Below W.heap.size W W' := by
  obtain ⟨v0, v1, v2, d0, d1, d2, rfl, a0, a1, a2⟩ := h.args3 rfl
  obtain ⟨six, bs, rfl, hga⟩ := a1.addr
  obtain ⟨port, rfl, _, _⟩ := a2.i64 Tryz.underlying3
  obtain ⟨A, n, cap, l, rfl, hn1, hn2, hrl, hnl, hnm, hgl⟩ := a0.rules
  unfold maxLen at hn2
  have HGR : Hid (∀ w', Ch [] W w' → Calls Tryz.prog 9 #[.slice A n cap, .int .i64 10, .bool true] w' (RulesRes w' 10 true)) := fun w' hc => genRules w' A n cap W.heap.size l (hrl.ch hc (Nat.le_refl _) (by simp)) hc.size hnm hgl 10 (by decide) true
  clear hrl hgl hnl hnm
  clear h a0 a1 a2
  have hgs := someA_good (six := six) hga
  have HSA := hid (genSome six bs hga)
  have HIT := hid (addr_inf (six := six) hga.1)
  have BT : Blk (W.alloc (.cells (addrC six bs).toArray 32)) W.heap.size 32 (addrC six bs) := Blk.new W _ _
  have CX : Ch [] W (W.alloc (.cells (addrC six bs).toArray 32)) := (Ch.refl _ _).alloc _
  generalize someA six bs = sa at hgs HSA
  generalize addrC six bs = ca at HSA HIT BT CX ⊢
  obtain ⟨s6, sv⟩ := sa
  have HGS : Hid (GoodA sv) := hgs
  replace HSA : Hid (∀ w, Calls Tryz.prog 11 #[.agg ca.toArray] w fun e w' => e = .returned (.agg (addrC s6 sv).toArray) ∧ Ch [] w w') := HSA
  have HIU := hid (addr_inf (six := s6) HGS.out.1)
  have HLU : Hid ((addrC false zeros).length = (addrC s6 sv).length) := (addr_len (six := false) (bs := zeros) rfl).trans (addr_len (six := s6) HGS.out.1).symm
  have HSP : Hid (∀ w A cap B (L : List Rl), Rd w B 22 A L.length (L.flatMap rulC) → B ≤ w.heap.size → L.length ≤ 1000000 → Calls Tryz.prog 27 #[.slice A L.length cap, .agg #[.bool false, .string ⟨#[122]⟩, .bool false, .int .u8 0, .int .u8 0, .int .u8 0, .int .u8 0, .int .u8 0, .int .u8 0, .int .u8 0, .int .u8 0, .int .u8 0, .int .u8 0, .int .u8 0, .int .u8 0, .int .u8 0, .int .u8 0, .int .u8 0, .int .u8 0, .int .i64 0, .int .i64 0, .int .i64 0]] w fun e w' => ∃ g cc, e = .returned (.slice (some ⟨g, 0, none⟩) L.length (L.length + 3)) ∧ Own w' w.heap.size 58 22 (some ⟨g, 0, none⟩) (L.length + 3) cc ((L ++ [fzU, fzU, fzU]).flatMap rulC) ∧ Ch [] w w') := fun w A cap B L h hB hl => spareU w A L.length cap B L h hB hl
  have HUN : Hid (∀ w A A' cap' B B' (L : List Rl), Rd w B 22 A (L.length + 3) ((L ++ [fzU, fzU, fzU]).flatMap rulC) → Rd w B' 22 A' L.length (L.flatMap rulC) → B ≤ w.heap.size → B' ≤ w.heap.size → L.length ≤ 1000000 → (∀ x ∈ L, x.2.2.1.2.1.length = 16) → Calls Tryz.prog 28 #[.slice A L.length (L.length + 3), .slice A' L.length cap', .agg #[.bool false, .string ⟨#[122]⟩, .bool false, .int .u8 0, .int .u8 0, .int .u8 0, .int .u8 0, .int .u8 0, .int .u8 0, .int .u8 0, .int .u8 0, .int .u8 0, .int .u8 0, .int .u8 0, .int .u8 0, .int .u8 0, .int .u8 0, .int .u8 0, .int .u8 0, .int .i64 0, .int .i64 0, .int .i64 0]] w fun e w' => e = .returned (.bool true) ∧ Ch [] w w') := fun w A A' cap' B B' L h h' hB hB' hl hG => sameSpareU w A A' L.length cap' B B' L h h' hB hB' hl hG
  clear hga hgs
  go_enter Tryz.func7, Tryz.ntmps7
  go_upto_region 6 with (first
    | go_big_skip
    | (go_at_call 9; (with_reducible refine (HGR.out _ CX).mono ?_); rintro e w1 ⟨⟨A2, c2, L, rfl, own, hL, hok, _⟩, C1⟩; have HOK := hid hok; clear hok; replace CX := CX.trans C1; have hBA : W.heap.size ≤ w1.heap.size := CX.size; replace BT := BT.ch C1 (by simp); clear C1)
    | (go_at_call 27; (with_reducible refine (HSP.out _ A2 c2 _ L own.rd (Nat.le_refl _) (by omega)).mono ?_); rintro e w2 ⟨go, cc, rfl, ownO, C2⟩; have hgo := ownO.blks go (by simp [blkOf]); have hob := own.blks; have hbt := BT.lt; replace own := own.ch C2 (by simp); replace BT := BT.ch C2 (by simp); replace CX := CX.trans C2; clear C2; have hLG : Hid (∀ r ∈ L, r.2.2.1.2.1.length = 16) := fun r hr => (HOK.out r hr).2.1.1; have HRO : Hid (Rd w2 w2.heap.size 22 (some ⟨go, 0, none⟩) L.length (L.flatMap rulC)) := Rd.frontS (m := 3) (ys := [fzU, fzU, fzU].flatMap rulC) (by rw [← List.flatMap_append]; exact ownO.rd) (rul_flat_len hLG.out))
    | (go_at_call 10; (with_reducible refine (aclNewOk _ (some ⟨go, 0, none⟩) (L.length + 3) _ L HRO.out (Nat.le_refl _) (by omega) HOK.out).mono ?_); rintro e w3 ⟨g, rfl, M, C3⟩; replace own := own.ch C3 (by simp); replace ownO := ownO.ch C3 (by simp); replace BT := BT.ch C3 (by simp); replace CX := CX.trans C3; have h3 := C3.size; clear C3)
    | (go_at_call 28; (with_reducible refine (HUN.out _ (some ⟨go, 0, none⟩) A2 c2 _ _ L ownO.rd own.rd (Nat.le_refl _) (Nat.le_refl _) (by omega) hLG.out).mono ?_); rintro e w4 ⟨rfl, C4⟩; replace own := own.ch C4 (by simp); replace ownO := ownO.ch C4 (by simp); replace M := M.nil C4; replace BT := BT.ch C4 (by simp); replace CX := CX.trans C4; have h4 := C4.size; clear C4))
  have HOV := hid (ovrU w4 go 0 L.length (L.length + 3) (there_sub ownO.there (by omega) (by omega)) (by omega) (by omega))
  have hnA : ∀ b ∈ blkOf A2, b ∉ [go] := fun b hb h => by rw [List.mem_singleton] at h; have := (hob b hb).2; omega
  have hnM : ∀ b ∈ newB w2 w3, b ∉ [go] := fun b hb h => by rw [List.mem_singleton] at h; have := (newB_ge hb).1; omega
  have hnT : W.heap.size ∉ [go] := fun h => by rw [List.mem_singleton] at h; omega
  have HNA := hid hnA
  have HNM := hid hnM
  have HNT := hid hnT
  clear hnA hnM hnT hob HUN HSP HRO ownO
  go_upto_region 8 with (first
    | go_big_skip
    | (go_at_call 29; (with_reducible refine HOV.out.mono ?_); rintro e w5 ⟨rfl, C5⟩; replace own := own.ch C5 HNA.out; replace M := M.ch C5 HNM.out; replace BT := BT.ch C5 HNT.out; replace CX := CX.step C5 (fun i hi => .inr (by rw [List.mem_singleton] at hi; omega)); clear C5)
    | (refine wpList_load_want rfl 32 _ rfl W.heap.size 0 rfl ca _ BT.range Tryz.underlying32 rfl HIT.out ?_)
    | (go_at_call 11; (with_reducible refine (HSA.out _).mono ?_); rintro e w6 ⟨rfl, C6⟩; replace own := own.ch C6 (by simp); replace M := M.nil C6; replace CX := CX.trans C6; clear C6)
    | (go_at_call 12; (with_reducible refine (genPortE _ _).mono ?_); rintro e w7 ⟨⟨p, rfl, _, _⟩, rfl⟩)
    | (refine wpList_storeB rfl 32 _ _ rfl w6.heap.size 32 (addrC false zeros) (addrC s6 sv) rfl rfl (Blk.new _ _ _) HIU.out HLU.out (addr_one' _ _) ?_; intro w8 BU D Z; clear Z; have D2 := ((Ch.refl [] w6).alloc _).step D (fun i hi => .inr (by simp at hi; omega)); clear D; replace own := own.ch D2 (by simp); replace M := M.nil D2; replace CX := CX.trans D2; clear D2))
  have HOK2 : Hid (∀ r ∈ L, validR r = true ∧ GoodR r) := HOK.out
  have hhs := (hostS_ok port).2.2
  have H1 := hid (fun (x : After w8) => aclAllowA (M.nil x.ch) HOK2.out (by omega) s6 sv HGS.out p)
  have H2 := hid (fun (x : After w8) => refAllowA x.w A2 c2 _ L (own.rd.ch x.ch (Nat.le_refl _) (by simp)) x.ch.size (by omega) (fun r hr => (HOK2.out r hr).2) s6 sv HGS.out p)
  have H3 := hid (fun (x : After w8) => aclAllowN (M.nil x.ch) (fun r hr => (HOK2.out r hr).2) (by omega) (hostS port) (by omega) p)
  have H4 := hid (fun (x : After w8) => refAllowN x.w A2 c2 _ L (own.rd.ch x.ch (Nat.le_refl _) (by simp)) x.ch.size (by omega) (fun r hr => (HOK2.out r hr).2) (hostS port) (by omega) p)
  have HH : Hid (∀ w, Calls Tryz.prog 18 #[.int .i64 port] w fun e w' => e = .returned (.string (hostS port)) ∧ Ch [] w w') := fun w => (genHostD port w).mono fun e w' ⟨h1, h2⟩ => ⟨h1, h2 ▸ Ch.refl _ _⟩
  have HAW := hid (fun (x : After w8) => awake12 x.w)
  have HRU := hid (fun (w' : World) (c : Ch [] w8 w') => (BU.ch c (by simp)).range)
  generalize w6.heap.size = gu at HRU ⊢
  generalize allowA L s6 sv p = r1 at H1 H2
  generalize allowN L (hostS port) p = r2 at H3 H4
  clear M own BU HSA HOV HLU hhs
  generalize addrC s6 sv = cu at H1 H2 HIU HRU ⊢
  generalize hostS port = hs at HH H3 H4
  have er1 : (r1 == r1) = true := by simp
  try simp only [Act.put, List.setIfInBounds_toArray, List.set_cons_succ, List.set_cons_zero]
  refine wp_region_quietA (w8) (by kernel_rfl) (by kernel_rfl) (Ch.refl _ _) ?_
  repeat (first
    | (go_big_quiet_want; refine quiet_rowA 32 _ rfl gu 0 rfl cu _ HRU.out Tryz.underlying32 rfl HIU.out ?_; simp only [Act.put, List.setIfInBounds_toArray, List.set_cons_succ, List.set_cons_zero]; go_big_quiet_on)
    | go_big_quiet_step (first
      | (go_at_call 17; with_reducible exact after_of (HAW.out _))
      | (go_at_call 15; with_reducible exact after_of (H1.out _))
      | (go_at_call 16; with_reducible exact after_of (H2.out _))
      | (go_at_call 18; with_reducible exact after_of (HH.out _))
      | (go_at_call 21; with_reducible exact after_of (H3.out _))
      | (go_at_call 22; with_reducible exact after_of (H4.out _))))
  refine wpQuiet_nil ?_
  intro wq hwq
  go_wp2_with fail
  go_ret
  exact ⟨by simp, (CX.trans hwq).nil_below⟩
end Go.Proofs.YtbmbnibamhgfmaaGreatDoor
