/- The walk of AclTargetDecision (printed by mk_lawacl1.py). -/
import Derived.Test.YtbmbnibamhgfmaaGreatDoorLawAcl0
import Derived.Test.YtbmbnibamhgfmaaGreatDoorML
import Derived.Test.YtbmbnibamhgfmaaGreatDoorMD
import Derived.Test.YtbmbnibamhgfmaaGreatDoorRows
import Derived.Deep.DeepCutAuto
import Derived.Deep.CutRange
namespace Go.Proofs.YtbmbnibamhgfmaaGreatDoor
open Go.ChangeShapes Go.WideShapes Go.ChangeAt Go.RowKit

set_option maxRecDepth 100000 in
set_option maxHeartbeats 16000000 in
theorem aclTargetDecision_came {H : Type} {enc : TypeId × Value → H} (W : World) (args : Array Value) (ds : List (DataW H)) (_ : laidMetH Tryz.prog Rows.aclTargetDecisionRow.laid W) (h : Came enc Tryz.prog Tryz.f5 W args ds) :
    Calls Tryz.prog 5 args W fun e W' => e = .returned (.bool true) ∧ Below W.heap.size W W' := by
  obtain ⟨v0, v1, v2, v3, d0, d1, d2, d3, rfl, a0, a1, a2, a3⟩ := h.args4 rfl
  obtain ⟨t, rfl, hgt⟩ := a1.tg
  obtain ⟨num, rfl, _, _⟩ := a2.i64 Tryz.underlying3
  obtain ⟨all, rfl⟩ := a3.bool Tryz.underlying4
  obtain ⟨A, n, cap, l, rfl, hn1, hn2, hrl, hnl, hnm, hgl⟩ := a0.rules
  unfold maxLen at hn2
  have HGR : Hid (∀ w', Ch [] W w' → Calls Tryz.prog 9 #[.slice A n cap, .int .i64 10, .bool all] w' (RulesRes w' 10 all)) := fun w' hc => genRules w' A n cap W.heap.size l (hrl.ch hc (Nat.le_refl _) (by simp)) hc.size hnm hgl 10 (by decide) all
  clear hrl hgl hnl hnm
  have HGT := hid hgt
  clear h a0 a1 a2 a3 hgt
  have BT : Blk (W.alloc (.cells (tgC t).toArray 48)) W.heap.size 48 (tgC t) := Blk.new W _ _
  have CX : Ch [] W (W.alloc (.cells (tgC t).toArray 48)) := (Ch.refl _ _).alloc _
  have HIT := hid (tg_inf (t := t) HGT.out.1.1)
  go_enter Tryz.func5, Tryz.ntmps5
  go_upto_region 6 with (first
    | go_big_skip
    | (go_at_call 9; (with_reducible refine (HGR.out _ CX).mono ?_); rintro e w1 ⟨⟨A2, c2, L, rfl, own, hL, hok, _⟩, C1⟩; have HOK := hid hok; clear hok; replace CX := CX.trans C1; have hBA : W.heap.size ≤ w1.heap.size := CX.size; replace BT := BT.ch C1 (by simp); clear C1)
    | (go_at_call 10; (with_reducible refine (aclNewOk _ A2 c2 _ L own.rd (Nat.le_refl _) (by omega) HOK.out).mono ?_); rintro e w2 ⟨g, rfl, M, C2⟩; replace own := own.ch C2 (by simp); replace CX := CX.trans C2; replace BT := BT.ch C2 (by simp); clear C2)
    | (go_at_call 23; (with_reducible refine (genTg _ _).mono ?_); rintro e w3 ⟨⟨u, rfl, hu⟩, C3⟩; have HU := hid hu; have HIU := hid (tg_inf (t := u) hu.1.1); have HLU : Hid ((tgC (⟨#[]⟩, false, zeros, 0)).length = (tgC u).length) := (tg_len (t := (⟨#[]⟩, false, zeros, 0)) rfl).trans (tg_len (t := u) hu.1.1).symm; clear hu; replace own := own.ch C3 (by simp); replace M := M.nil C3; replace BT := BT.ch C3 (by simp); replace CX := CX.trans C3; clear C3)
    | (refine wpList_storeB rfl 48 _ _ rfl w3.heap.size 48 (tgC (⟨#[]⟩, false, zeros, 0)) (tgC u) rfl rfl (Blk.new _ _ _) HIU.out HLU.out (tg_one _) ?_; intro w4 BU D Z; clear Z; have D2 := ((Ch.refl [] w3).alloc _).step D (fun i hi => .inr (by simp at hi; omega)); clear D; replace own := own.ch D2 (by simp); replace M := M.nil D2; replace BT := BT.ch D2 (by simp); replace CX := CX.trans D2; clear D2))
  have HOK2 : Hid (∀ r ∈ L, validR r = true ∧ GoodR r) := HOK.out
  have H1 := hid (fun (x : After w4) => aclAllowT (M.nil x.ch) HOK2.out (by omega) t HGT.out)
  have H2 := hid (fun (x : After w4) => refAllowT x.w A2 c2 _ L (own.rd.ch x.ch (Nat.le_refl _) (by simp)) x.ch.size (by omega) (fun r hr => (HOK2.out r hr).2) t HGT.out)
  have H3 := hid (fun (x : After w4) => aclAllowT (M.nil x.ch) HOK2.out (by omega) u HU.out)
  have H4 := hid (fun (x : After w4) => refAllowT x.w A2 c2 _ L (own.rd.ch x.ch (Nat.le_refl _) (by simp)) x.ch.size (by omega) (fun r hr => (HOK2.out r hr).2) u HU.out)
  have HAW := hid (fun (x : After w4) => awake12 x.w)
  have HRT := hid (fun (w' : World) (c : Ch [] w4 w') => (BT.ch c (by simp)).range)
  have HRU := hid (fun (w' : World) (c : Ch [] w4 w') => (BU.ch c (by simp)).range)
  generalize allowT L t = r1 at H1 H2
  generalize allowT L u = r2 at H3 H4
  generalize w3.heap.size = gu at HRU ⊢
  clear M own BT BU
  generalize tgC t = ct at H1 H2 HIT HRT ⊢
  generalize tgC u = cu at H3 H4 HIU HRU ⊢
  try simp only [Act.put]
  refine wp_region_quietA (w4) (by kernel_rfl) (by kernel_rfl) (Ch.refl _ _) ?_
  repeat (first
    | (go_big_quiet_want; refine quiet_rowA 48 _ rfl W.heap.size 0 rfl ct _ HRT.out Tryz.underlying48 rfl HIT.out ?_; simp only [Act.put, List.setIfInBounds_toArray, List.set_cons_succ, List.set_cons_zero]; go_big_quiet_on)
    | (go_big_quiet_want; refine quiet_rowA 48 _ rfl gu 0 rfl cu _ HRU.out Tryz.underlying48 rfl HIU.out ?_; simp only [Act.put, List.setIfInBounds_toArray, List.set_cons_succ, List.set_cons_zero]; go_big_quiet_on)
    | go_big_quiet_step (first
      | (go_at_call 24; with_reducible exact after_of (H1.out _))
      | (go_at_call 24; with_reducible exact after_of (H3.out _))
      | (go_at_call 25; with_reducible exact after_of (H2.out _))
      | (go_at_call 25; with_reducible exact after_of (H4.out _))
      | (go_at_call 17; with_reducible exact after_of (HAW.out _))))
  refine wpQuiet_nil ?_
  intro wq hwq
  go_wp2_with fail
  go_ret
  exact ⟨by simp, (CX.trans hwq).nil_below⟩
end Go.Proofs.YtbmbnibamhgfmaaGreatDoor
