/- The walk of AclNameDecision (printed by mk_lawacl1.py). -/
import Derived.Test.YtbmbnibamhgfmaaGreatDoorLawAcl0
import Derived.Test.YtbmbnibamhgfmaaGreatDoorML
import Derived.Test.YtbmbnibamhgfmaaGreatDoorMD
import Derived.Test.YtbmbnibamhgfmaaGreatDoorRows
import Derived.Deep.DeepCutAuto
import Derived.Deep.CutRange
namespace Go.Proofs.YtbmbnibamhgfmaaGreatDoor
open Go.ChangeShapes Go.WideShapes Go.ChangeAt Go.RowKit

set_option maxRecDepth 100000 in
set_option maxHeartbeats 16000000 in
theorem aclNameDecision_came {H : Type} {enc : TypeId × Value → H} (W : World) (args : Array Value) (ds : List (DataW H)) (_ : laidMetH Tryz.prog Rows.aclNameDecisionRow.laid W) (h : Came enc Tryz.prog Tryz.f4 W args ds) :
    Calls Tryz.prog 4 args W fun e W' => e = .returned (.bool true) ∧ Below W.heap.size W W' := by
  obtain ⟨v0, v1, v2, v3, d0, d1, d2, d3, rfl, a0, a1, a2, a3⟩ := h.args4 rfl
  obtain ⟨s, rfl, hs⟩ := a1.string Tryz.underlying9
  obtain ⟨num, rfl, _, _⟩ := a2.i64 Tryz.underlying3
  obtain ⟨port, rfl, _, _⟩ := a3.i64 Tryz.underlying3
  obtain ⟨A, n, cap, l, rfl, hn1, hn2, hrl, hnl, hnm, hgl⟩ := a0.rules
  unfold maxLen at hn2
  have HGR : Hid (∀ w', Ch [] W w' → Calls Tryz.prog 9 #[.slice A n cap, .int .i64 12, .bool false] w' (RulesRes w' 12 false)) := fun w' hc => genRules w' A n cap W.heap.size l (hrl.ch hc (Nat.le_refl _) (by simp)) hc.size hnm hgl 12 (by decide) false
  clear hrl hgl hnl hnm
  clear h a0 a1 a2 a3
  have HSZ := hid hs
  clear hs
  have hhs := (hostS_ok num).2.2
  have HH := hid (genHostD num)
  generalize hostS num = hh at hhs HH
  have HSW : Hid (((⟨#[119, 46]⟩ : ByteArray) ++ hh).size ≤ 140737488351232) := by show ByteArray.size _ ≤ _; rw [ByteArray.size_append]; show 2 + _ ≤ _; omega
  have HSH : Hid (hh.size ≤ 140737488351232) := by show _ ≤ _; omega
  have hzz : ¬ 9223372036854775807 < 2 + hh.size := by omega
  clear hhs
  have CX : Ch [] W W := Ch.refl _ _
  go_enter Tryz.func4, Tryz.ntmps4
  go_upto_region 7 with (first
    | go_big_skip
    | (go_at_call 9; (with_reducible refine (HGR.out _ CX).mono ?_); rintro e w1 ⟨⟨A2, c2, L, rfl, own, hL, hok, _⟩, C1⟩; have HOK := hid hok; clear hok; replace CX := CX.trans C1; have hBA : W.heap.size ≤ w1.heap.size := CX.size; clear C1)
    | (go_at_call 10; (with_reducible refine (aclNewOk _ A2 c2 _ L own.rd (Nat.le_refl _) (by omega) HOK.out).mono ?_); rintro e w2 ⟨g, rfl, M, C2⟩; replace own := own.ch C2 (by simp); replace CX := CX.trans C2; clear C2)
    | (go_at_call 18; (with_reducible refine (HH.out _).mono ?_); rintro e w3 ⟨rfl, rfl⟩)
    | (go_at_call 12; (with_reducible refine (genPortE _ _).mono ?_); rintro e w3 ⟨⟨p, rfl, _, _⟩, rfl⟩))
  have HOK2 : Hid (∀ r ∈ L, validR r = true ∧ GoodR r) := HOK.out
  have H1A := hid (fun (w' : World) (x : Ch [] w2 w') => aclMatchN (M.nil x) (fun r hr => (HOK2.out r hr).2) (by omega) s HSZ.out port)
  have H1B := hid (fun (w' : World) (x : Ch [] w2 w') => refMatchN w' A2 L.length c2 _ L (own.rd.ch x (Nat.le_refl _) (by simp)) x.size (by omega) (fun r hr => (HOK2.out r hr).2) s HSZ.out port)
  have H1C := hid (fun (w' : World) (x : Ch [] w2 w') => aclAllowN (M.nil x) (fun r hr => (HOK2.out r hr).2) (by omega) s HSZ.out port)
  have H1D := hid (fun (w' : World) (x : Ch [] w2 w') => refAllowN w' A2 c2 _ L (own.rd.ch x (Nat.le_refl _) (by simp)) x.size (by omega) (fun r hr => (HOK2.out r hr).2) s HSZ.out port)
  generalize optI (bestB L (pN s port) rkN L.length) = i1 at H1A H1B
  generalize allowN L s port = b1 at H1C H1D
  have ni1 : (i1 != i1) = false := by simp
  have nb1 : (b1 != b1) = false := by simp
  have ei1 : (i1 == i1) = true := by simp
  have eb1 : (b1 == b1) = true := by simp
  have H2A := hid (fun (w' : World) (x : Ch [] w2 w') => aclMatchN (M.nil x) (fun r hr => (HOK2.out r hr).2) (by omega) hh HSH.out p)
  have H2B := hid (fun (w' : World) (x : Ch [] w2 w') => refMatchN w' A2 L.length c2 _ L (own.rd.ch x (Nat.le_refl _) (by simp)) x.size (by omega) (fun r hr => (HOK2.out r hr).2) hh HSH.out p)
  have H2C := hid (fun (w' : World) (x : Ch [] w2 w') => aclAllowN (M.nil x) (fun r hr => (HOK2.out r hr).2) (by omega) hh HSH.out p)
  have H2D := hid (fun (w' : World) (x : Ch [] w2 w') => refAllowN w' A2 c2 _ L (own.rd.ch x (Nat.le_refl _) (by simp)) x.size (by omega) (fun r hr => (HOK2.out r hr).2) hh HSH.out p)
  generalize optI (bestB L (pN hh p) rkN L.length) = i2 at H2A H2B
  generalize allowN L hh p = b2 at H2C H2D
  have ni2 : (i2 != i2) = false := by simp
  have nb2 : (b2 != b2) = false := by simp
  have ei2 : (i2 == i2) = true := by simp
  have eb2 : (b2 == b2) = true := by simp
  have H3A := hid (fun (w' : World) (x : Ch [] w2 w') => aclMatchN (M.nil x) (fun r hr => (HOK2.out r hr).2) (by omega) ((⟨#[119, 46]⟩ : ByteArray) ++ hh) HSW.out p)
  have H3B := hid (fun (w' : World) (x : Ch [] w2 w') => refMatchN w' A2 L.length c2 _ L (own.rd.ch x (Nat.le_refl _) (by simp)) x.size (by omega) (fun r hr => (HOK2.out r hr).2) ((⟨#[119, 46]⟩ : ByteArray) ++ hh) HSW.out p)
  have H3C := hid (fun (w' : World) (x : Ch [] w2 w') => aclAllowN (M.nil x) (fun r hr => (HOK2.out r hr).2) (by omega) ((⟨#[119, 46]⟩ : ByteArray) ++ hh) HSW.out p)
  have H3D := hid (fun (w' : World) (x : Ch [] w2 w') => refAllowN w' A2 c2 _ L (own.rd.ch x (Nat.le_refl _) (by simp)) x.size (by omega) (fun r hr => (HOK2.out r hr).2) ((⟨#[119, 46]⟩ : ByteArray) ++ hh) HSW.out p)
  generalize optI (bestB L (pN ((⟨#[119, 46]⟩ : ByteArray) ++ hh) p) rkN L.length) = i3 at H3A H3B
  generalize allowN L ((⟨#[119, 46]⟩ : ByteArray) ++ hh) p = b3 at H3C H3D
  have ni3 : (i3 != i3) = false := by simp
  have nb3 : (b3 != b3) = false := by simp
  have ei3 : (i3 == i3) = true := by simp
  have eb3 : (b3 == b3) = true := by simp
  have HAW := hid (fun (w' : World) (_ : Ch [] w2 w') => awake12 w')
  have CB := Ch.refl [] w2
  clear M own
  go_wp2_with (first
    | go_big_skip
    | (go_at_call 19; (with_reducible refine (H1A.out _ CB).mono ?_); rintro e wq ⟨rfl, C9⟩; replace CB := CB.trans C9; clear C9)
    | (go_at_call 20; (with_reducible refine (H1B.out _ CB).mono ?_); rintro e wq ⟨rfl, C9⟩; replace CB := CB.trans C9; clear C9)
    | (go_at_call 21; (with_reducible refine (H1C.out _ CB).mono ?_); rintro e wq ⟨rfl, C9⟩; replace CB := CB.trans C9; clear C9)
    | (go_at_call 22; (with_reducible refine (H1D.out _ CB).mono ?_); rintro e wq ⟨rfl, C9⟩; replace CB := CB.trans C9; clear C9)
    | (go_at_call 17; (with_reducible refine (HAW.out _ CB).mono ?_); rintro e wq ⟨rfl, C9⟩; replace CB := CB.trans C9; clear C9)
    | (go_at_call 19; (with_reducible refine (H2A.out _ CB).mono ?_); rintro e wq ⟨rfl, C9⟩; replace CB := CB.trans C9; clear C9)
    | (go_at_call 20; (with_reducible refine (H2B.out _ CB).mono ?_); rintro e wq ⟨rfl, C9⟩; replace CB := CB.trans C9; clear C9)
    | (go_at_call 21; (with_reducible refine (H2C.out _ CB).mono ?_); rintro e wq ⟨rfl, C9⟩; replace CB := CB.trans C9; clear C9)
    | (go_at_call 22; (with_reducible refine (H2D.out _ CB).mono ?_); rintro e wq ⟨rfl, C9⟩; replace CB := CB.trans C9; clear C9)
    | (go_at_call 19; (with_reducible refine (H3A.out _ CB).mono ?_); rintro e wq ⟨rfl, C9⟩; replace CB := CB.trans C9; clear C9)
    | (go_at_call 20; (with_reducible refine (H3B.out _ CB).mono ?_); rintro e wq ⟨rfl, C9⟩; replace CB := CB.trans C9; clear C9))
  go_ret
  exact ⟨by simp, (CX.trans CB).nil_below⟩
end Go.Proofs.YtbmbnibamhgfmaaGreatDoor
