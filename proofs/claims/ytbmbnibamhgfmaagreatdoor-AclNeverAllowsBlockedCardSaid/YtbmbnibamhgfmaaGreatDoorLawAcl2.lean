/- The walk of AclNeverAllowsBlocked (printed by mk_lawacl1.py). -/
import Derived.Test.YtbmbnibamhgfmaaGreatDoorLawAcl0
import Derived.Test.YtbmbnibamhgfmaaGreatDoorML
import Derived.Test.YtbmbnibamhgfmaaGreatDoorMD
import Derived.Test.YtbmbnibamhgfmaaGreatDoorRows
import Derived.Deep.DeepCutAuto
import Derived.Deep.CutRange
namespace Go.Proofs.YtbmbnibamhgfmaaGreatDoor
open Go.ChangeShapes Go.WideShapes Go.ChangeAt Go.RowKit

set_option maxRecDepth 100000 in
set_option maxHeartbeats 16000000 in
theorem aclNeverAllowsBlocked_came {H : Type} {enc : TypeId × Value → H} (W : World) (args : Array Value) (ds : List (DataW H)) (_ : laidMetH Tryz.prog Rows.aclNeverAllowsBlockedRow.laid W) (h : Came enc Tryz.prog Tryz.f6 W args ds) :
    Calls Tryz.prog 6 args W fun e W' => e = .returned (.bool true) ∧ Below W.heap.size W W' := by
  obtain ⟨v0, v1, v2, d0, d1, d2, rfl, a0, a1, a2⟩ := h.args3 rfl
  obtain ⟨six, bs, rfl, hga⟩ := a1.addr
  obtain ⟨port, rfl, _, _⟩ := a2.i64 Tryz.underlying3
  obtain ⟨A, n, cap, l, rfl, hn1, hn2, hrl, hnl, hnm, hgl⟩ := a0.rules
  unfold maxLen at hn2
  have HGR : Hid (∀ w', Ch [] W w' → Calls Tryz.prog 9 #[.slice A n cap, .int .i64 10, .bool true] w' (RulesRes w' 10 true)) := fun w' hc => genRules w' A n cap W.heap.size l (hrl.ch hc (Nat.le_refl _) (by simp)) hc.size hnm hgl 10 (by decide) true
  clear hrl hgl hnl hnm
  clear h a0 a1 a2
  have HNO : Hid (∀ w, Calls Tryz.prog 10 #[.slice none 0 0] w fun e w' => ∃ g, e = .returned (.tuple #[.pointer (some ⟨g, 0, none⟩), .int .i64 0]) ∧ AclM w' g [] (newB w w') ∧ Ch [] w w') := fun w => aclNewOk w none 0 w.heap.size [] (Rd.nil _ _ _ _) (Nat.le_refl _) (by decide) (by simp)
  have hgs := someA_good (six := six) hga
  have HSA := hid (genSome six bs hga)
  have HIT := hid (addr_inf (six := six) hga.1)
  have BT : Blk (W.alloc (.cells (addrC six bs).toArray 32)) W.heap.size 32 (addrC six bs) := Blk.new W _ _
  have CX : Ch [] W (W.alloc (.cells (addrC six bs).toArray 32)) := (Ch.refl _ _).alloc _
  generalize someA six bs = sa at hgs HSA
  generalize addrC six bs = ca at HSA HIT BT CX ⊢
  obtain ⟨s6, sv⟩ := sa
  have HGS : Hid (GoodA sv) := hgs
  replace HSA : Hid (∀ w, Calls Tryz.prog 11 #[.agg ca.toArray] w fun e w' => e = .returned (.agg (addrC s6 sv).toArray) ∧ Ch [] w w') := HSA
  have HIU := hid (addr_inf (six := s6) HGS.out.1)
  have HLU : Hid ((addrC false zeros).length = (addrC s6 sv).length) := (addr_len (six := false) (bs := zeros) rfl).trans (addr_len (six := s6) HGS.out.1).symm
  clear hga hgs
  go_enter Tryz.func6, Tryz.ntmps6
  go_upto_region 7 with (first
    | go_big_skip
    | (go_at_call 9; (with_reducible refine (HGR.out _ CX).mono ?_); rintro e w1 ⟨⟨A2, c2, L, rfl, own, hL, hok, _⟩, C1⟩; have HOK := hid hok; clear hok; replace CX := CX.trans C1; have hBA : W.heap.size ≤ w1.heap.size := CX.size; replace BT := BT.ch C1 (by simp); clear C1)
    | (go_at_call 10; (with_reducible refine (aclNewOk _ A2 c2 _ L own.rd (Nat.le_refl _) (by omega) HOK.out).mono ?_); rintro e w2 ⟨g, rfl, M, C2⟩; replace own := own.ch C2 (by simp); replace CX := CX.trans C2; replace BT := BT.ch C2 (by simp); clear C2)
    | (go_at_call 10; (with_reducible refine (HNO.out _).mono ?_); rintro e w3 ⟨gy, rfl, MY, C3⟩; replace own := own.ch C3 (by simp); replace M := M.nil C3; replace BT := BT.ch C3 (by simp); replace CX := CX.trans C3; clear C3)
    | (refine wpList_load_want rfl 32 _ rfl W.heap.size 0 rfl ca _ BT.range Tryz.underlying32 rfl HIT.out ?_)
    | (go_at_call 11; (with_reducible refine (HSA.out _).mono ?_); rintro e w4 ⟨rfl, C4⟩; replace own := own.ch C4 (by simp); replace M := M.nil C4; replace MY := MY.nil C4; replace CX := CX.trans C4; clear C4)
    | (refine wpList_storeB rfl 32 _ _ rfl w4.heap.size 32 (addrC false zeros) (addrC s6 sv) rfl rfl (Blk.new _ _ _) HIU.out HLU.out (addr_one' _ _) ?_; intro w5 BU D Z; clear Z; have D2 := ((Ch.refl [] w4).alloc _).step D (fun i hi => .inr (by simp at hi; omega)); clear D; replace own := own.ch D2 (by simp); replace M := M.nil D2; replace MY := MY.nil D2; replace CX := CX.trans D2; clear D2))
  have HOK2 : Hid (∀ r ∈ L, validR r = true ∧ GoodR r) := HOK.out
  have HXA := hid (fun (w' : World) (x : Ch [] w5 w') => aclAllowA (M.nil x) HOK2.out (by omega) s6 sv HGS.out port)
  have HYA : Hid (∀ w', Ch [] w5 w' → Calls Tryz.prog 15 #[.pointer (some ⟨gy, 0, none⟩), .agg (addrC s6 sv).toArray, .int .i64 port] w' fun e w'' => e = .returned (.bool false) ∧ Ch [] w' w'') := fun w' x => aclAllowA (MY.nil x) (by simp) (by decide) s6 sv HGS.out port
  have HYM : Hid (∀ w', Ch [] w5 w' → Calls Tryz.prog 13 #[.pointer (some ⟨gy, 0, none⟩), .agg (addrC s6 sv).toArray, .int .i64 port] w' fun e w'' => e = .returned (.int .i64 (-1)) ∧ Ch [] w' w'') := fun w' x => aclMatchA (MY.nil x) (by simp) (by decide) s6 sv HGS.out port
  have HYN : Hid (∀ w', Ch [] w5 w' → Calls Tryz.prog 21 #[.pointer (some ⟨gy, 0, none⟩), .string (hostS port), .int .i64 port] w' fun e w'' => e = .returned (.bool true) ∧ Ch [] w' w'') := fun w' x => by
    have := aclAllowN (MY.nil x) (by simp) (by decide) (hostS port) (by have := (hostS_ok port).2.2; omega) port
    rwa [show allowN [] (hostS port) port = true by unfold allowN; rw [(hostS_ok port).1]; rfl] at this
  have HIX := hid (fun (w' : World) (_ : Ch [] w5 w') => refIdx s6 sv HGS.out w')
  have HH : Hid (∀ w, Ch [] w5 w → Calls Tryz.prog 18 #[.int .i64 port] w fun e w' => e = .returned (.string (hostS port)) ∧ Ch [] w w') := fun w _ => (genHostD port w).mono fun e w' ⟨h1, h2⟩ => ⟨h1, h2 ▸ Ch.refl _ _⟩
  have HAW := hid (fun (w' : World) (_ : Ch [] w5 w') => awake12 w')
  have CB := Ch.refl [] w5
  have HRU := hid (fun (w' : World) (c : Ch [] w5 w') => (BU.ch c (by simp)).range)
  have hall : 0 ≤ idxP s6 sv blkT 0 → allowA L s6 sv port = false := fun hp => by
    unfold allowA blkI
    rw [decide_eq_true hp]
    split <;> simp
  generalize w4.heap.size = gu at HRU ⊢
  clear M MY own BU HNO HSA
  generalize addrC s6 sv = cu at HXA HYA HYM HIX HIU HLU HRU ⊢
  generalize allowA L s6 sv port = ra at HXA hall
  generalize idxP s6 sv blkT 0 = X at HIX hall
  generalize hostS port = hs at HH HYN
  try simp only [Act.put]
  by_cases hX : 0 ≤ X
  · rw [hall hX] at HXA
    clear hall
    have hd : decide (0 ≤ X) = true := by simpa using hX
    go_wp2_with (first
      | go_big_skip
      | (refine wpList_load_want rfl 32 _ rfl gu 0 rfl cu _ (HRU.out _ CB) Tryz.underlying32 rfl HIU.out ?_)
      | (go_at_call 17; (with_reducible refine (HAW.out _ CB).mono ?_); rintro e wq ⟨rfl, C9⟩; replace CB := CB.trans C9; clear C9)
      | (go_at_call 26; (with_reducible refine (HIX.out _ CB).mono ?_); rintro e wq ⟨rfl, C9⟩; replace CB := CB.trans C9; clear C9)
      | (go_at_call 15; (with_reducible refine (HXA.out _ CB).mono ?_); rintro e wq ⟨rfl, C9⟩; replace CB := CB.trans C9; clear C9)
      | (go_at_call 15; (with_reducible refine (HYA.out _ CB).mono ?_); rintro e wq ⟨rfl, C9⟩; replace CB := CB.trans C9; clear C9)
      | (go_at_call 13; (with_reducible refine (HYM.out _ CB).mono ?_); rintro e wq ⟨rfl, C9⟩; replace CB := CB.trans C9; clear C9)
      | (go_at_call 18; (with_reducible refine (HH.out _ CB).mono ?_); rintro e wq ⟨rfl, C9⟩; replace CB := CB.trans C9; clear C9)
      | (go_at_call 21; (with_reducible refine (HYN.out _ CB).mono ?_); rintro e wq ⟨rfl, C9⟩; replace CB := CB.trans C9; clear C9))
    go_ret
    exact ⟨by simp, (CX.trans CB).nil_below⟩
  · clear hall
    have hd : decide (0 ≤ X) = false := by simpa using hX
    go_wp2_with (first
      | go_big_skip
      | (refine wpList_load_want rfl 32 _ rfl gu 0 rfl cu _ (HRU.out _ CB) Tryz.underlying32 rfl HIU.out ?_)
      | (go_at_call 17; (with_reducible refine (HAW.out _ CB).mono ?_); rintro e wq ⟨rfl, C9⟩; replace CB := CB.trans C9; clear C9)
      | (go_at_call 26; (with_reducible refine (HIX.out _ CB).mono ?_); rintro e wq ⟨rfl, C9⟩; replace CB := CB.trans C9; clear C9)
      | (go_at_call 15; (with_reducible refine (HXA.out _ CB).mono ?_); rintro e wq ⟨rfl, C9⟩; replace CB := CB.trans C9; clear C9)
      | (go_at_call 15; (with_reducible refine (HYA.out _ CB).mono ?_); rintro e wq ⟨rfl, C9⟩; replace CB := CB.trans C9; clear C9)
      | (go_at_call 13; (with_reducible refine (HYM.out _ CB).mono ?_); rintro e wq ⟨rfl, C9⟩; replace CB := CB.trans C9; clear C9)
      | (go_at_call 18; (with_reducible refine (HH.out _ CB).mono ?_); rintro e wq ⟨rfl, C9⟩; replace CB := CB.trans C9; clear C9)
      | (go_at_call 21; (with_reducible refine (HYN.out _ CB).mono ?_); rintro e wq ⟨rfl, C9⟩; replace CB := CB.trans C9; clear C9))
    go_ret
    exact ⟨by simp, (CX.trans CB).nil_below⟩
end Go.Proofs.YtbmbnibamhgfmaaGreatDoor
