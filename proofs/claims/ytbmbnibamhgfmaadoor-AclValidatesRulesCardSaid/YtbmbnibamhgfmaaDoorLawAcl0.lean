/- acl.New at valid rules; the acl laws' awake (printed by mk_lawacl0.py). -/
import Derived.Test.YtbmbnibamhgfmaaDoorML
import Derived.Test.YtbmbnibamhgfmaaDoorMI
import Derived.Test.YtbmbnibamhgfmaaDoorMJ
import Derived.Test.YtbmbnibamhgfmaaDoorMA
namespace Go.Proofs.YtbmbnibamhgfmaaDoor
open Go.RowKit

theorem aclNewOk (w : World) (A : Option Addr) (cap B : Nat) (L : List Rl) (h : Rd w B 22 A L.length (L.flatMap rulC)) (hB : B ≤ w.heap.size) (hl : L.length ≤ 32) (hG : ∀ r ∈ L, OkR r) :
    Calls Tryd.prog 27 #[.slice A L.length cap] w fun e w' => ∃ g, e = .returned (.tuple #[.pointer (some ⟨g, 0, none⟩), .int .i64 0]) ∧ AclM w' g L (newB w w') ∧ Ch [] w w' := by
  refine (aclNew w A L.length cap B L h hB (by omega) (fun r hr => (hG r hr).2)).mono ?_
  rintro e w' ⟨⟨_, g, he, hm⟩ | ⟨hbad, _⟩, hc⟩
  · exact ⟨g, he, hm, hc⟩
  · exact absurd ⟨hl, List.all_eq_true.2 fun r hr => (hG r hr).1⟩ hbad
theorem aclNewNo (w : World) (A : Option Addr) (cap B : Nat) (L : List Rl) (h : Rd w B 22 A L.length (L.flatMap rulC)) (hB : B ≤ w.heap.size) (hl : L.length ≤ 1000) (hG : ∀ r ∈ L, GoodR r) (hv : L.all validR = false) :
    Calls Tryd.prog 27 #[.slice A L.length cap] w fun e w' => e = .returned (.tuple #[.pointer none, .int .i64 1]) ∧ Ch [] w w' := by
  refine (aclNew w A L.length cap B L h hB (by omega) hG).mono ?_
  rintro e w' ⟨⟨⟨_, hall⟩, _⟩ | ⟨_, he⟩, hc⟩
  · rw [hv] at hall; cases hall
  · exact ⟨he, hc⟩
def awL : List Rl := [(true, ⟨#[]⟩, (false, [8, 0, 0, 0, 0, 0, 0, 0, 0, 0, 0, 0, 0, 0, 0, 0], 8), 443, 443), (false, ⟨#[]⟩, (false, [8, 8, 0, 0, 0, 0, 0, 0, 0, 0, 0, 0, 0, 0, 0, 0], 16), 0, 65535), (false, ⟨#[98, 97, 100, 46, 111, 114, 103]⟩, zeroP, 0, 65535)]
def awX : List Rl := [(false, ⟨#[]⟩, zeroP, 2, 1)]
theorem awL_ok : ∀ r ∈ awL, OkR r := by
  intro r hr
  simp only [awL, List.mem_cons, List.not_mem_nil, or_false] at hr
  rcases hr with rfl | rfl | rfl
  · exact ⟨by decide +kernel, ⟨rfl, show ∀ x ∈ ([8, 0, 0, 0, 0, 0, 0, 0, 0, 0, 0, 0, 0, 0, 0, 0] : List Int), 0 ≤ x ∧ x ≤ 255 by decide⟩, by decide⟩
  · exact ⟨by decide +kernel, ⟨rfl, show ∀ x ∈ ([8, 8, 0, 0, 0, 0, 0, 0, 0, 0, 0, 0, 0, 0, 0, 0] : List Int), 0 ≤ x ∧ x ≤ 255 by decide⟩, by decide⟩
  · exact ⟨by decide +kernel, ⟨rfl, show ∀ x ∈ zeros, 0 ≤ x ∧ x ≤ 255 by decide⟩, by decide +kernel⟩
theorem awX_good : ∀ r ∈ awX, GoodR r := by
  intro r hr
  simp only [awX, List.mem_cons, List.not_mem_nil, or_false] at hr
  subst hr
  exact ⟨⟨rfl, show ∀ x ∈ zeros, 0 ≤ x ∧ x ≤ 255 by decide⟩, by decide⟩
set_option maxRecDepth 100000 in
set_option maxHeartbeats 8000000 in
theorem awake12 (w : World) : Calls Tryd.prog 29 #[] w fun e w' => e = .returned (.bool true) ∧ Ch [] w w' := by
  have HP1 : Hid (∀ w, Calls Tryd.prog 46 #[.string ⟨#[56, 46, 48, 46, 48, 46, 48, 47, 56]⟩] w fun e w' => e = .returned (.tuple #[.agg #[.bool false, .int .u8 8, .int .u8 0, .int .u8 0, .int .u8 0, .int .u8 0, .int .u8 0, .int .u8 0, .int .u8 0, .int .u8 0, .int .u8 0, .int .u8 0, .int .u8 0, .int .u8 0, .int .u8 0, .int .u8 0, .int .u8 0, .int .i64 8], .bool true]) ∧ Ch [] w w') := refPPfx ⟨#[56, 46, 48, 46, 48, 46, 48, 47, 56]⟩ (false, [8, 0, 0, 0, 0, 0, 0, 0, 0, 0, 0, 0, 0, 0, 0, 0], 8) (by decide) (by decide +kernel)
  have HP2 : Hid (∀ w, Calls Tryd.prog 46 #[.string ⟨#[56, 46, 56, 46, 48, 46, 48, 47, 49, 54]⟩] w fun e w' => e = .returned (.tuple #[.agg #[.bool false, .int .u8 8, .int .u8 8, .int .u8 0, .int .u8 0, .int .u8 0, .int .u8 0, .int .u8 0, .int .u8 0, .int .u8 0, .int .u8 0, .int .u8 0, .int .u8 0, .int .u8 0, .int .u8 0, .int .u8 0, .int .u8 0, .int .i64 16], .bool true]) ∧ Ch [] w w') := refPPfx ⟨#[56, 46, 56, 46, 48, 46, 48, 47, 49, 54]⟩ (false, [8, 8, 0, 0, 0, 0, 0, 0, 0, 0, 0, 0, 0, 0, 0, 0], 16) (by decide) (by decide +kernel)
  have HI1 : Hid ((Tryd.prog.info? 59).map (·.size) = some (List.length ([.bool false, .int .u8 8, .int .u8 0, .int .u8 0, .int .u8 0, .int .u8 0, .int .u8 0, .int .u8 0, .int .u8 0, .int .u8 0, .int .u8 0, .int .u8 0, .int .u8 0, .int .u8 0, .int .u8 0, .int .u8 0, .int .u8 0, .int .i64 8] : List Value))) := pfx_inf (p := (false, [8, 0, 0, 0, 0, 0, 0, 0, 0, 0, 0, 0, 0, 0, 0, 0], 8)) rfl
  have HI2 : Hid ((Tryd.prog.info? 59).map (·.size) = some (List.length ([.bool false, .int .u8 8, .int .u8 8, .int .u8 0, .int .u8 0, .int .u8 0, .int .u8 0, .int .u8 0, .int .u8 0, .int .u8 0, .int .u8 0, .int .u8 0, .int .u8 0, .int .u8 0, .int .u8 0, .int .u8 0, .int .u8 0, .int .i64 16] : List Value))) := pfx_inf (p := (false, [8, 8, 0, 0, 0, 0, 0, 0, 0, 0, 0, 0, 0, 0, 0, 0], 16)) rfl
  have HON := hid awL_ok
  have HOL : Hid (∀ r ∈ awL, validR r = true ∧ GoodR r) := awL_ok
  have HXN := hid awX_good
  have HA1 : Hid (∀ {w : World} {g : Nat} {FF : List Nat}, AclM w g awL FF → Calls Tryd.prog 47 #[.pointer (some ⟨g, 0, none⟩), .agg #[.bool false, .int .u8 8, .int .u8 1, .int .u8 1, .int .u8 1, .int .u8 0, .int .u8 0, .int .u8 0, .int .u8 0, .int .u8 0, .int .u8 0, .int .u8 0, .int .u8 0, .int .u8 0, .int .u8 0, .int .u8 0, .int .u8 0], .int .i64 443] w fun e w' => e = .returned (.bool true) ∧ Ch [] w w') := fun h => by
    have := aclAllowA h HOL.out (by decide) false [8, 1, 1, 1, 0, 0, 0, 0, 0, 0, 0, 0, 0, 0, 0, 0] ⟨rfl, by decide⟩ 443
    rwa [show allowA awL false [8, 1, 1, 1, 0, 0, 0, 0, 0, 0, 0, 0, 0, 0, 0, 0] 443 = true by decide +kernel] at this
  have HA2 : Hid (∀ {w : World} {g : Nat} {FF : List Nat}, AclM w g awL FF → Calls Tryd.prog 47 #[.pointer (some ⟨g, 0, none⟩), .agg #[.bool false, .int .u8 8, .int .u8 8, .int .u8 1, .int .u8 1, .int .u8 0, .int .u8 0, .int .u8 0, .int .u8 0, .int .u8 0, .int .u8 0, .int .u8 0, .int .u8 0, .int .u8 0, .int .u8 0, .int .u8 0, .int .u8 0], .int .i64 443] w fun e w' => e = .returned (.bool false) ∧ Ch [] w w') := fun h => by
    have := aclAllowA h HOL.out (by decide) false [8, 8, 1, 1, 0, 0, 0, 0, 0, 0, 0, 0, 0, 0, 0, 0] ⟨rfl, by decide⟩ 443
    rwa [show allowA awL false [8, 8, 1, 1, 0, 0, 0, 0, 0, 0, 0, 0, 0, 0, 0, 0] 443 = false by decide +kernel] at this
  have HA3 : Hid (∀ {w : World} {g : Nat} {FF : List Nat}, AclM w g awL FF → Calls Tryd.prog 47 #[.pointer (some ⟨g, 0, none⟩), .agg #[.bool false, .int .u8 8, .int .u8 1, .int .u8 1, .int .u8 1, .int .u8 0, .int .u8 0, .int .u8 0, .int .u8 0, .int .u8 0, .int .u8 0, .int .u8 0, .int .u8 0, .int .u8 0, .int .u8 0, .int .u8 0, .int .u8 0], .int .i64 80] w fun e w' => e = .returned (.bool false) ∧ Ch [] w w') := fun h => by
    have := aclAllowA h HOL.out (by decide) false [8, 1, 1, 1, 0, 0, 0, 0, 0, 0, 0, 0, 0, 0, 0, 0] ⟨rfl, by decide⟩ 80
    rwa [show allowA awL false [8, 1, 1, 1, 0, 0, 0, 0, 0, 0, 0, 0, 0, 0, 0, 0] 80 = false by decide +kernel] at this
  have HM1 : Hid (∀ {w : World} {g : Nat} {FF : List Nat}, AclM w g awL FF → Calls Tryd.prog 49 #[.pointer (some ⟨g, 0, none⟩), .agg #[.bool false, .int .u8 8, .int .u8 8, .int .u8 1, .int .u8 1, .int .u8 0, .int .u8 0, .int .u8 0, .int .u8 0, .int .u8 0, .int .u8 0, .int .u8 0, .int .u8 0, .int .u8 0, .int .u8 0, .int .u8 0, .int .u8 0], .int .i64 443] w fun e w' => e = .returned (.int .i64 1) ∧ Ch [] w w') := fun h => by
    have := aclMatchA h HOL.out (by decide) false [8, 8, 1, 1, 0, 0, 0, 0, 0, 0, 0, 0, 0, 0, 0, 0] ⟨rfl, by decide⟩ 443
    rwa [show optI (bestB awL (pA false [8, 8, 1, 1, 0, 0, 0, 0, 0, 0, 0, 0, 0, 0, 0, 0] 443) rkA awL.length) = 1 by decide +kernel] at this
  have HN1 : Hid (∀ {w : World} {g : Nat} {FF : List Nat}, AclM w g awL FF → Calls Tryd.prog 50 #[.pointer (some ⟨g, 0, none⟩), .string ⟨#[103, 111, 111, 100, 46, 111, 114, 103]⟩, .int .i64 80] w fun e w' => e = .returned (.bool true) ∧ Ch [] w w') := fun h => by
    have := aclAllowN h (fun r hr => (HOL.out r hr).2) (by decide) ⟨#[103, 111, 111, 100, 46, 111, 114, 103]⟩ (by decide) 80
    rwa [show allowN awL ⟨#[103, 111, 111, 100, 46, 111, 114, 103]⟩ 80 = true by decide +kernel] at this
  have HN2 : Hid (∀ {w : World} {g : Nat} {FF : List Nat}, AclM w g awL FF → Calls Tryd.prog 50 #[.pointer (some ⟨g, 0, none⟩), .string ⟨#[97, 46, 98, 97, 100, 46, 111, 114, 103]⟩, .int .i64 80] w fun e w' => e = .returned (.bool false) ∧ Ch [] w w') := fun h => by
    have := aclAllowN h (fun r hr => (HOL.out r hr).2) (by decide) ⟨#[97, 46, 98, 97, 100, 46, 111, 114, 103]⟩ (by decide) 80
    rwa [show allowN awL ⟨#[97, 46, 98, 97, 100, 46, 111, 114, 103]⟩ 80 = false by decide +kernel] at this
  have HM2 : Hid (∀ {w : World} {g : Nat} {FF : List Nat}, AclM w g awL FF → Calls Tryd.prog 51 #[.pointer (some ⟨g, 0, none⟩), .string ⟨#[97, 46, 98, 97, 100, 46, 111, 114, 103]⟩, .int .i64 80] w fun e w' => e = .returned (.int .i64 2) ∧ Ch [] w w') := fun h => by
    have := aclMatchN h (fun r hr => (HOL.out r hr).2) (by decide) ⟨#[97, 46, 98, 97, 100, 46, 111, 114, 103]⟩ (by decide) 80
    rwa [show optI (bestB awL (pN ⟨#[97, 46, 98, 97, 100, 46, 111, 114, 103]⟩ 80) rkN awL.length) = 2 by decide +kernel] at this
  have HT : Hid (∀ {w : World} {g : Nat} {FF : List Nat}, AclM w g awL FF → Calls Tryd.prog 52 #[.pointer (some ⟨g, 0, none⟩), .agg #[.string ⟨#[]⟩, .bool false, .int .u8 8, .int .u8 1, .int .u8 1, .int .u8 1, .int .u8 0, .int .u8 0, .int .u8 0, .int .u8 0, .int .u8 0, .int .u8 0, .int .u8 0, .int .u8 0, .int .u8 0, .int .u8 0, .int .u8 0, .int .u8 0, .int .i64 443]] w fun e w' => e = .returned (.bool true) ∧ Ch [] w w') := fun h => by
    have := aclAllowT h HOL.out (by decide) (⟨#[]⟩, false, [8, 1, 1, 1, 0, 0, 0, 0, 0, 0, 0, 0, 0, 0, 0, 0], 443) ⟨⟨rfl, show ∀ x ∈ ([8, 1, 1, 1, 0, 0, 0, 0, 0, 0, 0, 0, 0, 0, 0, 0] : List Int), 0 ≤ x ∧ x ≤ 255 by decide⟩, by decide⟩
    rwa [show allowT awL (⟨#[]⟩, false, [8, 1, 1, 1, 0, 0, 0, 0, 0, 0, 0, 0, 0, 0, 0, 0], 443) = true by decide +kernel] at this
  have HW1 : Hid (∀ w A cap B, Rd w B 22 A 3 (awL.flatMap rulC) → B ≤ w.heap.size → Calls Tryd.prog 27 #[.slice A 3 cap] w fun e w' => ∃ g, e = .returned (.tuple #[.pointer (some ⟨g, 0, none⟩), .int .i64 0]) ∧ AclM w' g awL (newB w w') ∧ Ch [] w w') := fun w A cap B h hB => aclNewOk w A cap B awL h hB (by decide) HON.out
  have HW2 : Hid (∀ w A cap B, Rd w B 22 A 1 (awX.flatMap rulC) → B ≤ w.heap.size → Calls Tryd.prog 27 #[.slice A 1 cap] w fun e w' => e = .returned (.tuple #[.pointer none, .int .i64 1]) ∧ Ch [] w w') := fun w A cap B h hB => aclNewNo w A cap B awX h hB (by decide) HXN.out (by decide +kernel)
  have CC := Ch.refl [] w
  go_enter Tryd.func29, Tryd.ntmps29
  go_upto_region 5 with (first
    | (go_at_call 46; (with_reducible refine (HP1.out _).mono ?_); rintro e w1 ⟨rfl, C1⟩; replace CC := CC.trans C1; clear C1)
    | (go_at_call 46; (with_reducible refine (HP2.out _).mono ?_); rintro e w3 ⟨rfl, C3⟩; replace CC := CC.trans C3; replace B2 := B2.ch C3 (by simp); clear C3)
    | (refine wpList_storeB rfl 59 _ _ rfl w1.heap.size 59 (pfxC (false, zeros, 0)) [.bool false, .int .u8 8, .int .u8 0, .int .u8 0, .int .u8 0, .int .u8 0, .int .u8 0, .int .u8 0, .int .u8 0, .int .u8 0, .int .u8 0, .int .u8 0, .int .u8 0, .int .u8 0, .int .u8 0, .int .u8 0, .int .u8 0, .int .i64 8] rfl rfl (Blk.new _ _ _) HI1.out rfl rfl ?_; intro w2 B2 D Z; clear Z; have D2 := ((Ch.refl [] w1).alloc _).step D (fun i hi => .inr (by simp at hi; omega)); clear D; replace CC := CC.trans D2; clear D2)
    | (refine wpList_storeB rfl 59 _ _ rfl w3.heap.size 59 (pfxC (false, zeros, 0)) [.bool false, .int .u8 8, .int .u8 8, .int .u8 0, .int .u8 0, .int .u8 0, .int .u8 0, .int .u8 0, .int .u8 0, .int .u8 0, .int .u8 0, .int .u8 0, .int .u8 0, .int .u8 0, .int .u8 0, .int .u8 0, .int .u8 0, .int .i64 16] rfl rfl (Blk.new _ _ _) HI2.out rfl rfl ?_; intro w4 B4 D Z; clear Z; have D2 := ((Ch.refl [] w3).alloc _).step D (fun i hi => .inr (by simp at hi; omega)); clear D; replace CC := CC.trans D2; replace B2 := B2.ch D2 (by simp); clear D2)
    | (refine wpList_load_want rfl 59 _ rfl w1.heap.size 0 rfl [.bool false, .int .u8 8, .int .u8 0, .int .u8 0, .int .u8 0, .int .u8 0, .int .u8 0, .int .u8 0, .int .u8 0, .int .u8 0, .int .u8 0, .int .u8 0, .int .u8 0, .int .u8 0, .int .u8 0, .int .u8 0, .int .u8 0, .int .i64 8] _ B2.range Tryd.underlying59 rfl HI1.out ?_)
    | (refine wpList_load_want rfl 59 _ rfl w3.heap.size 0 rfl [.bool false, .int .u8 8, .int .u8 8, .int .u8 0, .int .u8 0, .int .u8 0, .int .u8 0, .int .u8 0, .int .u8 0, .int .u8 0, .int .u8 0, .int .u8 0, .int .u8 0, .int .u8 0, .int .u8 0, .int .u8 0, .int .u8 0, .int .i64 16] _ B4.range Tryd.underlying59 rfl HI2.out ?_)
    | (refine wpList_buildRows rfl 44 61 3 _ rfl (awL.flatMap rulC) _ 22 _ Tryd.underlying44 rul_infoZ (by decide) (by decide) (by kernel_rfl) ?_)
    | (refine wpList_buildRows rfl 44 61 1 _ rfl (awX.flatMap rulC) _ 22 _ Tryd.underlying44 rul_infoZ (by decide) (by decide) (by kernel_rfl) ?_)
    | (go_at_call 27; (with_reducible refine (HW1.out _ _ 3 (w4.heap.size + 1) (Rd.new w4 22 (awL.flatMap rulC) 3 rfl 61) (by simp)).mono ?_); rintro e w5 ⟨g, rfl, M, C5⟩; replace CC := (CC.alloc _).trans C5; clear C5)
    | (go_at_call 27; (with_reducible refine (HW2.out _ _ 1 (w5.heap.size + 1) (Rd.new w5 22 (awX.flatMap rulC) 1 rfl 61) (by simp)).mono ?_); rintro e w6 ⟨rfl, C6⟩; have D6 := ((Ch.refl [] w5).alloc _).trans C6; replace CC := CC.trans D6; replace M := M.nil D6; clear C6 D6))
  generalize newB (w4.alloc (.cells (awL.flatMap rulC).toArray 61)) w5 = FF at M
  clear B2 B4 HP1 HP2 HI1 HI2 HON HOL HXN HW1 HW2
  go_wp2_with (first
    | go_big_skip
    | (go_at_call 48; (with_reducible refine (v4R _ _ _ _ _).mono ?_); rintro e w' ⟨rfl, C9⟩; replace CC := CC.trans C9; replace M := M.nil C9; clear C9)
    | (go_at_call 47; (with_reducible refine (HA1.out M).mono ?_); rintro e w' ⟨rfl, C9⟩; replace CC := CC.trans C9; replace M := M.nil C9; clear C9)
    | (go_at_call 47; (with_reducible refine (HA2.out M).mono ?_); rintro e w' ⟨rfl, C9⟩; replace CC := CC.trans C9; replace M := M.nil C9; clear C9)
    | (go_at_call 47; (with_reducible refine (HA3.out M).mono ?_); rintro e w' ⟨rfl, C9⟩; replace CC := CC.trans C9; replace M := M.nil C9; clear C9)
    | (go_at_call 49; (with_reducible refine (HM1.out M).mono ?_); rintro e w' ⟨rfl, C9⟩; replace CC := CC.trans C9; replace M := M.nil C9; clear C9)
    | (go_at_call 50; (with_reducible refine (HN1.out M).mono ?_); rintro e w' ⟨rfl, C9⟩; replace CC := CC.trans C9; replace M := M.nil C9; clear C9)
    | (go_at_call 50; (with_reducible refine (HN2.out M).mono ?_); rintro e w' ⟨rfl, C9⟩; replace CC := CC.trans C9; replace M := M.nil C9; clear C9)
    | (go_at_call 51; (with_reducible refine (HM2.out M).mono ?_); rintro e w' ⟨rfl, C9⟩; replace CC := CC.trans C9; replace M := M.nil C9; clear C9)
    | (go_at_call 52; (with_reducible refine (HT.out M).mono ?_); rintro e w' ⟨rfl, C9⟩; replace CC := CC.trans C9; clear C9))
  go_ret
  exact ⟨rfl, CC⟩
end Go.Proofs.YtbmbnibamhgfmaaDoor
