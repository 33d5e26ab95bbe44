/- The tenant laws' awake; tenants as arguments. -/
import Derived.Test.YtbmbnibamhgfmaaDoorTenQ
import Derived.Test.YtbmbnibamhgfmaaDoorTenP
import Derived.Test.YtbmbnibamhgfmaaDoorMA
namespace Go.Proofs.YtbmbnibamhgfmaaDoor
open Go.ChangeShapes Go.WideShapes Go.ChangeAt Go.RowKit

theorem tenNewOk (w : World) (A : Option Addr) (n cap B : Nat) (T : List Tn) (h : Rd w B 6 A n (T.flatMap tnC)) (hB : B ≤ w.heap.size) (hl : n ≤ 140737488351232) (hT : ∀ t ∈ T, TnIn w B t) (hc : chkT T = 0) :
    Calls Tryd.prog 7 #[.slice A n cap] w fun e w' => ∃ g, e = .returned (.tuple #[.pointer (some ⟨g, 0, none⟩), .int .i64 0]) ∧ ∃ X, RegM w' g X (newB w w') ∧ X.map (·.t) = T ∧ (∀ x ∈ X, x.bd = ⟨x.t.b, x.t.w, 0, 0⟩ ∧ x.act = 0) ∧ Ch [] w w' := by
  refine (tenNew w A n cap B T h hB hl hT).mono ?_
  rintro e w' ⟨⟨_, g, he, X, h1, h2, h3⟩ | ⟨hbad, _⟩, h4⟩
  · exact ⟨g, he, X, h1, h2, h3, h4⟩
  · exact absurd hc hbad
theorem tenNewNo (w : World) (A : Option Addr) (n cap B : Nat) (T : List Tn) (h : Rd w B 6 A n (T.flatMap tnC)) (hB : B ≤ w.heap.size) (hl : n ≤ 140737488351232) (hT : ∀ t ∈ T, TnIn w B t) (c : Int) (hc : chkT T = c) (h0 : c ≠ 0) :
    Calls Tryd.prog 7 #[.slice A n cap] w fun e w' => e = .returned (.tuple #[.pointer none, .int .i64 c]) ∧ Ch [] w w' := by
  refine (tenNew w A n cap B T h hB hl hT).mono ?_
  rintro e w' ⟨⟨hbad, _⟩ | ⟨_, he⟩, h4⟩
  · exact absurd (hc ▸ hbad) h0
  · exact ⟨hc ▸ he, h4⟩
def tA : Tn := ⟨⟨#[97, 110, 110]⟩, ⟨#[115, 101, 99, 114, 101, 116]⟩, none, 0, [], 1, 1, 1⟩
def awT (g0 : Nat) (a : Int) : List En := [⟨g0, tA, ⟨1, 1, 0, 0⟩, a⟩]
theorem tA_chk : chkT [tA] = 0 := by
  unfold chkT
  rw [if_neg (by decide), if_pos (by decide +kernel), if_pos (by simp)]
theorem tA_in (w : World) (B : Nat) : TnIn w B tA := ⟨⟨by simp [tA], by simp [tA]⟩, by decide, by decide, Rd.nil _ _ _ _⟩
theorem awT_new (w : World) (g1 : Nat) (h : Blk w g1 47 (tnC tA)) : Calls Tryd.prog 7 #[.slice (some ⟨g1, 0, none⟩) 1 1] w fun e w' => ∃ g, e = .returned (.tuple #[.pointer (some ⟨g, 0, none⟩), .int .i64 0]) ∧ ∃ g0 FF, RegM w' g (awT g0 0) FF ∧ (∀ b ∈ FF, w.heap.size ≤ b) ∧ Ch [] w w' := by
  refine (tenNewOk w (some ⟨g1, 0, none⟩) 1 1 w.heap.size [tA] (Rd.blk h rfl h.lt) (Nat.le_refl _) (by omega) (fun t ht => by rw [List.mem_singleton] at ht; subst ht; exact tA_in _ _) tA_chk).mono ?_
  rintro e w' ⟨g, he, X, h1, h2, h3, h4⟩
  match X, h2, h3, h1 with
  | [⟨g0, t, bd, act⟩], h2, h3, h1 =>
    obtain ⟨e1, e2⟩ := h3 ⟨g0, t, bd, act⟩ (List.mem_singleton.2 rfl)
    obtain rfl : t = tA := by simpa using h2
    replace e1 : bd = ⟨1, 1, 0, 0⟩ := e1
    replace e2 : act = 0 := e2
    subst e1 e2
    exact ⟨g, he, g0, _, h1, fun b hb => (newB_ge hb).1, h4⟩
set_option maxRecDepth 100000 in
set_option maxHeartbeats 4000000 in
theorem awake14 (w : World) : Calls Tryd.prog 19 #[] w fun e w' => e = .returned (.bool true) ∧ Ch [] w w' := by
  have HN := hid awT_new
  have HN0 : Hid (∀ w, Calls Tryd.prog 7 #[.slice none 0 0] w fun e w' => e = .returned (.tuple #[.pointer none, .int .i64 1]) ∧ Ch [] w w') := fun w => tenNewNo w none 0 0 0 [] (Rd.nil _ _ _ _) (by omega) (by omega) (by simp) 1 (by unfold chkT; rw [if_pos (Or.inl (by simp))]) (by decide)
  have HB0 : Hid (∀ g0 : Nat, ∀ e ∈ awT g0 0, 0 ≤ e.act ∧ e.act ≤ 100) := by show ∀ _, _; intro g0 e he; simp only [awT, List.mem_singleton] at he; subst he; simp only; omega
  have HB1 : Hid (∀ g0 : Nat, ∀ e ∈ awT g0 1, 0 ≤ e.act ∧ e.act ≤ 100) := by show ∀ _, _; intro g0 e he; simp only [awT, List.mem_singleton] at he; subst he; simp only; omega
  have HA0 : Hid (∀ w g g0 FF, RegM w g (awT g0 0) FF → Calls Tryd.prog 10 #[.pointer (some ⟨g, 0, none⟩), .int .i64 0] w fun r w' => r = .returned (.bool true) ∧ RegM w' g (awT g0 1) FF ∧ Ch FF w w') := fun w g g0 FF h => regAcq h 0 (HB0.out g0)
  have HA1 : Hid (∀ w g g0 FF, RegM w g (awT g0 1) FF → Calls Tryd.prog 10 #[.pointer (some ⟨g, 0, none⟩), .int .i64 0] w fun r w' => r = .returned (.bool false) ∧ RegM w' g (awT g0 1) FF ∧ Ch FF w w') := fun w g g0 FF h => regAcq h 0 (HB1.out g0)
  have HR1 : Hid (∀ w g g0 FF, RegM w g (awT g0 1) FF → Calls Tryd.prog 12 #[.pointer (some ⟨g, 0, none⟩), .int .i64 0] w fun r w' => r = .returned (.bool true) ∧ RegM w' g (awT g0 0) FF ∧ Ch FF w w') := fun w g g0 FF h => regRel h 0 (HB1.out g0)
  have HR0 : Hid (∀ w g g0 FF, RegM w g (awT g0 0) FF → Calls Tryd.prog 12 #[.pointer (some ⟨g, 0, none⟩), .int .i64 0] w fun r w' => r = .returned (.bool false) ∧ RegM w' g (awT g0 0) FF ∧ Ch FF w w') := fun w g g0 FF h => regRel h 0 (HB0.out g0)
  have HC0 : Hid (∀ w g g0 FF, RegM w g (awT g0 1) FF → Calls Tryd.prog 18 #[.pointer (some ⟨g, 0, none⟩), .int .i64 0] w fun r w' => r = .returned (.int .i64 1) ∧ w = w') := fun w g g0 FF h => regAct h 0
  have HL0 : Hid (∀ w g g0 FF, RegM w g (awT g0 0) FF → Calls Tryd.prog 23 #[.pointer (some ⟨g, 0, none⟩)] w fun r w' => r = .returned (.int .i64 1) ∧ w = w') := fun w g g0 FF h => regLen h
  have HU1 : Hid (∀ w g g0 FF, RegM w g (awT g0 0) FF → Calls Tryd.prog 16 #[.pointer (some ⟨g, 0, none⟩), .string ⟨#[97, 110, 110]⟩, .string ⟨#[115, 101, 99, 114, 101, 116]⟩] w fun r w' => r = .returned (.tuple #[.int .i64 0, .bool true]) ∧ Ch [] w w') := fun w g g0 FF h => by
    have hf : (awT g0 0).findIdx? (isU ⟨#[97, 110, 110]⟩ ⟨#[115, 101, 99, 114, 101, 116]⟩) = some 0 := by
      have : isU ⟨#[97, 110, 110]⟩ ⟨#[115, 101, 99, 114, 101, 116]⟩ ⟨g0, tA, ⟨1, 1, 0, 0⟩, 0⟩ = true := by unfold isU; simp [tA]
      simp [awT, List.findIdx?_cons, this]
    have := regAuth h (by simp [awT]) ⟨#[97, 110, 110]⟩ ⟨#[115, 101, 99, 114, 101, 116]⟩
    rwa [hf] at this
  have HU0 : Hid (∀ w g g0 FF, RegM w g (awT g0 0) FF → Calls Tryd.prog 16 #[.pointer (some ⟨g, 0, none⟩), .string ⟨#[97, 110, 110]⟩, .string ⟨#[120]⟩] w fun r w' => r = .returned (.tuple #[.int .i64 0, .bool false]) ∧ Ch [] w w') := fun w g g0 FF h => by
    have hf : (awT g0 0).findIdx? (isU ⟨#[97, 110, 110]⟩ ⟨#[120]⟩) = none := by
      have : isU ⟨#[97, 110, 110]⟩ ⟨#[120]⟩ ⟨g0, tA, ⟨1, 1, 0, 0⟩, 0⟩ = false := by
        have : ((tA.p.toList == (⟨#[120]⟩ : ByteArray).toList)) = false := by rw [ByteArray.toList_eq, ByteArray.toList_eq]; decide +kernel
        unfold isU; simp only [this, Bool.and_false]
      simp [awT, List.findIdx?_cons, this]
    have := regAuth h (by simp [awT]) ⟨#[97, 110, 110]⟩ ⟨#[120]⟩
    rwa [hf] at this
  have HG0 : Hid (∀ w g g0 FF, RegM w g (awT g0 0) FF → Calls Tryd.prog 33 #[.pointer (some ⟨g, 0, none⟩), .int .i64 0] w fun r w' => (∃ ga, r = .returned (.pointer (some ⟨ga, 0, none⟩))) ∧ w = w') := fun w g g0 FF h => (regACL (i := 0) h rfl).mono fun r w' ⟨⟨ga, F, hr, _⟩, hw⟩ => ⟨⟨ga, hr⟩, hw⟩
  have HG1 : Hid (∀ w g g0 FF, RegM w g (awT g0 0) FF → Calls Tryd.prog 33 #[.pointer (some ⟨g, 0, none⟩), .int .i64 1] w fun r w' => r = .returned (.pointer none) ∧ w = w') := fun w g g0 FF h => regACLNo h 1 (.inr (by simp [awT]))
  have HD0 : Hid (∀ w g g0 FF, RegM w g (awT g0 0) FF → Calls Tryd.prog 34 #[.pointer (some ⟨g, 0, none⟩), .int .i64 0] w fun r w' => (∃ gb, r = .returned (.pointer (some ⟨gb, 0, none⟩))) ∧ w = w') := fun w g g0 FF h => (regBud (i := 0) h rfl).mono fun r w' ⟨⟨gb, hr, _⟩, hw⟩ => ⟨⟨gb, hr⟩, hw⟩
  have HD1 : Hid (∀ w g g0 FF, RegM w g (awT g0 0) FF → Calls Tryd.prog 34 #[.pointer (some ⟨g, 0, none⟩), .int .i64 (-1)] w fun r w' => r = .returned (.pointer none) ∧ w = w') := fun w g g0 FF h => regBudNo h (-1) (.inl (by decide))
  clear HB0 HB1
  have B1 : Blk (w.alloc (.cells #[.string ⟨#[97, 110, 110]⟩, .string ⟨#[115, 101, 99, 114, 101, 116]⟩, .slice none 0 0, .int .i64 1, .int .u64 1, .int .i64 1] 47)) w.heap.size 47 (tnC tA) := Blk.new w _ (tnC tA)
  have C1 : Ch [] w (w.alloc (.cells #[.string ⟨#[97, 110, 110]⟩, .string ⟨#[115, 101, 99, 114, 101, 116]⟩, .slice none 0 0, .int .i64 1, .int .u64 1, .int .i64 1] 47)) := (Ch.refl _ _).alloc _
  go_enter Tryd.func19, Tryd.ntmps19
  go_wp2_with (first
    | go_big_skip
    | (go_at_call 7; (with_reducible refine (HN0.out _).mono ?_); rintro e w4 ⟨rfl, C4⟩; replace R0 := R0.nil C4; replace C1 := C1.trans C4; clear C4)
    | (go_at_call 7; (with_reducible refine (HN.out _ _ B1).mono ?_); rintro e w3 ⟨g, rfl, g0, FF, R0, hFF, C3⟩; have HFF : Hid (∀ b ∈ FF, b ∈ [] ∨ w.heap.size ≤ b) := fun b hb => .inr (Nat.le_trans C1.size (hFF b hb)); replace C1 := C1.trans C3; clear C3 hFF B1)
    | (go_at_call 33; (with_reducible refine (HG0.out _ _ _ _ R0).mono ?_); rintro e w5 ⟨⟨ga, rfl⟩, rfl⟩)
    | (go_at_call 33; (with_reducible refine (HG1.out _ _ _ _ R0).mono ?_); rintro e w5 ⟨rfl, rfl⟩)
    | (go_at_call 34; (with_reducible refine (HD0.out _ _ _ _ R0).mono ?_); rintro e w5 ⟨⟨gb, rfl⟩, rfl⟩)
    | (go_at_call 34; (with_reducible refine (HD1.out _ _ _ _ R0).mono ?_); rintro e w5 ⟨rfl, rfl⟩)
    | (go_at_call 16; (with_reducible refine (HU1.out _ _ _ _ R0).mono ?_); rintro e w6 ⟨rfl, C6⟩; replace R0 := R0.nil C6; replace C1 := C1.trans C6; clear C6)
    | (go_at_call 16; (with_reducible refine (HU0.out _ _ _ _ R0).mono ?_); rintro e w7 ⟨rfl, C7⟩; replace R0 := R0.nil C7; replace C1 := C1.trans C7; clear C7)
    | (go_at_call 10; (with_reducible refine (HA1.out _ _ _ _ R1).mono ?_); rintro e w9 ⟨rfl, R2, C9⟩; replace C1 := C1.step C9 HFF.out; clear C9)
    | (go_at_call 10; (with_reducible refine (HA0.out _ _ _ _ R0).mono ?_); rintro e w8 ⟨rfl, R1, C8⟩; replace C1 := C1.step C8 HFF.out; clear C8)
    | (go_at_call 18; (with_reducible refine (HC0.out _ _ _ _ R2).mono ?_); rintro e w10 ⟨rfl, rfl⟩)
    | (go_at_call 12; (with_reducible refine (HR0.out _ _ _ _ R3).mono ?_); rintro e w12 ⟨rfl, R4, C12⟩; replace C1 := C1.step C12 HFF.out; clear C12)
    | (go_at_call 12; (with_reducible refine (HR1.out _ _ _ _ R2).mono ?_); rintro e w11 ⟨rfl, R3, C11⟩; replace C1 := C1.step C11 HFF.out; clear C11)
    | (go_at_call 23; (with_reducible refine (HL0.out _ _ _ _ R4).mono ?_); rintro e w13 ⟨rfl, rfl⟩))
  go_ret
  exact ⟨rfl, C1⟩
section
variable {H : Type} {enc : TypeId × Value → H} {W : World}
set_option maxRecDepth 20000 in
theorem Cl.tn {cs : List Value} (h : Cl enc Tryd.prog W 47 cs) : ∃ t : Tn, cs = tnC t ∧ TnIn W W.heap.size t ∧ 0 ≤ t.w ∧ t.w ≤ 18446744073709551615 ∧ -9223372036854775808 ≤ t.b ∧ t.b ≤ 9223372036854775807 := by
  have hl := (h.struct Tryd.underlying47).1
  rw [show Tryd.prog.cellsOf 47 = 6 by kernel_rfl] at hl
  obtain ⟨u, k0, hu⟩ := (h.field Tryd.underlying47 0 9 0 1 (by kernel_rfl) (by kernel_rfl)).string Tryd.underlying9
  obtain ⟨p, k1, hp⟩ := (h.field Tryd.underlying47 1 9 1 1 (by kernel_rfl) (by kernel_rfl)).string Tryd.underlying9
  obtain ⟨A, n, c, L, k2, hn1, hn2, hn3, hr, hLn, hG⟩ := (h.field Tryd.underlying47 2 44 2 1 (by kernel_rfl) (by kernel_rfl)).rows (f := rulC) (G := fun r => GoodR r) (size := 22) Tryd.underlying44 (by kernel_rfl) (by omega) (fun c hc => hc.rul) (fun r hr => rul_len hr.1.1)
  rw [show Tryd.prog.bytesOf 61 = 72 by kernel_rfl] at hn3
  obtain ⟨b, k3, hb⟩ := (h.field Tryd.underlying47 3 3 3 1 (by kernel_rfl) (by kernel_rfl)).i64 Tryd.underlying3
  obtain ⟨x, k4, hx⟩ := (h.field Tryd.underlying47 4 45 4 1 (by kernel_rfl) (by kernel_rfl)).u64 Tryd.underlying45
  obtain ⟨m, k5, _⟩ := (h.field Tryd.underlying47 5 3 5 1 (by kernel_rfl) (by kernel_rfl)).i64 Tryd.underlying3
  subst hLn
  refine ⟨⟨u, p, A, c, L, b, x, m⟩, ?_, ⟨⟨hG, by show L.length ≤ _; omega⟩, hu, hp, hr⟩, hx.1, hx.2, hb.1, hb.2⟩
  have s1 : cs = (cs.drop 0).take 1 ++ ((cs.drop 1).take 1 ++ ((cs.drop 2).take 1 ++ ((cs.drop 3).take 1 ++ ((cs.drop 4).take 1 ++ (cs.drop 5).take 1)))) := by
    rw [List.drop_zero]
    conv => lhs; rw [← List.take_append_drop 1 cs, ← List.take_append_drop 1 (cs.drop 1), List.drop_drop, ← List.take_append_drop 1 (cs.drop 2), List.drop_drop, ← List.take_append_drop 1 (cs.drop 3), List.drop_drop, ← List.take_append_drop 1 (cs.drop 4), List.drop_drop]
    congr 6
    rw [List.take_of_length_le (l := cs.drop 5) (by rw [List.length_drop]; omega)]
  rw [s1, k0, k1, k2, k3, k4, k5]; rfl
theorem Arg.tns {v : Value} {d : DataW H} (h : Arg enc Tryd.prog W 22 v d) : ∃ A n cap, ∃ l : List Tn, v = .slice A n cap ∧ n ≤ cap ∧ Rd W W.heap.size 6 A n (l.flatMap tnC) ∧ l.length = n ∧ n ≤ 140737488351232 ∧ ∀ t ∈ l, TnIn W W.heap.size t ∧ 0 ≤ t.w ∧ t.w ≤ 18446744073709551615 ∧ -9223372036854775808 ≤ t.b ∧ t.b ≤ 9223372036854775807 := by
  obtain ⟨A, len, cap, l, h1, h2, h3, h4, h5, h6, h7⟩ := h.rows (f := tnC) (G := fun t => TnIn W W.heap.size t ∧ 0 ≤ t.w ∧ t.w ≤ 18446744073709551615 ∧ -9223372036854775808 ≤ t.b ∧ t.b ≤ 9223372036854775807) (size := 6) Tryd.underlying22 (by kernel_rfl) (by omega) (fun c hc => hc.tn) (fun t _ => tn_len t)
  rw [show Tryd.prog.bytesOf 47 = 80 by kernel_rfl] at h4
  exact ⟨A, len, cap, l, h1, h2, h5, h6, by omega, h7⟩
end
end Go.Proofs.YtbmbnibamhgfmaaDoor
