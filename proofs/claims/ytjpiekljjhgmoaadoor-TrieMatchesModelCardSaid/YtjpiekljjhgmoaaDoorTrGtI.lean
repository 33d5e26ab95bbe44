/- trie.Trie[int]: find, lookup, Get; Insert at an invalid prefix (printed by mk_trie5.py). -/
import Derived.Test.YtjpiekljjhgmoaaDoorTrieI
import Derived.Test.YtjpiekljjhgmoaaDoorTrL
import Derived.Deep.DeepCutAuto
import Derived.Deep.CutRange
namespace Go.Proofs.YtjpiekljjhgmoaaDoor
open Go.RowKit

set_option maxRecDepth 20000 in
set_option maxHeartbeats 8000000 in
theorem trFindI (w : World) (g : Nat) (nd : Tri) (n : Int) (hT : TrI 81 76 w g nd n) (p : Pfx) (hp : OkP p) :
    Calls Tryd.prog 71 #[.pointer (some ⟨g, 0, none⟩), .agg (pfxC p).toArray] w fun e w' => (∃ k lb lo : Nat, e = .returned (.pointer (some ⟨lb, lo, none⟩)) ∧ LinkAt nd g (keyA p.1 p.2.1 k) ⟨lb, lo, none⟩ ∧ k ≤ p.2.2.toNat ∧ (k = p.2.2.toNat ∨ nd (keyA p.1 p.2.1 k) = none)) ∧ Ch [] w w' := by
  have hva := hp.va
  have hgd := hp.g
  have hrng := hp.rng
  obtain ⟨m, hm⟩ : ∃ m : Nat, p.2.2 = m := ⟨p.2.2.toNat, by have := hp.nat.1; omega⟩
  have hkey : keyP p = keyA p.1 p.2.1 m := by unfold keyP; rw [hm, Int.toNat_natCast]
  have hmn : p.2.2.toNat = m := by rw [hm, Int.toNat_natCast]
  rw [hmn]
  have BP0 : Blk (w.alloc (.cells (pfxC p).toArray 33)) w.heap.size 33 (pfxC p) := Blk.new w _ _
  have h17 := pfx_bits (p := p) hp.g.1
  have haddr : ∀ j v, (addrC p.1 p.2.1)[j]? = some v → (pfxC p)[0 + j]? = some v := fun j v hj => pfx_addr (p := p) hj
  have C0 : Ch [] w (w.alloc (.cells (pfxC p).toArray 33)) := (Ch.refl _ _).alloc _
  rw [hm] at hrng h17
  obtain ⟨six, bs, pn⟩ := p
  simp only at hm hva hgd hrng h17 haddr hkey hmn ⊢
  have hL := bitL_le six
  have HI := hid (addr_inf (six := six) hgd.1)
  generalize pfxC (six, bs, pn) = cs at BP0 h17 haddr C0 ⊢
  have HA := hid haddr
  have H17 := hid h17
  clear hp hm hkey hmn haddr h17 hva
  have T0 := hT.nil C0
  have HBT : Hid (∀ k : Nat, k < m → ∀ w, Calls Tryd.prog 39 #[.agg (addrC six bs).toArray, .int .i64 k] w fun e w' => e = .returned (.int .i64 (bitA bs k)) ∧ Ch [] w w') := fun k hk w => bitP six bs hgd k (by omega) w
  clear hgd hT
  have hrt := LinkAt.root (nd := nd) (g := g) six
  obtain ⟨ro, hro⟩ : ∃ ro : Nat, (if six then 1 else 0) = ro := ⟨_, rfl⟩
  rw [hro] at hrt
  have HRT := hid (fun w => trRootI g six bs ro hro w)
  clear hro
  generalize addrC six bs = ac at HI HA HBT HRT
  go_enter Tryd.func71, Tryd.ntmps71
  go_wp2_with (first
    | (refine wpList_load_want rfl 24 _ rfl w.heap.size 0 rfl ac _ (BP0.rangeMid 0 _ HA.out) Tryd.underlying24 rfl HI.out ?_)
    | (go_at_call 37; (with_reducible refine (HRT.out _).mono ?_); rintro e wn ⟨rfl, Cn⟩; replace BP0 := BP0.ch Cn (by simp); replace T0 := T0.nil Cn; replace C0 := C0.trans Cn; clear Cn))
  go_loopw [5, 6] (fun at_ i wr => ∃ (k lb lo : Nat), at_ = .pointer (some ⟨lb, lo, none⟩) ∧ i = .int .i64 k ∧ k ≤ m ∧ LinkAt nd g (keyA six bs k) ⟨lb, lo, none⟩ ∧ TrI 81 76 wr g nd n ∧ Ch [] w wr ∧ Blk wr w.heap.size 33 cs) (fun _ i _ => m - (intOf i).toNat)
  case atStart => exact ⟨0, g, _, rfl, rfl, by omega, hrt, T0, C0, BP0⟩
  case round =>
    clear T0 C0 BP0 hrt HRT
    obtain ⟨k, lb, lo, rfl, rfl, hk, hl, TX, CX, BX⟩ := hrel
    have e17 : wr.cell? ⟨w.heap.size, 17, none⟩ = some (.int .i64 m) := (BX.cell 17).trans H17.out
    by_cases km : k = m
    · subst km
      go_wp2_with fail
      go_ret
      exact ⟨⟨k, lb, lo, rfl, hl, Nat.le_refl _, .inl rfl⟩, CX⟩
    · have hkm : k < m := by omega
      have hkmi : (k : Int) < m := by omega
      cases hnode : nd (keyA six bs k) with
      | none =>
        have e_la : wr.cell? ⟨lb, lo, none⟩ = some (.pointer none) := by have := hl.cell TX; rw [hnode] at this; exact this
        go_wp2_with fail
        go_ret
        exact ⟨⟨k, lb, lo, rfl, hl, by omega, .inr hnode⟩, CX⟩
      | some d =>
        have e_la : wr.cell? ⟨lb, lo, none⟩ = some (.pointer (some ⟨d.b, 0, none⟩)) := by have := hl.cell TX; rw [hnode] at this; exact this
        have HBIT := hid (HBT.out k hkm)
        have HRA : Hid (∀ w', Ch [] wr w' → w'.rangeAt w.heap.size 0 ac) := fun w' c => (BX.ch c (by simp)).rangeMid 0 _ HA.out
        have k_la : ∀ y : After wr, y.w.cell? ⟨lb, lo, none⟩ = some (.pointer (some ⟨d.b, 0, none⟩)) := fun y => by have := hl.cell (TX.nil y.ch); rw [hnode] at this; exact this
        have hnx := LinkAt.next (g := g) hnode
        rcases bit_rng bs k with h0 | h0
        · rw [h0] at HBIT hnx
          go_upto_region 5 with fail
          refine wp_region_quietA (wr) (by kernel_rfl) (by kernel_rfl) (Ch.refl _ _) ?_
          repeat (first
            | (go_big_quiet_want; refine quiet_rowA 24 _ rfl w.heap.size 0 rfl ac _ HRA.out Tryd.underlying24 rfl HI.out ?_; simp only [Act.put, List.setIfInBounds_toArray, List.set_cons_succ, List.set_cons_zero]; go_big_quiet_on)
            | go_big_quiet_step (first
              | (go_at_call 39; with_reducible exact after_of (HBIT.out _))))
          refine wpQuiet_nil ?_
          intro wq hwq
          go_wp2_with fail
          go_roundw
          case rel => exact ⟨k + 1, d.b, 20, rfl, by go_num, by omega, hnx, TX.nil hwq, CX.trans hwq, BX.ch hwq (by simp)⟩
          case measure => simp [intOf]; omega
        · rw [h0] at HBIT hnx
          go_upto_region 5 with fail
          refine wp_region_quietA (wr) (by kernel_rfl) (by kernel_rfl) (Ch.refl _ _) ?_
          repeat (first
            | (go_big_quiet_want; refine quiet_rowA 24 _ rfl w.heap.size 0 rfl ac _ HRA.out Tryd.underlying24 rfl HI.out ?_; simp only [Act.put, List.setIfInBounds_toArray, List.set_cons_succ, List.set_cons_zero]; go_big_quiet_on)
            | go_big_quiet_step (first
              | (go_at_call 39; with_reducible exact after_of (HBIT.out _))))
          refine wpQuiet_nil ?_
          intro wq hwq
          go_wp2_with fail
          go_roundw
          case rel => exact ⟨k + 1, d.b, 21, rfl, by go_num, by omega, hnx, TX.nil hwq, CX.trans hwq, BX.ch hwq (by simp)⟩
          case measure => simp [intOf]; omega

theorem trLinkCI {w : World} {g : Nat} {nd : Tri} {n : Int} (hT : TrI 81 76 w g nd n) {six : Bool} {bs : List Int} {k m : Nat} {la : Addr} (hl : LinkAt nd g (keyA six bs k) la) (hk : k ≤ m) (h : k = m ∨ nd (keyA six bs k) = none) : w.cell? la = some (ptrV (nd (keyA six bs m))) := by
  rcases h with rfl | h
  · exact hl.cell hT
  · rw [hl.cell hT, h, hT.past h m hk]
set_option maxRecDepth 20000 in
set_option maxHeartbeats 8000000 in
theorem trLkpI (w : World) (g : Nat) (nd : Tri) (n : Int) (hT : TrI 81 76 w g nd n) (p : Pfx) (hg : GoodA p.2.1) (o : Option ND) (ho : (if validP p then ndOn (nd (keyP p)) else none) = o) :
    Calls Tryd.prog 58 #[.pointer (some ⟨g, 0, none⟩), .agg (pfxC p).toArray] w fun e w' => e = .returned (ptrV o) ∧ Ch [] w w' := by
  have B0 : Blk (w.alloc (.cells (pfxC p).toArray 33)) w.heap.size 33 (pfxC p) := Blk.new w _ _
  have C0 : Ch [] w (w.alloc (.cells (pfxC p).toArray 33)) := (Ch.refl _ _).alloc _
  have HIP := hid (pfx_inf (p := p) hg.1)
  have HV := hid (validPfx p.1 p.2.1 p.2.2 hg)
  rw [show (p.1, p.2.1, p.2.2) = p from rfl] at HV
  cases hv : validP p with
  | false =>
    rw [hv] at HV ho
    simp only [Bool.false_eq_true, if_false] at ho
    subst ho
    generalize pfxC p = cs at *
    clear hT hv
    go_enter Tryd.func58, Tryd.ntmps58
    go_wp2_with (first
      | (refine wpList_load_want rfl 33 _ rfl w.heap.size 0 rfl cs _ B0.range Tryd.underlying33 rfl HIP.out ?_)
      | (go_at_call 36; (with_reducible refine (HV.out _).mono ?_); rintro e wn ⟨rfl, Cn⟩))
    go_ret
    exact ⟨rfl, C0.trans Cn⟩
  | true =>
    rw [hv] at HV ho
    simp only [if_true] at ho
    have hp : OkP p := ⟨hg, hv⟩
    have HT := hid (fun (w' : World) (c : Ch [] w w') => hT.nil c)
    have HFN : Hid (∀ w', Ch [] w w' → Calls Tryd.prog 71 #[.pointer (some ⟨g, 0, none⟩), .agg (pfxC p).toArray] w' fun e w'' => (∃ lb lo : Nat, e = .returned (.pointer (some ⟨lb, lo, none⟩)) ∧ w''.cell? ⟨lb, lo, none⟩ = some (ptrV (nd (keyP p)))) ∧ Ch [] w' w'') := fun w' c => by
      refine (trFindI w' g nd n (hT.nil c) p hp).mono ?_
      rintro e w'' ⟨⟨k, lb, lo, rfl, hl, hk, h⟩, c'⟩
      exact ⟨⟨lb, lo, rfl, trLinkCI ((hT.nil c).nil c') hl hk h⟩, c'⟩
    clear hp hv
    cases hn : nd (keyP p) with
    | none =>
      rw [hn] at HFN ho
      obtain rfl : none = o := ho
      replace HFN : Hid (∀ w', Ch [] w w' → Calls Tryd.prog 71 #[.pointer (some ⟨g, 0, none⟩), .agg (pfxC p).toArray] w' fun e w'' => (∃ lb lo : Nat, e = .returned (.pointer (some ⟨lb, lo, none⟩)) ∧ w''.cell? ⟨lb, lo, none⟩ = some (.pointer none)) ∧ Ch [] w' w'') := HFN
      generalize pfxC p = cs at *
      clear hT hn
      go_enter Tryd.func58, Tryd.ntmps58
      go_wp2_with (first
        | (refine wpList_load_want rfl 33 _ rfl w.heap.size 0 rfl cs _ B0.range Tryd.underlying33 rfl HIP.out ?_)
        | (go_at_call 36; (with_reducible refine (HV.out _).mono ?_); rintro e wn ⟨rfl, Cn⟩; replace B0 := B0.ch Cn (by simp); replace C0 := C0.trans Cn)
        | (go_at_call 71; (with_reducible refine (HFN.out _ C0).mono ?_); rintro e w2 ⟨⟨lb, lo, rfl, e_la⟩, C2⟩))
      go_ret
      exact ⟨rfl, C0.trans C2⟩
    | some d =>
      rw [hn] at HFN ho
      replace HFN : Hid (∀ w', Ch [] w w' → Calls Tryd.prog 71 #[.pointer (some ⟨g, 0, none⟩), .agg (pfxC p).toArray] w' fun e w'' => (∃ lb lo : Nat, e = .returned (.pointer (some ⟨lb, lo, none⟩)) ∧ w''.cell? ⟨lb, lo, none⟩ = some (.pointer (some ⟨d.b, 0, none⟩))) ∧ Ch [] w' w'') := HFN
      have H18 : Hid (∀ w', Ch [] w w' → w'.cell? ⟨d.b, 18, none⟩ = some (.bool d.pr)) := fun w' c => (((hT.nil c).node _ d hn).cell 18).trans (nodeC_at (hT.l16 hn) _ _ 0)
      cases hpr : d.pr with
      | false =>
        obtain rfl : none = o := by rw [← ho]; simp [ndOn, hpr]
        rw [hpr] at H18
        generalize pfxC p = cs at *
        clear hT hn hpr ho
        go_enter Tryd.func58, Tryd.ntmps58
        go_wp2_with (first
          | (refine wpList_load_want rfl 33 _ rfl w.heap.size 0 rfl cs _ B0.range Tryd.underlying33 rfl HIP.out ?_)
          | (go_at_call 36; (with_reducible refine (HV.out _).mono ?_); rintro e wn ⟨rfl, Cn⟩; replace B0 := B0.ch Cn (by simp); replace C0 := C0.trans Cn)
          | (go_at_call 71; (with_reducible refine (HFN.out _ C0).mono ?_); rintro e w2 ⟨⟨lb, lo, rfl, e_la⟩, C2⟩; have e18 := H18.out _ (C0.trans C2)))
        go_ret
        exact ⟨rfl, C0.trans C2⟩
      | true =>
        obtain rfl : some d = o := by rw [← ho]; simp [ndOn, hpr]
        rw [hpr] at H18
        generalize pfxC p = cs at *
        clear hT hn hpr ho
        go_enter Tryd.func58, Tryd.ntmps58
        go_wp2_with (first
          | (refine wpList_load_want rfl 33 _ rfl w.heap.size 0 rfl cs _ B0.range Tryd.underlying33 rfl HIP.out ?_)
          | (go_at_call 36; (with_reducible refine (HV.out _).mono ?_); rintro e wn ⟨rfl, Cn⟩; replace B0 := B0.ch Cn (by simp); replace C0 := C0.trans Cn)
          | (go_at_call 71; (with_reducible refine (HFN.out _ C0).mono ?_); rintro e w2 ⟨⟨lb, lo, rfl, e_la⟩, C2⟩; have e18 := H18.out _ (C0.trans C2)))
        go_ret
        exact ⟨rfl, C0.trans C2⟩
set_option maxRecDepth 20000 in
set_option maxHeartbeats 8000000 in
theorem trGetI (w : World) (g : Nat) (nd : Tri) (n : Int) (hT : TrI 81 76 w g nd n) (p : Pfx) (hg : GoodA p.2.1) (o : Option Value) (ho : (if validP p then nd.val (keyP p) else none) = o) :
    Calls Tryd.prog 34 #[.pointer (some ⟨g, 0, none⟩), .agg (pfxC p).toArray] w fun e w' => e = .returned (.tuple #[o.getD (.int .i64 0), .bool o.isSome]) ∧ Ch [] w w' := by
  have B0 : Blk (w.alloc (.cells (pfxC p).toArray 33)) w.heap.size 33 (pfxC p) := Blk.new w _ _
  have C0 : Ch [] w (w.alloc (.cells (pfxC p).toArray 33)) := (Ch.refl _ _).alloc _
  have HIP := hid (pfx_inf (p := p) hg.1)
  obtain ⟨od, hod⟩ : ∃ od, (if validP p then ndOn (nd (keyP p)) else none) = od := ⟨_, rfl⟩
  have HLK := hid (trLkpI _ g nd n (hT.nil C0) p hg od hod)
  cases od with
  | none =>
    have : o = none := by
      rw [← ho]
      cases hv : validP p
      · rfl
      · rw [hv] at hod
        simp only [if_true] at hod ⊢
        unfold Tri.val
        cases hn : nd (keyP p) with
        | none => rfl
        | some d =>
          rw [hn] at hod
          obtain ⟨b, q, pr, x⟩ := d
          cases pr
          · rfl
          · simp [ndOn] at hod
    subst this
    replace HLK : Hid (Calls Tryd.prog 58 #[.pointer (some ⟨g, 0, none⟩), .agg (pfxC p).toArray] _ fun e w' => e = .returned (.pointer none) ∧ Ch [] _ w') := HLK
    generalize pfxC p = cs at *
    clear hT hod ho
    go_enter Tryd.func34, Tryd.ntmps34
    go_wp2_with (first
      | (refine wpList_load_want rfl 33 _ rfl w.heap.size 0 rfl cs _ B0.range Tryd.underlying33 rfl HIP.out ?_)
      | (go_at_call 58; (with_reducible refine HLK.out.mono ?_); rintro e wn ⟨rfl, Cn⟩))
    go_ret2
    exact ⟨rfl, C0.trans Cn⟩
  | some d =>
    have hv : validP p = true := by
      cases hv : validP p
      · rw [hv] at hod; simp at hod
      · rfl
    rw [hv] at hod ho
    simp only [if_true] at hod ho
    cases hn : nd (keyP p) with
    | none => rw [hn] at hod; simp [ndOn] at hod
    | some d' =>
      rw [hn] at hod
      have hpr : d'.pr = true ∧ d' = d := by
        unfold ndOn at hod
        simp only [Option.bind_some] at hod
        split at hod
        · rename_i h
          exact ⟨h, Option.some.inj hod⟩
        · cases hod
      obtain ⟨hpr, rfl⟩ := hpr
      obtain rfl : o = some d'.x := by
        rw [← ho, Tri.val, hn]
        obtain ⟨b, q, pr, x⟩ := d'
        simp only at hpr
        subst hpr
        rfl
      have H19 : Hid (∀ w', Ch [] w w' → w'.cell? ⟨d'.b, 19, none⟩ = some d'.x) := fun w' c => (((hT.nil c).node _ d' hn).cell 19).trans (nodeC_at (hT.l16 hn) _ _ 1)
      replace HLK : Hid (Calls Tryd.prog 58 #[.pointer (some ⟨g, 0, none⟩), .agg (pfxC p).toArray] _ fun e w' => e = .returned (.pointer (some ⟨d'.b, 0, none⟩)) ∧ Ch [] _ w') := HLK
      generalize pfxC p = cs at *
      clear hT hod ho hn hpr
      go_enter Tryd.func34, Tryd.ntmps34
      go_wp2_with (first
        | (refine wpList_load_want rfl 33 _ rfl w.heap.size 0 rfl cs _ B0.range Tryd.underlying33 rfl HIP.out ?_)
        | (go_at_call 58; (with_reducible refine HLK.out.mono ?_); rintro e wn ⟨rfl, Cn⟩; have e19 := H19.out _ (C0.trans Cn)))
      go_ret2
      exact ⟨rfl, C0.trans Cn⟩
set_option maxRecDepth 20000 in
set_option maxHeartbeats 8000000 in
theorem trInsBadI (w : World) (g : Nat) (p : Pfx) (hg : GoodA p.2.1) (hv : validP p = false) (x : Int) :
    Calls Tryd.prog 12 #[.pointer (some ⟨g, 0, none⟩), .agg (pfxC p).toArray, .int .i64 x] w fun e w' => e = .returned (.bool false) ∧ Ch [] w w' := by
  have B0 : Blk (w.alloc (.cells (pfxC p).toArray 33)) w.heap.size 33 (pfxC p) := Blk.new w _ _
  have C0 : Ch [] w (w.alloc (.cells (pfxC p).toArray 33)) := (Ch.refl _ _).alloc _
  have HIP := hid (pfx_inf (p := p) hg.1)
  have HV := hid (validPfx p.1 p.2.1 p.2.2 hg)
  rw [show (p.1, p.2.1, p.2.2) = p from rfl, hv] at HV
  generalize pfxC p = cs at *
  clear hv
  go_enter Tryd.func12, Tryd.ntmps12
  go_wp2_with (first
    | (refine wpList_load_want rfl 33 _ rfl w.heap.size 0 rfl cs _ B0.range Tryd.underlying33 rfl HIP.out ?_)
    | (go_at_call 36; (with_reducible refine (HV.out _).mono ?_); rintro e wn ⟨rfl, Cn⟩))
  go_ret
  exact ⟨rfl, C0.trans Cn⟩
end Go.Proofs.YtjpiekljjhgmoaaDoor
