/- trie.Trie[int]: prune, Delete (printed by mk_trie6.py). -/
import Derived.Test.YtjpiekljjhgmoaaDoorTrGtI
import Derived.Deep.DeepCutAuto
import Derived.Deep.CutRange
namespace Go.Proofs.YtjpiekljjhgmoaaDoor
open Go.RowKit

theorem trLinkBI {nd : Tri} {g : Nat} {κ : Key} {lb lo : Nat} (h : LinkAt nd g κ ⟨lb, lo, none⟩) : lb = g ∨ ∃ κ d, nd κ = some d ∧ lb = d.b := by
  generalize hla : (⟨lb, lo, none⟩ : Addr) = la at h
  cases h with
  | root s => exact .inl (by injection hla)
  | child κ0 c d hd => exact .inr ⟨κ0, d, hd, by injection hla⟩
set_option maxRecDepth 20000 in
set_option maxHeartbeats 8000000 in
theorem trPruneI (w : World) (g : Nat) (nd : Tri) (n : Int) (F : List Nat) (hT : TrI 81 76 w g nd n) (hgF : g ∈ F) (hF : ∀ κ d, nd κ = some d → d.b ∈ F) (p : Pfx) (hp : OkP p) (hnd : nd (keyP p) ≠ none) :
    Calls Tryd.prog 59 #[.pointer (some ⟨g, 0, none⟩), .agg (pfxC p).toArray] w fun e w' => e = .returned (.tuple #[]) ∧ ∃ nd', TrI 81 76 w' g nd' n ∧ (∀ κ, nd'.val κ = nd.val κ) ∧ (∀ κ d, nd' κ = some d → nd κ = some d) ∧ Ch F w w' := by
  have hva := hp.va
  have hgd := hp.g
  have hrng := hp.rng
  have HFL : Hid (∀ b ∈ F, b < w.heap.size → b < w.heap.size) := fun _ _ h => h
  obtain ⟨m, hm⟩ : ∃ m : Nat, p.2.2 = m := ⟨p.2.2.toNat, by have := hp.nat.1; omega⟩
  have hkey : keyP p = keyA p.1 p.2.1 m := by unfold keyP; rw [hm, Int.toNat_natCast]
  have BP0 : Blk (w.alloc (.cells (pfxC p).toArray 33)) w.heap.size 33 (pfxC p) := Blk.new w _ _
  have h17 := pfx_bits (p := p) hp.g.1
  have haddr : ∀ j v, (addrC p.1 p.2.1)[j]? = some v → (pfxC p)[0 + j]? = some v := fun j v hj => pfx_addr (p := p) hj
  have C0 : Ch [] w (w.alloc (.cells (pfxC p).toArray 33)) := (Ch.refl _ _).alloc _
  rw [hkey] at hnd
  rw [hm] at hrng h17
  obtain ⟨six, bs, pn⟩ := p
  simp only at hm hva hgd hrng h17 haddr hkey hnd ⊢
  have hL := bitL_le six
  have HI := hid (addr_inf (six := six) hgd.1)
  generalize pfxC (six, bs, pn) = cs at BP0 h17 haddr C0 ⊢
  have HA := hid haddr
  have H17 := hid h17
  have HF := hid hF
  have HG0 : Hid (g < w.heap.size) := hT.root.lt
  have HB0 : Hid (∀ κ d, nd κ = some d → d.b < w.heap.size) := fun κ d h => (hT.node κ d h).lt
  clear hp hm hkey haddr h17 hF
  have T0 := hT.nil C0
  have e17 : (w.alloc (.cells cs.toArray 33)).cell? ⟨w.heap.size, 17, none⟩ = some (.int .i64 m) := (BP0.cell 17).trans H17.out
  have HPO : Hid (∀ k : Nat, k ≤ m → ∃ (y0 y1 y2 y3 y4 y5 y6 y7 y8 y9 y10 y11 y12 y13 y14 y15 : Int), GoodA [y0, y1, y2, y3, y4, y5, y6, y7, y8, y9, y10, y11, y12, y13, y14, y15] ∧ OkP (six, [y0, y1, y2, y3, y4, y5, y6, y7, y8, y9, y10, y11, y12, y13, y14, y15], (k : Int)) ∧ (∀ j, j ≤ k → keyA six [y0, y1, y2, y3, y4, y5, y6, y7, y8, y9, y10, y11, y12, y13, y14, y15] j = keyA six bs j) ∧ ∀ w, Calls Tryd.prog 38 #[.agg (addrC six bs).toArray, .int .i64 k] w fun e w' => e = .returned (.tuple #[.agg #[.bool six, .int .u8 y0, .int .u8 y1, .int .u8 y2, .int .u8 y3, .int .u8 y4, .int .u8 y5, .int .u8 y6, .int .u8 y7, .int .u8 y8, .int .u8 y9, .int .u8 y10, .int .u8 y11, .int .u8 y12, .int .u8 y13, .int .u8 y14, .int .u8 y15, .int .i64 k], .bool true]) ∧ Ch [] w w') := fun k hk => by
    obtain ⟨y0, y1, y2, y3, y4, y5, y6, y7, y8, y9, y10, y11, y12, y13, y14, y15, hy⟩ := len16 (trunc_good hgd k).1
    have h1 := pfxOfP six bs hgd hva k (by omega)
    have h2 := okP_of hgd hva (k := k) (by omega)
    have h3 : ∀ j, j ≤ k → keyA six (truncL bs k) j = keyA six bs j := fun j hj => by
      have hk8 : k ≤ 128 := by omega
      have := keyA_trunc six hgd hk8
      unfold keyA at this ⊢
      rw [List.cons.injEq, bits_eq] at this ⊢
      exact ⟨rfl, fun i hi => this.2 i (by omega)⟩
    rw [hy] at h1 h2 h3
    exact ⟨y0, y1, y2, y3, y4, y5, y6, y7, y8, y9, y10, y11, y12, y13, y14, y15, h2.g, h2, h3, h1⟩
  clear hva hgd
  have hval0 : ∀ κ, nd.val κ = nd.val κ := fun _ => rfl
  generalize addrC six bs = ac at HI HA HPO
  go_enter Tryd.func59, Tryd.ntmps59
  go_wp2_with fail
  go_loopw [4] (fun i wr => ∃ (b : Int) (nd' : Tri), i = .int .i64 b ∧ -1 ≤ b ∧ b ≤ m ∧ (0 ≤ b → nd' (keyA six bs b.toNat) ≠ none) ∧ TrI 81 76 wr g nd' n ∧ Hid (∀ κ, nd'.val κ = nd.val κ) ∧ Hid (∀ κ d, nd' κ = some d → nd κ = some d) ∧ Ch F w wr ∧ Blk wr w.heap.size 33 cs) (fun i _ => (intOf i + 1).toNat)
  case atStart => exact ⟨m, nd, rfl, by omega, by omega, fun _ => by rw [Int.toNat_natCast]; exact hnd, T0, fun _ => rfl, fun _ _ h => h, (Ch.refl F w).alloc _, BP0⟩
  case round =>
    clear T0 C0 BP0 hnd e17 hval0 hT
    obtain ⟨b, nd', rfl, hb0, hbm, hnn, TX, HV, HS, CX, BX⟩ := hrel
    by_cases hb : 0 ≤ b
    · obtain ⟨k, rfl⟩ := Int.eq_ofNat_of_zero_le hb
      have hk : k ≤ m := by omega
      replace hnn := hnn hb
      rw [Int.toNat_natCast] at hnn
      cases hnode : nd' (keyA six bs k) with
      | none => exact absurd hnode hnn
      | some d =>
        obtain ⟨y0, y1, y2, y3, y4, y5, y6, y7, y8, y9, y10, y11, y12, y13, y14, y15, hgq, hokq, hkeyq, HPF⟩ := HPO.out k hk
        replace HPF := hid HPF
        have HKQ := hid hkeyq
        have HIQ : Hid ((Tryd.prog.info? 33).map (·.size) = some (List.length ([.bool six, .int .u8 y0, .int .u8 y1, .int .u8 y2, .int .u8 y3, .int .u8 y4, .int .u8 y5, .int .u8 y6, .int .u8 y7, .int .u8 y8, .int .u8 y9, .int .u8 y10, .int .u8 y11, .int .u8 y12, .int .u8 y13, .int .u8 y14, .int .u8 y15, .int .i64 k] : List Value))) := pfx_inf (p := (six, [y0, y1, y2, y3, y4, y5, y6, y7, y8, y9, y10, y11, y12, y13, y14, y15], (k : Int))) rfl
        have HFN : Hid (∀ w', Ch [] wr w' → Calls Tryd.prog 71 #[.pointer (some ⟨g, 0, none⟩), .agg #[.bool six, .int .u8 y0, .int .u8 y1, .int .u8 y2, .int .u8 y3, .int .u8 y4, .int .u8 y5, .int .u8 y6, .int .u8 y7, .int .u8 y8, .int .u8 y9, .int .u8 y10, .int .u8 y11, .int .u8 y12, .int .u8 y13, .int .u8 y14, .int .u8 y15, .int .i64 k]] w' fun e w'' => (∃ lb lo : Nat, e = .returned (.pointer (some ⟨lb, lo, none⟩)) ∧ LinkAt nd' g (keyA six bs k) ⟨lb, lo, none⟩) ∧ Ch [] w' w'') := fun w' c => by
          refine (trFindI w' g nd' n (TX.nil c) (six, [y0, y1, y2, y3, y4, y5, y6, y7, y8, y9, y10, y11, y12, y13, y14, y15], (k : Int)) hokq).mono ?_
          rintro e w'' ⟨⟨j, lb, lo, rfl, hl, hj, h⟩, c'⟩
          simp only [Int.toNat_natCast] at hj h hl
          rw [hkeyq j hj] at h hl
          refine ⟨⟨lb, lo, rfl, ?_⟩, c'⟩
          rcases h with rfl | h
          · exact hl
          · exact absurd (TX.past h k hj) hnn
        have HLC : Hid (∀ w' lb lo, Ch [] wr w' → LinkAt nd' g (keyA six bs k) ⟨lb, lo, none⟩ → w'.cell? ⟨lb, lo, none⟩ = some (.pointer (some ⟨d.b, 0, none⟩))) := fun w' lb lo c hl => by
          have := hl.cell (TX.nil c)
          rw [hnode] at this
          exact this
        obtain ⟨p0, hp0⟩ : ∃ p0, ptrV (nd' (keyA six bs k ++ [false])) = .pointer p0 := by cases nd' (keyA six bs k ++ [false]) <;> exact ⟨_, rfl⟩
        obtain ⟨p1, hp1⟩ : ∃ p1, ptrV (nd' (keyA six bs k ++ [true])) = .pointer p1 := by cases nd' (keyA six bs k ++ [true]) <;> exact ⟨_, rfl⟩
        have H18 : Hid (∀ w', Ch [] wr w' → w'.cell? ⟨d.b, 18, none⟩ = some (.bool d.pr)) := fun w' c => (((TX.nil c).node _ d hnode).cell 18).trans (nodeC_at (TX.l16 hnode) _ _ 0)
        have H20 : Hid (∀ w', Ch [] wr w' → w'.cell? ⟨d.b, 20, none⟩ = some (.pointer p0)) := fun w' c => by
          have := (((TX.nil c).node _ d hnode).cell 20).trans (nodeC_at (TX.l16 hnode) _ _ 2)
          rw [this, ← hp0]; rfl
        have H21 : Hid (∀ w', Ch [] wr w' → w'.cell? ⟨d.b, 21, none⟩ = some (.pointer p1)) := fun w' c => by
          have := (((TX.nil c).node _ d hnode).cell 21).trans (nodeC_at (TX.l16 hnode) _ _ 3)
          rw [this, ← hp1]; rfl
        have HP0 := hid hp0
        have HP1 := hid hp1
        have e17 : wr.cell? ⟨w.heap.size, 17, none⟩ = some (.int .i64 m) := (BX.cell 17).trans H17.out
        clear hkeyq hokq hgq hp0 hp1
        have szr := CX.size
        cases hpr : d.pr with
        | true =>
          rw [hpr] at H18
          go_wp2_with (first
            | go_skip
            | (refine wpList_load_want rfl 24 _ rfl w.heap.size 0 rfl ac _ (BX.rangeMid 0 _ HA.out) Tryd.underlying24 rfl HI.out ?_)
            | (go_at_call 38; (with_reducible refine (HPF.out _).mono ?_); rintro e w1 ⟨rfl, C1⟩; have sz1 := C1.size)
            | (refine wpList_storeB rfl 33 _ _ rfl w1.heap.size 33 (pfxC (false, zeros, 0)) [.bool six, .int .u8 y0, .int .u8 y1, .int .u8 y2, .int .u8 y3, .int .u8 y4, .int .u8 y5, .int .u8 y6, .int .u8 y7, .int .u8 y8, .int .u8 y9, .int .u8 y10, .int .u8 y11, .int .u8 y12, .int .u8 y13, .int .u8 y14, .int .u8 y15, .int .i64 k] rfl rfl (Blk.new _ _ _) HIQ.out rfl (pfx_one (six, [y0, y1, y2, y3, y4, y5, y6, y7, y8, y9, y10, y11, y12, y13, y14, y15], (k : Int))) ?_; intro w3 B3 C3 Z3; clear Z3; have C3' := (C1.alloc _).step C3 (fun i hi => .inr (by simp at hi; omega)))
            | (refine wpList_load_want rfl 33 _ rfl w1.heap.size 0 rfl [.bool six, .int .u8 y0, .int .u8 y1, .int .u8 y2, .int .u8 y3, .int .u8 y4, .int .u8 y5, .int .u8 y6, .int .u8 y7, .int .u8 y8, .int .u8 y9, .int .u8 y10, .int .u8 y11, .int .u8 y12, .int .u8 y13, .int .u8 y14, .int .u8 y15, .int .i64 k] _ B3.range Tryd.underlying33 rfl HIQ.out ?_)
            | (go_at_call 71; (with_reducible refine (HFN.out _ C3').mono ?_); rintro e w4 ⟨⟨lb, lo, rfl, hl4⟩, C4⟩; replace C4 := C3'.trans C4; have T4 := TX.nil C4; have e_la := HLC.out _ _ _ C4 hl4; have f_la := hl4.frozen T4; have e18 := H18.out _ C4; have e20 := H20.out _ C4; have e21 := H21.out _ C4))
          try simp only [Exit.inBlock, Exit.then]
          refine bodyPost_ret (results_none rfl _ _ _) rfl ?_
          exact ⟨rfl, nd', T4, HV.out, HS.out, CX.step C4 (by simp)⟩
        | false =>
          rw [hpr] at H18
          cases p0 with
          | some a0 =>
            go_wp2_with (first
            | go_skip
            | (refine wpList_load_want rfl 24 _ rfl w.heap.size 0 rfl ac _ (BX.rangeMid 0 _ HA.out) Tryd.underlying24 rfl HI.out ?_)
            | (go_at_call 38; (with_reducible refine (HPF.out _).mono ?_); rintro e w1 ⟨rfl, C1⟩; have sz1 := C1.size)
            | (refine wpList_storeB rfl 33 _ _ rfl w1.heap.size 33 (pfxC (false, zeros, 0)) [.bool six, .int .u8 y0, .int .u8 y1, .int .u8 y2, .int .u8 y3, .int .u8 y4, .int .u8 y5, .int .u8 y6, .int .u8 y7, .int .u8 y8, .int .u8 y9, .int .u8 y10, .int .u8 y11, .int .u8 y12, .int .u8 y13, .int .u8 y14, .int .u8 y15, .int .i64 k] rfl rfl (Blk.new _ _ _) HIQ.out rfl (pfx_one (six, [y0, y1, y2, y3, y4, y5, y6, y7, y8, y9, y10, y11, y12, y13, y14, y15], (k : Int))) ?_; intro w3 B3 C3 Z3; clear Z3; have C3' := (C1.alloc _).step C3 (fun i hi => .inr (by simp at hi; omega)))
            | (refine wpList_load_want rfl 33 _ rfl w1.heap.size 0 rfl [.bool six, .int .u8 y0, .int .u8 y1, .int .u8 y2, .int .u8 y3, .int .u8 y4, .int .u8 y5, .int .u8 y6, .int .u8 y7, .int .u8 y8, .int .u8 y9, .int .u8 y10, .int .u8 y11, .int .u8 y12, .int .u8 y13, .int .u8 y14, .int .u8 y15, .int .i64 k] _ B3.range Tryd.underlying33 rfl HIQ.out ?_)
            | (go_at_call 71; (with_reducible refine (HFN.out _ C3').mono ?_); rintro e w4 ⟨⟨lb, lo, rfl, hl4⟩, C4⟩; replace C4 := C3'.trans C4; have T4 := TX.nil C4; have e_la := HLC.out _ _ _ C4 hl4; have f_la := hl4.frozen T4; have e18 := H18.out _ C4; have e20 := H20.out _ C4; have e21 := H21.out _ C4))
            try simp only [Exit.inBlock, Exit.then]
            refine bodyPost_ret (results_none rfl _ _ _) rfl ?_
            exact ⟨rfl, nd', T4, HV.out, HS.out, CX.step C4 (by simp)⟩
          | none =>
            cases p1 with
            | some a1 =>
              go_wp2_with (first
            | go_skip
            | (refine wpList_load_want rfl 24 _ rfl w.heap.size 0 rfl ac _ (BX.rangeMid 0 _ HA.out) Tryd.underlying24 rfl HI.out ?_)
            | (go_at_call 38; (with_reducible refine (HPF.out _).mono ?_); rintro e w1 ⟨rfl, C1⟩; have sz1 := C1.size)
            | (refine wpList_storeB rfl 33 _ _ rfl w1.heap.size 33 (pfxC (false, zeros, 0)) [.bool six, .int .u8 y0, .int .u8 y1, .int .u8 y2, .int .u8 y3, .int .u8 y4, .int .u8 y5, .int .u8 y6, .int .u8 y7, .int .u8 y8, .int .u8 y9, .int .u8 y10, .int .u8 y11, .int .u8 y12, .int .u8 y13, .int .u8 y14, .int .u8 y15, .int .i64 k] rfl rfl (Blk.new _ _ _) HIQ.out rfl (pfx_one (six, [y0, y1, y2, y3, y4, y5, y6, y7, y8, y9, y10, y11, y12, y13, y14, y15], (k : Int))) ?_; intro w3 B3 C3 Z3; clear Z3; have C3' := (C1.alloc _).step C3 (fun i hi => .inr (by simp at hi; omega)))
            | (refine wpList_load_want rfl 33 _ rfl w1.heap.size 0 rfl [.bool six, .int .u8 y0, .int .u8 y1, .int .u8 y2, .int .u8 y3, .int .u8 y4, .int .u8 y5, .int .u8 y6, .int .u8 y7, .int .u8 y8, .int .u8 y9, .int .u8 y10, .int .u8 y11, .int .u8 y12, .int .u8 y13, .int .u8 y14, .int .u8 y15, .int .i64 k] _ B3.range Tryd.underlying33 rfl HIQ.out ?_)
            | (go_at_call 71; (with_reducible refine (HFN.out _ C3').mono ?_); rintro e w4 ⟨⟨lb, lo, rfl, hl4⟩, C4⟩; replace C4 := C3'.trans C4; have T4 := TX.nil C4; have e_la := HLC.out _ _ _ C4 hl4; have f_la := hl4.frozen T4; have e18 := H18.out _ C4; have e20 := H20.out _ C4; have e21 := H21.out _ C4))
              try simp only [Exit.inBlock, Exit.then]
              refine bodyPost_ret (results_none rfl _ _ _) rfl ?_
              exact ⟨rfl, nd', T4, HV.out, HS.out, CX.step C4 (by simp)⟩
            | none =>
              go_wp2_with (first
            | go_skip
            | (refine wpList_load_want rfl 24 _ rfl w.heap.size 0 rfl ac _ (BX.rangeMid 0 _ HA.out) Tryd.underlying24 rfl HI.out ?_)
            | (go_at_call 38; (with_reducible refine (HPF.out _).mono ?_); rintro e w1 ⟨rfl, C1⟩; have sz1 := C1.size)
            | (refine wpList_storeB rfl 33 _ _ rfl w1.heap.size 33 (pfxC (false, zeros, 0)) [.bool six, .int .u8 y0, .int .u8 y1, .int .u8 y2, .int .u8 y3, .int .u8 y4, .int .u8 y5, .int .u8 y6, .int .u8 y7, .int .u8 y8, .int .u8 y9, .int .u8 y10, .int .u8 y11, .int .u8 y12, .int .u8 y13, .int .u8 y14, .int .u8 y15, .int .i64 k] rfl rfl (Blk.new _ _ _) HIQ.out rfl (pfx_one (six, [y0, y1, y2, y3, y4, y5, y6, y7, y8, y9, y10, y11, y12, y13, y14, y15], (k : Int))) ?_; intro w3 B3 C3 Z3; clear Z3; have C3' := (C1.alloc _).step C3 (fun i hi => .inr (by simp at hi; omega)))
            | (refine wpList_load_want rfl 33 _ rfl w1.heap.size 0 rfl [.bool six, .int .u8 y0, .int .u8 y1, .int .u8 y2, .int .u8 y3, .int .u8 y4, .int .u8 y5, .int .u8 y6, .int .u8 y7, .int .u8 y8, .int .u8 y9, .int .u8 y10, .int .u8 y11, .int .u8 y12, .int .u8 y13, .int .u8 y14, .int .u8 y15, .int .i64 k] _ B3.range Tryd.underlying33 rfl HIQ.out ?_)
            | (go_at_call 71; (with_reducible refine (HFN.out _ C3').mono ?_); rintro e w4 ⟨⟨lb, lo, rfl, hl4⟩, C4⟩; replace C4 := C3'.trans C4; have T4 := TX.nil C4; have e_la := HLC.out _ _ _ C4 hl4; have f_la := hl4.frozen T4; have e18 := H18.out _ C4; have e20 := H20.out _ C4; have e21 := H21.out _ C4))
              have hk0 : nd' (keyA six bs k ++ [false]) = none := by have := HP0.out; cases h : nd' (keyA six bs k ++ [false]) with
                | none => rfl
                | some d' => rw [h] at this; cases this
              have hk1 : nd' (keyA six bs k ++ [true]) = none := by have := HP1.out; cases h : nd' (keyA six bs k ++ [true]) with
                | none => rfl
                | some d' => rw [h] at this; cases this
              have T5 := T4.relink (by decide) hl4 none hk0 hk1 (fun d h => by cases h)
              have hlF : lb ∈ F := by
                rcases trLinkBI hl4 with h | ⟨κ0, d0, hd0, h⟩
                · rw [h]; exact hgF
                · rw [h]; exact HF.out _ _ (HS.out _ _ hd0)
              have hlt : lb ≠ w.heap.size := by
                rcases trLinkBI hl4 with h | ⟨κ0, d0, hd0, h⟩
                · have := HG0.out; omega
                · have := HB0.out _ _ (HS.out _ _ hd0); omega
              have B5 := (BX.ch C4 (by simp)).far (p := ⟨lb, lo, none⟩) (by simp only; omega) (.pointer none)
              have C5 := (CX.step C4 (by simp)).setCell (p := ⟨lb, lo, none⟩) (.inl hlF) (.pointer none)
              have HV5 : Hid (∀ κ, (nd'.set (keyA six bs k) none).val κ = nd.val κ) := fun κ => by
                by_cases e : κ = keyA six bs k
                · subst e
                  rw [← HV.out]
                  unfold Tri.val
                  rw [Tri.set_same, hnode]
                  obtain ⟨b, q, pr, x⟩ := d
                  simp only at hpr
                  subst hpr
                  rfl
                · rw [Tri.val_set_other _ _ e, HV.out]
              have HS5 : Hid (∀ κ d, (nd'.set (keyA six bs k) none) κ = some d → nd κ = some d) := fun κ d h => by
                by_cases e : κ = keyA six bs k
                · subst e; rw [Tri.set_same] at h; cases h
                · rw [Tri.set_other _ _ e] at h; exact HS.out κ d h
              have hnx : ∀ j, k = j + 1 → (nd'.set (keyA six bs k) none) (keyA six bs j) ≠ none := fun j hj => by
                rw [Tri.set_other _ _ (fun e => by have := congrArg List.length e; rw [keyA_len, keyA_len] at this; omega)]
                subst hj
                rw [keyA_succ] at hnn
                exact TX.par _ _ (keyA_ne _ _ _) hnn
              clear hl4 T4 e_la f_la e18 e20 e21
              generalize nd'.set (keyA six bs k) none = nd5 at T5 HV5 HS5 hnx
              go_roundw
              case rel => exact ⟨(k : Int) - 1, nd5, by go_num, by omega, by omega, fun h => hnx _ (by omega), T5, HV5, HS5, C5, B5⟩
              case measure => simp [intOf]
    · obtain rfl : b = -1 := by omega
      go_wp2_with fail
      go_end0
      exact ⟨rfl, nd', TX, HV.out, HS.out, CX⟩
set_option maxRecDepth 20000 in
set_option maxHeartbeats 8000000 in
theorem trDelNoI (w : World) (g : Nat) (nd : Tri) (n : Int) (hT : TrI 81 76 w g nd n) (p : Pfx) (hg : GoodA p.2.1) (ho : (if validP p then ndOn (nd (keyP p)) else none) = none) :
    Calls Tryd.prog 33 #[.pointer (some ⟨g, 0, none⟩), .agg (pfxC p).toArray] w fun e w' => e = .returned (.bool false) ∧ Ch [] w w' := by
  have B0 : Blk (w.alloc (.cells (pfxC p).toArray 33)) w.heap.size 33 (pfxC p) := Blk.new w _ _
  have C0 : Ch [] w (w.alloc (.cells (pfxC p).toArray 33)) := (Ch.refl _ _).alloc _
  have HIP := hid (pfx_inf (p := p) hg.1)
  have HLK : Hid (Calls Tryd.prog 58 #[.pointer (some ⟨g, 0, none⟩), .agg (pfxC p).toArray] (w.alloc (.cells (pfxC p).toArray 33)) fun e w' => e = .returned (.pointer none) ∧ Ch [] (w.alloc (.cells (pfxC p).toArray 33)) w') := trLkpI _ g nd n (hT.nil C0) p hg none ho
  generalize pfxC p = cs at *
  clear hT ho
  go_enter Tryd.func33, Tryd.ntmps33
  go_wp2_with (first
    | (refine wpList_load_want rfl 33 _ rfl w.heap.size 0 rfl cs _ B0.range Tryd.underlying33 rfl HIP.out ?_)
    | (go_at_call 58; (with_reducible refine HLK.out.mono ?_); rintro e wn ⟨rfl, Cn⟩))
  go_ret
  exact ⟨rfl, C0.trans Cn⟩
set_option maxRecDepth 20000 in
set_option maxHeartbeats 8000000 in
theorem trDelI (w : World) (g : Nat) (nd : Tri) (n : Int) (F : List Nat) (hT : TrI 81 76 w g nd n) (hgF : g ∈ F) (hF : ∀ κ d, nd κ = some d → d.b ∈ F) (hn : 0 ≤ n ∧ n ≤ 1000000) (p : Pfx) (hp : OkP p) (v : Value) (hv : nd.val (keyP p) = some v) :
    Calls Tryd.prog 33 #[.pointer (some ⟨g, 0, none⟩), .agg (pfxC p).toArray] w fun e w' => e = .returned (.bool true) ∧ ∃ nd', TrI 81 76 w' g nd' (n - 1) ∧ (∀ κ, nd'.val κ = if κ = keyP p then none else nd.val κ) ∧ (∀ κ d, nd' κ = some d → d.b ∈ F) ∧ Ch F w w' := by
  obtain ⟨db, dq, hd⟩ := Tri.val_some hv
  have B0 : Blk (w.alloc (.cells (pfxC p).toArray 33)) w.heap.size 33 (pfxC p) := Blk.new w _ _
  have C0 : Ch [] w (w.alloc (.cells (pfxC p).toArray 33)) := (Ch.refl _ _).alloc _
  have HIP := hid (pfx_inf (p := p) hp.g.1)
  have HLK : Hid (Calls Tryd.prog 58 #[.pointer (some ⟨g, 0, none⟩), .agg (pfxC p).toArray] (w.alloc (.cells (pfxC p).toArray 33)) fun e w' => e = .returned (.pointer (some ⟨db, 0, none⟩)) ∧ Ch [] (w.alloc (.cells (pfxC p).toArray 33)) w') := trLkpI _ g nd n (hT.nil C0) p hp.g (some ⟨db, dq, true, v⟩) (by rw [hp.v, hd]; simp [ndOn])
  have hne : db ≠ g := hT.ne (by decide) hd
  have HFR : Hid (∀ w', Ch [] w w' → w'.frozen? ⟨db, 18, none⟩ = false ∧ w'.frozen? ⟨db, 19, none⟩ = false ∧ w'.frozen? ⟨g, 2, none⟩ = false ∧ w'.cell? ⟨g, 2, none⟩ = some (.int .i64 n) ∧ w'.cell? ⟨db, 18, none⟩ = some (.bool true) ∧ w'.cell? ⟨db, 19, none⟩ = some v) := fun w' c => ⟨((hT.nil c).node _ _ hd).frozen 18, ((hT.nil c).node _ _ hd).frozen 19, (hT.nil c).root.frozen 2, (hT.nil c).root.cell 2, (((hT.nil c).node _ _ hd).cell 18).trans (nodeC_at (hT.l16 hd) _ _ 0), (((hT.nil c).node _ _ hd).cell 19).trans (nodeC_at (hT.l16 hd) _ _ 1)⟩
  have hbF : db ∈ F := hF _ _ hd
  have HPR : Hid (∀ w', Ch [] w w' → Calls Tryd.prog 59 #[.pointer (some ⟨g, 0, none⟩), .agg (pfxC p).toArray] (((w'.setCell ⟨db, 18, none⟩ (.bool false)).setCell ⟨db, 19, none⟩ (.int .i64 0)).setCell ⟨g, 2, none⟩ (.int .i64 (n - 1))) fun e w'' => e = .returned (.tuple #[]) ∧ ∃ nd', TrI 81 76 w'' g nd' (n - 1) ∧ (∀ κ, nd'.val κ = if κ = keyP p then none else nd.val κ) ∧ (∀ κ d, nd' κ = some d → d.b ∈ F) ∧ Ch F w w'') := fun w' c => by
    have T1 := ((hT.nil c).put (by decide) hd false (.int .i64 0)).count (by decide) (n - 1)
    have hb1 : ∀ κ d, (nd.set (keyP p) (some { (⟨db, dq, true, v⟩ : ND) with pr := false, x := .int .i64 0 })) κ = some d → d.b ∈ F := blk_set (Q := fun z => z ∈ F) hF ⟨db, dq, false, .int .i64 0⟩ hbF
    refine (trPruneI _ g _ (n - 1) F T1 hgF hb1 p hp (by rw [Tri.set_same]; simp)).mono ?_
    rintro e w'' ⟨h1, nd', h2, h3, h4, h5⟩
    refine ⟨h1, nd', h2, fun κ => ?_, fun κ d h => hb1 κ d (h4 κ d h), ?_⟩
    · rw [h3]
      by_cases e : κ = keyP p
      · subst e
        rw [if_pos rfl]
        exact Tri.val_set_off nd _ db dq _
      · rw [if_neg e, Tri.val_set_other _ _ e]
    · have c1 : Ch F w (((w'.setCell ⟨db, 18, none⟩ (.bool false)).setCell ⟨db, 19, none⟩ (.int .i64 0)).setCell ⟨g, 2, none⟩ (.int .i64 (n - 1))) := (((c.mono (by simp)).setCell (.inl hbF) _).setCell (.inl hbF) _).setCell (.inl hgF) _
      exact c1.step h5 (fun i hi => .inl hi)
  have H0 : ∀ w', Ch [] w w' → w'.rangeAt w.heap.size 0 (pfxC p) → (((w'.setCell ⟨db, 18, none⟩ (.bool false)).setCell ⟨db, 19, none⟩ (.int .i64 0)).setCell ⟨g, 2, none⟩ (.int .i64 (n - 1))).rangeAt w.heap.size 0 (pfxC p) := fun w' c h j u hj => by
    have h1 : db < w.heap.size := (hT.node _ _ hd).lt
    have h2 := hT.root.lt
    have hx : ∀ (w1 : World) (a : Addr) (z : Value) (i : Nat), a.block ≠ w.heap.size → (w1.setCell a z).cell? ⟨w.heap.size, i, none⟩ = w1.cell? ⟨w.heap.size, i, none⟩ := fun w1 a z i hne => World.cell?_of_block (w := w1) (Below.heap_setCell w1 a z w.heap.size (Ne.symm hne))
    rw [hx _ _ _ _ (by simp only; omega), hx _ _ _ _ (by simp only; omega), hx _ _ _ _ (by simp only; omega)]
    exact h j u hj
  have HR0 := hid H0
  clear H0
  generalize pfxC p = cs at *
  clear hT hd hv hF
  go_enter Tryd.func33, Tryd.ntmps33
  go_upto_region 7 with (first
    | (refine wpList_load_want rfl 33 _ rfl w.heap.size 0 rfl cs _ B0.range Tryd.underlying33 rfl HIP.out ?_)
    | (go_at_call 58; (with_reducible refine HLK.out.mono ?_); rintro e wn ⟨rfl, Cn⟩; obtain ⟨f18, f19, fg2, eg2, e18, e19⟩ := HFR.out _ (C0.trans Cn)))
  have PR := HPR.out wn (C0.trans Cn)
  have RR := HR0.out wn (C0.trans Cn) (B0.ch Cn (by simp)).range
  generalize (((wn.setCell ⟨db, 18, none⟩ (.bool false)).setCell ⟨db, 19, none⟩ (.int .i64 0)).setCell ⟨g, 2, none⟩ (.int .i64 (n - 1))) = wx at PR RR ⊢
  go_wp2_with (first
    | (refine wpList_load_want rfl 33 _ rfl w.heap.size 0 rfl cs _ RR Tryd.underlying33 rfl HIP.out ?_)
    | (go_at_call 59; (with_reducible refine PR.mono ?_); rintro e w3 ⟨rfl, nd', h2, h3, h4, h5⟩))
  go_ret
  exact ⟨rfl, nd', h2, h3, h4, h5⟩
end Go.Proofs.YtjpiekljjhgmoaaDoor
