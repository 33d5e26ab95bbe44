/- The reference's Compare and ComparePrefix; gen.Prefix (printed by mk_trcm.py). -/
import Derived.Test.YtjpiekljjhgmoaaDoorTrG
import Derived.Test.YtjpiekljjhgmoaaDoorGenD
import Derived.Test.YtjpiekljjhgmoaaDoorTrC
import Derived.Deep.DeepCutAuto
import Derived.Deep.CutRange
namespace Go.Proofs.YtjpiekljjhgmoaaDoor
open Go.RowKit

set_option maxRecDepth 20000 in
set_option maxHeartbeats 8000000 in
theorem refCmp (s t : Bool) (a b : List Int) (ha : GoodA a) (hb : GoodA b) (w : World) :
    Calls Tryd.prog 70 #[.agg (addrC s a).toArray, .agg (addrC t b).toArray] w fun e w' => e = .returned (.int .i64 (cmpA s t a b)) ∧ Ch [] w w' := by
  have B0 : Blk ((w.alloc (.cells (addrC s a).toArray 24)).alloc (.cells (addrC t b).toArray 24)) w.heap.size 24 (addrC s a) := (Blk.new w _ _).alloc _
  have B1 : Blk ((w.alloc (.cells (addrC s a).toArray 24)).alloc (.cells (addrC t b).toArray 24)) (w.heap.size + 1) 24 (addrC t b) := Blk.newAt _ _ _ (by simp)
  have C0 : Ch [] w ((w.alloc (.cells (addrC s a).toArray 24)).alloc (.cells (addrC t b).toArray 24)) := ((Ch.refl _ _).alloc _).alloc _
  have e0 : ((w.alloc (.cells (addrC s a).toArray 24)).alloc (.cells (addrC t b).toArray 24)).cell? ⟨w.heap.size, 0, none⟩ = some (.bool s) := B0.cell 0
  have e1 : ((w.alloc (.cells (addrC s a).toArray 24)).alloc (.cells (addrC t b).toArray 24)).cell? ⟨w.heap.size + 1, 0, none⟩ = some (.bool t) := B1.cell 0
  have HA : Hid (∀ k : Nat, k < 16 → (addrC s a)[1 + k]? = some (.int .u8 (at_ a k))) := fun k hk => addrC_byte (by rw [ha.1]; exact hk)
  have HB : Hid (∀ k : Nat, k < 16 → (addrC t b)[1 + k]? = some (.int .u8 (at_ b k))) := fun k hk => addrC_byte (by rw [hb.1]; exact hk)
  have HL : Hid (a.length = 16 ∧ b.length = 16) := ⟨ha.1, hb.1⟩
  generalize addrC s a = ca at *
  generalize addrC t b = cb at *
  clear ha hb
  by_cases hst : s = t
  · subst hst
    have hcm : cmpA s s a b = cmpB a b := by unfold cmpA; rw [if_pos rfl]
    rw [hcm]
    clear hcm
    go_enter Tryd.func70, Tryd.ntmps70
    go_upto_region 1 with fail
    generalize ((w.alloc (.cells ca.toArray 24)).alloc (.cells cb.toArray 24)) = w0 at *
    have hss : (s != s) = false := by cases s <;> rfl
    cases s
    all_goals
      go_wp2_with fail
      go_loopw [5] (fun i wr => ∃ k : Nat, i = .int .i64 k ∧ k ≤ 16 ∧ Hid (∀ j, j < k → at_ a j = at_ b j) ∧ Blk wr w.heap.size 24 ca ∧ Blk wr (w.heap.size + 1) 24 cb ∧ Ch [] w wr) (fun i _ => 16 - (intOf i).toNat)
      case atStart => exact ⟨0, rfl, by omega, fun j hj => by omega, B0, B1, C0⟩
      case round =>
        clear B0 B1 C0 e0 e1
        obtain ⟨k, rfl, hk, HE, BX, BY, CX⟩ := hrel
        by_cases hlt : k < 16
        · have kx : ∀ y : After wr, y.w.cell? ⟨w.heap.size, 1 + k, none⟩ = some (.int .u8 (at_ a k)) := fun y => ((BX.ch y.ch (by simp)).cell _).trans (HA.out k hlt)
          have ky : ∀ y : After wr, y.w.cell? ⟨w.heap.size + 1, 1 + k, none⟩ = some (.int .u8 (at_ b k)) := fun y => ((BY.ch y.ch (by simp)).cell _).trans (HB.out k hlt)
          have hki : (k : Int) < 16 := by omega
          obtain ⟨x, hx⟩ : ∃ x, at_ a k = x := ⟨_, rfl⟩
          obtain ⟨y, hy⟩ : ∃ y, at_ b k = y := ⟨_, rfl⟩
          rw [hx] at kx
          rw [hy] at ky
          by_cases h1 : x < y
          · have HR : Hid (cmpB a b = -1) := cmpB_first (q := k) (by rw [HL.out.1]; exact hlt) (by rw [HL.out.2]; exact hlt) HE.out (by rw [hx, hy]; exact h1)
            clear hx hy
            go_upto_region 8 with fail
            refine wp_region_quietA (wr) (by kernel_rfl) (by kernel_rfl) (Ch.refl _ _) ?_
            repeat (first
              | go_big_quiet_step (fail))
            refine wpQuiet_nil ?_
            intro wq hwq
            go_wp2_with fail
            go_ret
            exact ⟨by (rw [HR.out]) <;> rfl, CX.trans hwq⟩
          · by_cases h2 : y < x
            · have HR : Hid (cmpB a b = 1) := by
                show _ = _
                have := cmpB_first (q := k) (a := b) (b := a) (by rw [HL.out.2]; exact hlt) (by rw [HL.out.1]; exact hlt) (fun i hi => (HE.out i hi).symm) (by rw [hx, hy]; exact h2)
                rw [cmpB_anti, this]; rfl
              clear hx hy
              go_upto_region 8 with fail
              refine wp_region_quietA (wr) (by kernel_rfl) (by kernel_rfl) (Ch.refl _ _) ?_
              repeat (first
                | go_big_quiet_step (fail))
              refine wpQuiet_nil ?_
              intro wq hwq
              have kx : ∀ z : After wq, z.w.cell? ⟨w.heap.size, 1 + k, none⟩ = some (.int .u8 x) := fun z => kx ⟨z.w, hwq.trans z.ch⟩
              have ky : ∀ z : After wq, z.w.cell? ⟨w.heap.size + 1, 1 + k, none⟩ = some (.int .u8 y) := fun z => ky ⟨z.w, hwq.trans z.ch⟩
              go_upto_region 10 with fail
              refine wp_region_quietA (wq) (by kernel_rfl) (by kernel_rfl) (Ch.refl _ _) ?_
              repeat (first
                | go_big_quiet_step (fail))
              refine wpQuiet_nil ?_
              intro wr hwr
              go_wp2_with fail
              go_ret
              exact ⟨by (rw [HR.out]) <;> rfl, (CX.trans hwq).trans hwr⟩
            · have HE2 : Hid (∀ j, j < k + 1 → at_ a j = at_ b j) := fun j hj => by
                by_cases e : j = k
                · subst e; rw [hx, hy]; omega
                · exact HE.out j (by omega)
              clear hx hy
              go_upto_region 8 with fail
              refine wp_region_quietA (wr) (by kernel_rfl) (by kernel_rfl) (Ch.refl _ _) ?_
              repeat (first
                | go_big_quiet_step (fail))
              refine wpQuiet_nil ?_
              intro wq hwq
              have kx : ∀ z : After wq, z.w.cell? ⟨w.heap.size, 1 + k, none⟩ = some (.int .u8 x) := fun z => kx ⟨z.w, hwq.trans z.ch⟩
              have ky : ∀ z : After wq, z.w.cell? ⟨w.heap.size + 1, 1 + k, none⟩ = some (.int .u8 y) := fun z => ky ⟨z.w, hwq.trans z.ch⟩
              go_upto_region 10 with fail
              refine wp_region_quietA (wq) (by kernel_rfl) (by kernel_rfl) (Ch.refl _ _) ?_
              repeat (first
                | go_big_quiet_step (fail))
              refine wpQuiet_nil ?_
              intro wr hwr
              go_wp2_with fail
              go_roundw
              case rel => exact ⟨k + 1, by go_num, by omega, HE2, (BX.ch hwq (by simp)).ch hwr (by simp), (BY.ch hwq (by simp)).ch hwr (by simp), (CX.trans hwq).trans hwr⟩
              case measure => simp [intOf]; omega
        · obtain rfl : k = 16 := by omega
          have HR : Hid (cmpB a b = 0) := by
            show _ = _
            rw [at_ext (a := a) (b := b) (by rw [HL.out.1, HL.out.2]) (fun i hi => HE.out i (by rw [HL.out.1] at hi; exact hi)), cmpB_same]
          go_wp2_with fail
          go_ret
          exact ⟨by (rw [HR.out]) <;> rfl, CX⟩
  · have hcm : cmpA s t a b = if t then -1 else 1 := by unfold cmpA; rw [if_neg hst]
    rw [hcm]
    clear hcm
    go_enter Tryd.func70, Tryd.ntmps70
    go_upto_region 1 with fail
    generalize ((w.alloc (.cells ca.toArray 24)).alloc (.cells cb.toArray 24)) = w0 at *
    cases s <;> cases t
    all_goals first | (exact absurd rfl hst) | skip
    all_goals
      go_wp2_with fail
      go_ret
      exact ⟨rfl, C0⟩

set_option maxRecDepth 20000 in
set_option maxHeartbeats 8000000 in
theorem refCmpP (p q : Pfx) (hp : GoodA p.2.1) (hq : GoodA q.2.1) (w : World) :
    Calls Tryd.prog 57 #[.agg (pfxC p).toArray, .agg (pfxC q).toArray] w fun e w' => e = .returned (.int .i64 (cmpP p q)) ∧ Ch [] w w' := by
  have B0 : Blk ((w.alloc (.cells (pfxC p).toArray 33)).alloc (.cells (pfxC q).toArray 33)) w.heap.size 33 (pfxC p) := (Blk.new w _ _).alloc _
  have B1 : Blk ((w.alloc (.cells (pfxC p).toArray 33)).alloc (.cells (pfxC q).toArray 33)) (w.heap.size + 1) 33 (pfxC q) := Blk.newAt _ _ _ (by simp)
  have C0 : Ch [] w ((w.alloc (.cells (pfxC p).toArray 33)).alloc (.cells (pfxC q).toArray 33)) := ((Ch.refl _ _).alloc _).alloc _
  have HC := hid (refCmp p.1 q.1 p.2.1 q.2.1 hp hq)
  have HI0 := hid (addr_inf (six := p.1) hp.1)
  have HI1 := hid (addr_inf (six := q.1) hq.1)
  have HA0 : Hid (∀ j v, (addrC p.1 p.2.1)[j]? = some v → (pfxC p)[0 + j]? = some v) := fun j v hj => pfx_addr (p := p) hj
  have HA1 : Hid (∀ j v, (addrC q.1 q.2.1)[j]? = some v → (pfxC q)[0 + j]? = some v) := fun j v hj => pfx_addr (p := q) hj
  have H0 := hid (pfx_bits (p := p) hp.1)
  have H1 := hid (pfx_bits (p := q) hq.1)
  obtain ⟨r, hr⟩ : ∃ r, cmpP p q = r := ⟨_, rfl⟩
  rw [hr]
  unfold cmpP at hr
  generalize cmpA p.1 q.1 p.2.1 q.2.1 = c at HC hr
  generalize p.2.2 = x at H0 hr
  generalize q.2.2 = y at H1 hr
  generalize addrC p.1 p.2.1 = a0 at *
  generalize addrC q.1 q.2.1 = a1 at *
  generalize pfxC p = cp at *
  generalize pfxC q = cq at *
  clear hp hq
  go_enter Tryd.func57, Tryd.ntmps57
  go_upto_region 2 with (first
    | (refine wpList_load_want rfl 24 _ rfl w.heap.size 0 rfl a0 _ (B0.rangeMid 0 _ HA0.out) Tryd.underlying24 rfl HI0.out ?_)
    | (refine wpList_load_want rfl 24 _ rfl (w.heap.size + 1) 0 rfl a1 _ (B1.rangeMid 0 _ HA1.out) Tryd.underlying24 rfl HI1.out ?_)
    | (go_at_call 70; (with_reducible refine (HC.out _).mono ?_); rintro e w1 ⟨rfl, C1⟩))
  have e0 : w1.cell? ⟨w.heap.size, 17, none⟩ = some (.int .i64 x) := ((B0.ch C1 (by simp)).cell 17).trans H0.out
  have e1 : w1.cell? ⟨w.heap.size + 1, 17, none⟩ = some (.int .i64 y) := ((B1.ch C1 (by simp)).cell 17).trans H1.out
  have CC := C0.trans C1
  by_cases hc : c = 0
  · rw [if_neg (by simpa using hc)] at hr
    by_cases h1 : x < y
    · rw [if_pos h1] at hr
      have HR := hid hr
      clear hr
      go_wp2_with fail
      go_ret
      exact ⟨by (rw [← HR.out]) <;> rfl, CC⟩
    · rw [if_neg h1] at hr
      by_cases h2 : y < x
      · rw [if_pos h2] at hr
        have HR := hid hr
        clear hr
        go_wp2_with fail
        go_ret
        exact ⟨by (rw [← HR.out]) <;> rfl, CC⟩
      · rw [if_neg h2] at hr
        have HR := hid hr
        clear hr
        go_wp2_with fail
        go_ret
        exact ⟨by (rw [← HR.out]) <;> rfl, CC⟩
  · rw [if_pos (by simpa using hc)] at hr
    have HR := hid hr
    clear hr
    go_wp2_with fail
    go_ret
    exact ⟨by (rw [← HR.out]) <;> rfl, CC⟩
end Go.Proofs.YtjpiekljjhgmoaaDoor
