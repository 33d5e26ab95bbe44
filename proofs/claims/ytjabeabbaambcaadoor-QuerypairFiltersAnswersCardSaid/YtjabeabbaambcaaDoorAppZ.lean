/- append of zeros (append(s, make(..)...)) onto a slice that is full; ip.V4, ip.V6, the prefixes and the rows that the tables are made of. -/
import Derived.Test.YtjabeabbaambcaaDoorMem
import Derived.Test.YtjabeabbaambcaaDoorNums
import Derived.Test.YtjabeabbaambcaaDoorCidr3
import Derived.Test.YtjabeabbaambcaaDoorPV6
import Derived.Lib.AppendZerosOnto
import Derived.Lib.AppendZeros
namespace Go.Proofs.YtjabeabbaambcaaDoor
open Go.RowKit

section
variable {P : Program}
/-- n zeros onto a slice without room: a new one, or the slice itself where nothing is to be added. -/
theorem run_appZ (w : World) (k : IntKind) (t tn ty e : TypeId) (bytes : Nat) (kq kn : IntKind) (ht : P.underlying t = some (.slice e)) (htn : P.underlying tn = some (.int kn)) (hinfo : (P.info? e).map (fun i => (i.zero, i.size, i.bytes)) = some (some (.int k 0), 1, bytes)) (hb : bytes ≤ 8)
    (B : Nat) (A : Option Addr) (n : Nat) (zs : List Int) (h : RdI k w B A n zs) (hB : B ≤ w.heap.size) (m : Nat) (hA : n = 0 → A = none) (hm : n + m ≤ 1000) (v : Int) (hv : v = (m : Int)) :
    ∃ A2 c2 w', (Builtin.append_ #[t, tn] ty #[.slice A n n, .int kq v]).run P w = .ok (.slice A2 (n + m) c2) w' ∧ RdI k w' w'.heap.size A2 (n + m) (zs ++ List.replicate m 0) ∧ Ch [] w w' := by
  subst hv
  obtain ⟨i, hi, hz, hsize, hby⟩ := info_parts hinfo
  have hl := h.1
  rcases Nat.eq_zero_or_pos m with hm0 | hm0
  · subst hm0
    refine ⟨A, n, w, ?_, ?_, Ch.refl _ _⟩
    · cases A with
      | none => simp [Builtin.append_, run_underlying ht, run_underlying htn, sizeOf, typeInfo, hi, asInt, asIntOf, IntKind.wrap_i64]
      | some a => simp [Builtin.append_, run_underlying ht, run_underlying htn, sizeOf, typeInfo, hi, asInt, asIntOf, IntKind.wrap_i64, storeCells]
    · rw [List.replicate_zero, List.append_nil]
      exact Rd.ints (h.rd.more hB)
  · have hnew : ∀ (xs : List Value) (r : Nat), xs = (zs ++ List.replicate m 0).map (Value.int k) → RdI k (w.drew.alloc (.cells (xs.toArray ++ Builtin.zeroCells (Value.int k 0).cells r) e)) (w.drew.alloc (.cells (xs.toArray ++ Builtin.zeroCells (Value.int k 0).cells r) e)).heap.size (some ⟨w.heap.size, 0, none⟩) (n + m) (zs ++ List.replicate m 0) := by
      intro xs r hx
      refine ⟨by simp [hl], fun _ => ⟨_, _, rfl, by simp, fun i hi => ?_⟩⟩
      have hc := World.cell?_alloc_new w.drew (xs.toArray ++ Builtin.zeroCells (Value.int k 0).cells r) e i
      rw [Nat.zero_add]
      refine (show World.cell? _ ⟨w.drew.heap.size, i, none⟩ = _ from hc).trans ?_
      have hxl : xs.length = n + m := by rw [hx]; simp [hl]
      rw [Array.getElem?_append_left (by simpa [hxl] using hi), List.getElem?_toArray, hx, List.getElem?_map]
      have hi2 : i < (zs ++ List.replicate m 0).length := by simp [hl]; exact hi
      rw [List.getElem?_eq_getElem hi2]
      simp only [Option.map_some]
      unfold Go.Proofs.YtjabeabbaambcaaDoor.at_ List.getD
      rw [List.getElem?_eq_getElem hi2]
      rfl
    have hCh : ∀ xs : Array Value, Ch [] w (w.drew.alloc (.cells xs e)) := fun xs => ((Ch.refl [] w).drew).alloc _
    have hzr : ∀ r : Nat, Builtin.zeroCells (Value.int k 0).cells r = ((List.replicate r 0).map (Value.int k)).toArray := by
      intro r
      apply Array.ext
      · simp [Builtin.zeroCells, Value.cells]
      · intro i h1 h2
        simp [Builtin.zeroCells, Value.cells, Nat.mod_one]
    have hgr : Builtin.nextslicecap (n + m) n * i.bytes ≤ 281474976710656 :=
      growslice_fits (by omega) (by rw [hby]; exact Nat.le_trans (Nat.mul_le_mul hm hb) (by omega))
    rcases Nat.eq_zero_or_pos n with hn0 | hn0
    · subst hn0
      obtain rfl := hA rfl
      obtain rfl : zs = [] := List.eq_nil_of_length_eq_zero hl
      have hr := Lib.run_append_nil_zeros (P := P) w t tn ty e i (.int k 0) kq kn ht htn hi hz m hm0 (by omega) (by omega) (by rw [hby]; exact Nat.le_trans (Nat.mul_le_mul (show m ≤ 1000 by omega) hb) (by omega))
      refine ⟨_, _, _, by rw [Nat.zero_add]; exact hr, ?_, hCh _⟩
      rw [hzr m]
      have := hnew (([] ++ List.replicate m (0 : Int)).map (Value.int k)) (grownCap w m 0 e - m) rfl
      rw [Nat.zero_add] at this ⊢
      exact this
    · obtain ⟨b, off, rfl, hlt, hc⟩ := h.2 hn0
      have hold : (Builtin.firstCells i.size n (.slice (some ⟨b, off, none⟩) n n)).run P w.drew = .ok ((zs.map (Value.int k)).toArray) w.drew :=
        run_firstCells_some w.drew i.size n ⟨b, off, none⟩ n n (zs.map (Value.int k)) (by rw [List.length_map, hl, hsize, Nat.mul_one]) (fun j v hj => by
          obtain ⟨b2, off2, he, _, hcc⟩ := (h.rd).2 hn0
          simp only [Option.some.injEq, Addr.mk.injEq] at he
          obtain ⟨rfl, rfl, _⟩ := he
          have := hcc j v hj
          rw [Addr.add_lit]
          exact this)
      have hr := Lib.run_append_grow_zeros (P := P) w t tn ty e i (.int k 0) kq kn ht htn hi hz (some ⟨b, off, none⟩) n n (zs.map (Value.int k)) hold m hm0 (by omega) (by omega) (by omega) (by rw [hby]; exact Nat.le_trans (Nat.mul_le_mul (show m ≤ 1000 by omega) hb) (by omega)) hgr
      refine ⟨_, _, _, hr, ?_, hCh _⟩
      rw [hzr m]
      have := hnew ((zs ++ List.replicate m 0).map (Value.int k)) (grownCap w (n + m) n e - (n + m)) rfl
      rw [List.map_append, ← List.append_toArray] at this
      exact this
end

theorem v4P (a b c d : Int) (w : World) : Calls Tryd.prog 71 #[.int .u8 a, .int .u8 b, .int .u8 c, .int .u8 d] w fun e w' => e = .returned (.agg #[.bool false, .int .u8 a, .int .u8 b, .int .u8 c, .int .u8 d, .int .u8 0, .int .u8 0, .int .u8 0, .int .u8 0, .int .u8 0, .int .u8 0, .int .u8 0, .int .u8 0, .int .u8 0, .int .u8 0, .int .u8 0, .int .u8 0]) ∧ Ch [] w w' := by
  go_enter Tryd.func71, Tryd.ntmps71
  go_wp2_with (refine wpList_storeB rfl 29 _ _ rfl w.heap.size 29 (addrC false zeros) (addrC false [a, b, c, d, 0, 0, 0, 0, 0, 0, 0, 0, 0, 0, 0, 0]) rfl rfl (Blk.new _ _ _) addr_info rfl rfl ?_; intro w2 B2 C2 Z2)
  try simp only [Exit.inBlock, Exit.then]
  refine bodyPost_ret (results_row1 rfl _ _ rfl B2 Tryd.underlying29 rfl addr_info) rfl ?_
  exact ⟨rfl, ((Ch.refl [] w).alloc _).step C2 (fun i hi => .inr (by simp at hi; omega))⟩
set_option maxRecDepth 20000 in
set_option maxHeartbeats 4000000 in
theorem ipV6 (A : Option Addr) (cp : Nat) (gs : List Int) (w : World) (hr : RdI .u16 w w.heap.size A 8 gs) (hl : gs.length = 8) (hb : ∀ x ∈ gs, 0 ≤ x ∧ x ≤ 65535) :
    Calls Tryd.prog 92 #[.slice A 8 cp] w fun e w' => e = .returned (.tuple #[.agg (addrC true (grpB gs)).toArray, .bool true]) ∧ Ch [] w w' := by
  have HI := hid (addr_inf (six := true) (bs := zeros) rfl)
  have hl16 : (grpB gs).length = 16 := by rw [grpB_len, hl]
  have HI2 := hid (addr_inf (six := true) (bs := grpB gs) hl16)
  have HFS := hid (fun k (hk : k < 16) => fill_set (grpB gs) zeros k (by omega) (by show k < 16; omega))
  have HGA := hid (fun k (hk : k < 8) => grpB_at gs k (by omega))
  have HBB := hid (fun k (hk : k < 8) => hb (at_ gs k) (by simp [at_, List.getD, hl, hk]))
  obtain ⟨q, off, rfl, hqw, hcell⟩ := hr.2 (by omega)
  have HCE := hid hcell
  have HLE : Hid (∀ k, k ≤ 16 → ((grpB gs).take k ++ zeros.drop k).length = 16) := fun k hk => by rw [List.length_append, List.length_take, List.length_drop, hl16]; show min k 16 + (16 - k) = 16; omega
  clear hcell hr hb
  go_enter Tryd.func92, Tryd.ntmps92
  have hB1 : Blk (w.alloc (.cells (addrC false zeros).toArray 29)) w.heap.size 29 (addrC false zeros) := Blk.new _ _ _
  go_wp2_with (refine wpList_storeB rfl 29 _ _ rfl (w.heap.size + 1) 29 (addrC false zeros) (addrC true zeros) rfl rfl (Blk.newAt _ _ _ (by simp)) HI.out rfl (addr_one' _ _) ?_; intro w2 B2 C2 Z2; have B1 := (hB1.alloc _).ch C2 (by simp); have CC := (((Ch.refl [] w).alloc _).alloc _).step C2 (fun i hi => .inr (by simp at hi; omega)))
  clear Z2
  have hz16 : (addrC true zeros) = addrC true ((grpB gs).take (2 * 0) ++ zeros.drop (2 * 0)) := by simp
  rw [hz16] at B2
  clear hz16
  go_loopw [14] (fun i wr => ∃ k : Nat, k ≤ 8 ∧ i = .int .i64 k ∧ Blk wr w.heap.size 29 (addrC false zeros) ∧ Blk wr (w.heap.size + 1) 29 (addrC true ((grpB gs).take (2 * k) ++ zeros.drop (2 * k))) ∧ Ch [] w wr) (fun i _ => 8 - (intOf i).toNat)
  case atStart => exact ⟨0, by omega, rfl, B1, B2, CC⟩
  case round =>
    clear B1 B2 CC C2 hB1
    obtain ⟨k, hk, rfl, B1, B2, CC⟩ := hrel
    have lt2 := B2.lt
    by_cases hlt : k < 8
    · obtain ⟨x0, x1⟩ := HBB.out k hlt
      obtain ⟨g0, g1⟩ := HGA.out k hlt
      have hf0 := HFS.out (2 * k) (by omega)
      have hf1 := HFS.out (2 * k + 1) (by omega)
      rw [g0] at hf0
      rw [g1] at hf1
      have hcx : wr.cell? ⟨q, off + k, none⟩ = some (.int .u16 (at_ gs k)) := (CC.cell (p := ⟨q, off + k, none⟩) hqw (by simp)).trans (HCE.out k hlt)
      have hcx2 : ∀ w', Ch [] w w' → w'.cell? ⟨q, off + k, none⟩ = some (.int .u16 (at_ gs k)) := fun w' h => (h.cell (p := ⟨q, off + k, none⟩) hqw (by simp)).trans (HCE.out k hlt)
      have BS : Blk ((wr.setCell ⟨w.heap.size + 1, 1 + 2 * k, none⟩ (.int .u8 (at_ gs k / 256))).setCell ⟨w.heap.size + 1, 1 + (2 * k + 1), none⟩ (.int .u8 (at_ gs k % 256))) (w.heap.size + 1) 29 (addrC true ((grpB gs).take (2 * (k + 1)) ++ zeros.drop (2 * (k + 1)))) := by
        rw [show 2 * (k + 1) = 2 * k + 1 + 1 by omega, ← hf1, ← addr_set, ← hf0, ← addr_set]
        exact (B2.set _ _).set _ _
      have BS1 : Blk ((wr.setCell ⟨w.heap.size + 1, 1 + 2 * k, none⟩ (.int .u8 (at_ gs k / 256))).setCell ⟨w.heap.size + 1, 1 + (2 * k + 1), none⟩ (.int .u8 (at_ gs k % 256))) w.heap.size 29 (addrC false zeros) := (B1.far (p := ⟨w.heap.size + 1, 1 + 2 * k, none⟩) (by simp) _).far (p := ⟨w.heap.size + 1, 1 + (2 * k + 1), none⟩) (by simp) _
      have CS : Ch [] w ((wr.setCell ⟨w.heap.size + 1, 1 + 2 * k, none⟩ (.int .u8 (at_ gs k / 256))).setCell ⟨w.heap.size + 1, 1 + (2 * k + 1), none⟩ (.int .u8 (at_ gs k % 256))) := (CC.setCell (p := ⟨w.heap.size + 1, 1 + 2 * k, none⟩) (.inr (by simp)) _).setCell (p := ⟨w.heap.size + 1, 1 + (2 * k + 1), none⟩) (.inr (by simp)) _
      obtain ⟨u0, hc0⟩ : ∃ u, wr.cell? ⟨w.heap.size + 1, 1 + 2 * k, none⟩ = some (.int .u8 u) := ⟨_, (B2.cell (1 + 2 * k)).trans (addrC_byte (by rw [HLE.out (2 * k) (by omega)]; omega))⟩
      have hF0 := B2.frozen (1 + 2 * k)
      have hcl := fun v => (B2.set (1 + 2 * k) v).cell (1 + (2 * k + 1))
      have hfl := fun v => (B2.set (1 + 2 * k) v).frozen (1 + (2 * k + 1))
      have hc1 : (wr.setCell ⟨w.heap.size + 1, 1 + 2 * k, none⟩ (.int .u8 (at_ gs k / 256))).cell? ⟨w.heap.size + 1, 1 + (2 * k + 1), none⟩ = some (.int .u8 (at_ ((grpB gs).take (2 * k) ++ zeros.drop (2 * k)) (2 * k + 1))) := by
        rw [hcl, List.getElem?_set_ne (by omega)]
        exact addrC_byte (by rw [HLE.out (2 * k) (by omega)]; omega)
      have hF1 := hfl (.int .u8 (at_ gs k / 256))
      clear hcl hfl hf0 hf1 g0 g1 hcx2
      generalize at_ ((grpB gs).take (2 * k) ++ zeros.drop (2 * k)) (2 * k + 1) = u1 at hc1
      have HBS := hid BS
      have HBS1 := hid BS1
      have HCS := hid CS
      clear BS BS1 CS
      generalize at_ gs k = x at hcx x0 x1 hc1 hF1 HBS HBS1 HCS
      go_wp2_with fail
      go_roundw
      case rel => exact ⟨k + 1, by omega, by go_num, HBS1.out, HBS.out, HCS.out⟩
      case measure => simp [intOf]; omega
    · obtain rfl : k = 8 := by omega
      have hfull : (grpB gs).take (2 * 8) ++ zeros.drop (2 * 8) = grpB gs := by
        rw [List.take_of_length_le (by omega)]; show grpB gs ++ [] = _; rw [List.append_nil]
      rw [hfull] at B2
      go_wp2_with (first
        | (refine wpList_loadB rfl 29 _ rfl (w.heap.size + 1) 29 (addrC true (grpB gs)) _ rfl B2 Tryd.underlying29 rfl HI2.out ?_)
        | (refine wpList_storeB rfl 29 _ _ rfl w.heap.size 29 (addrC false zeros) (addrC true (grpB gs)) rfl rfl B1 HI2.out ((addr_len (six := false) (bs := zeros) rfl).trans (addr_len hl16).symm) (addr_one' _ _) ?_; intro w5 B5 C5 Z5))
      try simp only [Exit.inBlock, Exit.then]
      refine bodyPost_ret (results_rowF2 rfl _ _ rfl B5 Tryd.underlying29 rfl HI2.out) rfl ?_
      exact ⟨rfl, CC.step C5 (fun i hi => .inr (by simp at hi; omega))⟩

theorem u16_infoZ : (Tryd.prog.info? 100).map (fun i => (i.zero, i.size, i.bytes)) = some (some (.int .u16 0), 1, 2) := by kernel_rfl
theorem grpB_app (a b : List Int) : grpB (a ++ b) = grpB a ++ grpB b := by unfold grpB; rw [List.flatMap_append]
theorem full_good {gs : List Int} (hl : gs.length ≤ 8) (hb : ∀ x ∈ gs, 0 ≤ x ∧ x ≤ 65535) : (gs ++ List.replicate (8 - gs.length) 0).length = 8 ∧ ∀ x ∈ gs ++ List.replicate (8 - gs.length) 0, 0 ≤ x ∧ x ≤ 65535 := by
  refine ⟨by simp; omega, fun x hx => ?_⟩
  rcases List.mem_append.1 hx with h | h
  · exact hb x h
  · have := List.eq_of_mem_replicate h; omega
end Go.Proofs.YtjabeabbaambcaaDoor
