/- ginnelref07.parseGroups where no part is an IPv4 address and each is a group; V6. -/
import Derived.Test.YtjabeabbaambcaaDoorPIp4
namespace Go.Proofs.YtjabeabbaambcaaDoor
open Go.RowKit

theorem u16_info : (Tryd.prog.info? 100).map (fun i => (i.zero, i.size, i.bytes)) = some (some (.int .u16 0), 1, 2) := by kernel_rfl
theorem splitC_mem (c : Int) : ∀ (l : List Int) (p : List Int), p ∈ splitC c l → ∀ y ∈ p, y ∈ l
  | [], p, h, y, hy => by simp [splitC] at h; subst h; cases hy
  | x :: l, p, h, y, hy => by
    unfold splitC at h
    have ih := splitC_mem c l
    split at h
    · rcases List.mem_cons.1 h with rfl | h
      · cases hy
      · exact List.mem_cons_of_mem _ (ih p h y hy)
    · split at h
      · rename_i z r hz
        rw [hz] at ih
        rcases List.mem_cons.1 h with rfl | h
        · rcases List.mem_cons.1 hy with rfl | hy
          · simp
          · exact List.mem_cons_of_mem _ (ih z (by simp) y hy)
        · exact List.mem_cons_of_mem _ (ih p (by simp [h]) y hy)
      · simp at h; subst h; simp at hy; subst hy; simp
theorem grp_spec {l gs : List Int} (h : grpP l = some gs) (h0 : l.length ≠ 0) : gs.length = (splitC 58 l).length ∧ ∀ (i : Nat) (x : List Int), (splitC 58 l)[i]? = some x → hexP x = some (at_ gs i) ∧ (splitC 46 x).length ≠ 4 := by
  unfold grpP at h
  split at h
  case isFalse => cases h
  rename_i hd
  obtain ⟨h1, h2⟩ := allO_spec _ _ _ h
  refine ⟨h1, fun i x hx => ?_⟩
  obtain ⟨y, hy, hr⟩ := h2 i x hx
  refine ⟨by rw [hy]; simp [at_, List.getD, hr], ?_⟩
  rw [splitC_free 46 x]
  · simp
  · intro z hz
    have := List.all_eq_true.1 hd z (splitC_mem 58 l x (List.mem_of_getElem? hx) z hz)
    simpa using this
theorem grp_nil {l gs : List Int} (h : grpP l = some gs) (h0 : l.length = 0) : gs = [] := by
  unfold grpP at h
  split at h
  case isFalse => cases h
  exact (Option.some.inj h).symm

set_option maxRecDepth 20000 in
set_option maxHeartbeats 4000000 in
theorem refGrps (s : ByteArray) (last : Bool) (gs : List Int) (hs : s.size ≤ 1000000) (h : grpP (numsOf s) = some gs) (w : World) : Calls Tryd.prog 103 #[.string s, .bool last] w fun e w' =>
    ∃ (A : Option Addr) (cp : Nat), e = .returned (.tuple #[.slice A gs.length cp, .bool true]) ∧ Own w' w.heap.size 100 1 A gs.length cp (gs.map (Value.int .u16)) ∧ Ch [] w w' := by
  by_cases h0 : s.size = 0
  · obtain rfl := grp_nil h (by rw [numsOf_length]; exact h0)
    clear h
    obtain rfl : s = ⟨#[]⟩ := str_ext (List.eq_nil_of_length_eq_zero (by rw [Array.length_toList]; exact h0))
    clear h0
    go_enter Tryd.func103, Tryd.ntmps103
    go_wp2_with fail
    go_ret2
    exact ⟨none, 0, rfl, Own.nil _ _ _ _, Ch.refl _ _⟩
  have hne : s.toList.isEmpty = false := notEmp (by omega)
  obtain ⟨hgl, hsp⟩ := grp_spec h (by rw [numsOf_length]; exact h0)
  have HSC := hid hsp
  have HSP := hid (refSplit s 58 hs)
  have HI := hid (addr_inf (six := false) (bs := zeros) rfl)
  have HZ := hid (splitC_size 58 (numsOf s))
  have HLL := hid (splitC_len 58 (numsOf s))
  clear h hsp
  go_enter Tryd.func103, Tryd.ntmps103
  go_wp2_with (go_at_call 87; (with_reducible refine (HSP.out _).mono ?_); rintro e w1 ⟨A, cp, ps, rfl, hps, own, C1⟩)
  have HPL : Hid (ps.length = gs.length) := by show _ = _; rw [hgl, ← hps, List.length_map]
  have hpl1 : ps.length ≤ gs.length := by rw [HPL.out]; exact Nat.le_refl _
  have hpl2 : gs.length ≤ ps.length := by rw [HPL.out]; exact Nat.le_refl _
  have hpm : ps.length ≤ 1000001 := by
    have h5 := HLL.out
    rw [← hps, List.length_map, numsOf_length] at h5
    omega
  have HPS := hid hps
  have HPZ : Hid (∀ x ∈ ps, x.size ≤ 1000000) := fun x hx => by
    have := HZ.out (numsOf x) (by rw [← hps]; exact List.mem_map.2 ⟨x, hx, rfl⟩)
    rw [numsOf_length, numsOf_length] at this
    omega
  have hp1 : 1 ≤ ps.length := by
    rcases Nat.eq_zero_or_pos ps.length with h9 | h9
    · exfalso
      apply splitC_ne 58 (numsOf s)
      rw [← hps, List.length_eq_zero_iff.1 h9]; rfl
    · exact h9
  clear hps hgl
  obtain ⟨q, rfl, hqw, hql⟩ := own.form (by omega)
  go_loopw [6, 8] (fun o i wr => ∃ (k : Nat) (A : Option Addr) (c : Nat), o = .slice A k c ∧ i = .int .i64 k ∧ k ≤ ps.length ∧ Own wr w.heap.size 100 1 A k c ((gs.take k).map (Value.int .u16)) ∧ Own wr w.heap.size 9 1 (some ⟨q, 0, none⟩) ps.length cp (ps.map Value.string) ∧ (∀ b ∈ blkOf A, b ≠ q) ∧ Ch [] w wr) (fun _ i _ => ps.length - (intOf i).toNat)
  case atStart => exact ⟨0, none, 0, rfl, rfl, Nat.zero_le _, Own.nil _ _ _ _, own, fun b hb => by simp [blkOf] at hb, C1⟩
  case round =>
    clear own C1
    obtain ⟨k, A, c, rfl, rfl, hk, ownO, own, hap, CC⟩ := hrel
    have hgw := CC.size
    by_cases hlt : k < ps.length
    · obtain ⟨x, hx⟩ : ∃ x, ps[k]? = some x := ⟨_, List.getElem?_eq_getElem hlt⟩
      have hc := own_str own rfl hx
      obtain ⟨hhx, h46⟩ := HSC.out k (numsOf x) (by rw [← HPS.out, List.getElem?_map, hx]; rfl)
      have hxz := HPZ.out x (List.mem_of_getElem? hx)
      have H4 := hid (refIp4No x hxz h46)
      have HH := hid (refHex x _ hhx)
      have hrng := hexP_le hhx
      have HX := hid hx
      have HTK : Hid ((gs.take (k + 1)).map (Value.int .u16) = (gs.take k).map (Value.int .u16) ++ [.int .u16 (at_ gs k)]) := by
        show _ = _
        rw [List.take_succ_eq_append_getElem (by omega), List.map_append]
        simp [at_, List.getD, show k < gs.length from by omega]
      clear hx hhx h46
      generalize at_ gs k = v at HH hrng HTK
      obtain ⟨v0, v1⟩ := hrng
      have hv16 : IntKind.u16.wrap v = v := by simp [IntKind.wrap, IntKind.bits, IntKind.signed]; omega
      go_wp2_with (first
        | (at_builtin; (refine wpList_app _ rfl (.tmp 71) (.tmp 74) _ rfl w.heap.size 100 _ 1 2 Tryd.underlying117 u16_info rfl (by omega) _ _ _ _ rfl (ownO3.alloc _) _ _ _ _ [.int .u16 v] rfl (Rd.new _ 1 [.int .u16 v] 1 rfl _) (by simp [Value.oneCell']) (by unfold maxLen; omega) (by omega) (by simp only [World.size_alloc]; omega) ?_; intro A4 c4 w4 own4 ch4 at4))
        | (refine wpList_storeB rfl 29 _ _ rfl w2.heap.size 29 (addrC false zeros) (addrC false zeros) rfl rfl (Blk.new _ _ _) HI.out rfl (addr_one' _ _) ?_; intro w3 B3 C3 Z3; have CA3 := (CA.alloc _).step C3 (fun i hi => .inr (by simp at hi; omega)); have C23 := ((Ch.refl [] w2).alloc _).step C3 (fun i hi => .inr (by simp at hi; omega)); have own3 := own2.ch C23 (by simp); have ownO3 := ownO2.ch C23 (by simp); have hc3 := own_str own3 rfl HX.out; have z3 := CA3.size; clear Z3)
        | (go_at_call 102; (with_reducible refine (H4.out _).mono ?_); rintro e w2 ⟨rfl, C2⟩; have own2 := own.ch C2 (by simp); have ownO2 := ownO.ch C2 (by simp); have CA := CC.trans C2; have z2 := CA.size)
        | (go_at_call 110; (with_reducible refine (HH.out _).mono ?_); rintro e w5 ⟨rfl, rfl⟩))
      go_roundw
      case rel =>
        have hq3 : q < w3.heap.size := (own3.blks q (by simp [blkOf])).2
        refine ⟨k + 1, A4, c4, rfl, by go_num, by omega, by rw [HTK.out]; exact own4, (own3.alloc _).ch ch4 (by intro q' hq'; simp [blkOf] at hq'; subst hq'; intro hm; exact hap _ hm rfl), ?_, (CA3.alloc _).step ch4 (fun g' hg' => .inr (ownO.blks g' hg').1)⟩
        intro b hb hbq
        rcases at4 b hb with h1 | h1
        · exact hap b h1 hbq
        · simp only [World.size_alloc] at h1; omega
      case measure => simp only [intOf]; omega
    · obtain rfl : k = ps.length := by omega
      rw [List.take_of_length_le (by omega)] at ownO
      go_wp2_with fail
      go_ret2
      rw [← HPL.out]
      exact ⟨A, c, rfl, ownO, CC⟩
end Go.Proofs.YtjabeabbaambcaaDoor
