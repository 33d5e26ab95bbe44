/- ginnelref07.parseIPv4: where it succeeds, and where there are not four parts. -/
import Derived.Test.YtjabeabbaambcaaDoorPDec
import Derived.Test.YtjabeabbaambcaaDoorSplR
import Derived.Test.YtjabeabbaambcaaDoorCidr
namespace Go.Proofs.YtjabeabbaambcaaDoor
open Go.RowKit

section
variable {P : Program} {w : World} {g : Nat} {t : TypeId} {cs : List Value}
theorem results_rowF2 {fn : Func} {p u : Tmp} {ty : TypeId} (h : fn.results = #[.cell p ty, .tmp u]) (tmps : Array Value) (d : TypeDesc)
    (hp : tmps.getD p undef = .pointer (some ⟨g, 0, none⟩)) (hg : Blk w g t cs) (hu : P.underlying ty = some d) (hd : (match d with | .struct _ | .array _ _ => true | _ => false) = true) (hi : (P.info? ty).map (·.size) = some cs.length) :
    (results fn tmps).run P w = .ok (.tuple #[.agg cs.toArray, tmps.getD u undef]) w := by
  have hp' : tmps[p]?.getD undef = .pointer (some ⟨g, 0, none⟩) := by simpa using hp
  simp [results, h, hp', asAddr, Result.andThen, run_loadVar_row w g t ty cs.toArray (0, 0) d hg hu hd (by simpa using hi)]
end
theorem own_str {w : World} {B n cp k : Nat} {A : Option Addr} {e : TypeId} {ps : List ByteArray} {g : Nat} {x : ByteArray} (h : Own w B e 1 A n cp (ps.map Value.string)) (hA : A = some ⟨g, 0, none⟩) (hx : ps[k]? = some x) : w.cell? ⟨g, k, none⟩ = some (.string x) := by
  subst hA
  have hlt : k < n := by
    have h1 := h.len
    have h2 := (List.getElem?_eq_some_iff.1 hx).1
    rw [List.length_map] at h1
    omega
  obtain ⟨b, off, e1, _, hc⟩ := h.rd.2 (by omega)
  simp only [Option.some.injEq, Addr.mk.injEq] at e1
  obtain ⟨rfl, rfl, _⟩ := e1
  have := hc k (.string x) (by rw [List.getElem?_map, hx]; rfl)
  rwa [Nat.zero_add] at this
theorem allO_spec {α β : Type} (f : α → Option β) : ∀ (l : List α) (r : List β), allO f l = some r → r.length = l.length ∧ ∀ (i : Nat) (x : α), l[i]? = some x → ∃ y, f x = some y ∧ r[i]? = some y
  | [], r, h => by simp [allO] at h; subst h; exact ⟨rfl, fun i x hx => by simp at hx⟩
  | a :: l, r, h => by
    unfold allO at h
    split at h
    · rename_i y r' hy hr
      obtain rfl := Option.some.inj h
      obtain ⟨h1, h2⟩ := allO_spec f l r' hr
      refine ⟨by simp [h1], fun i x hx => ?_⟩
      cases i with
      | zero => simp at hx; subst hx; exact ⟨y, hy, rfl⟩
      | succ i => simp at hx; simpa using h2 i x hx
    · cases h
theorem decP_le {l : List Int} {m n : Int} (h : decP l m = some n) : 0 ≤ n ∧ n ≤ m := by
  unfold decP at h
  split at h
  case isFalse => cases h
  split at h
  case h_2 => cases h
  rename_i N hN
  split at h
  case isFalse => cases h
  obtain rfl := Option.some.inj h
  exact ⟨decV_le _ _ _ (by omega) hN, by assumption⟩

set_option maxRecDepth 20000 in
set_option maxHeartbeats 4000000 in
theorem refIp4No (s : ByteArray) (hs : s.size ≤ 1000000) (h : (splitC 46 (numsOf s)).length ≠ 4) (w : World) : Calls Tryd.prog 102 #[.string s] w fun e w' => e = .returned (.tuple #[.agg (addrC false zeros).toArray, .bool false]) ∧ Ch [] w w' := by
  have HSP := hid (refSplit s 46 hs)
  have HI := hid (addr_inf (six := false) (bs := zeros) rfl)
  go_enter Tryd.func102, Tryd.ntmps102
  go_wp2_with (first
    | (refine wpList_loadB rfl 29 _ rfl w1.heap.size 29 (addrC false zeros) _ rfl B2 Tryd.underlying29 rfl HI.out ?_)
    | (refine wpList_storeB rfl 29 _ _ rfl w.heap.size 29 (addrC false zeros) (addrC false zeros) rfl rfl B1' HI.out rfl (addr_one' _ _) ?_; intro w4 B4 C4 Z4)
    | (refine wpList_storeB rfl 29 _ _ rfl w1.heap.size 29 (addrC false zeros) (addrC false zeros) rfl rfl (Blk.new _ _ _) HI.out rfl (addr_one' _ _) ?_; intro w2 B2 C2 Z2; have CC := (CA.alloc _).step C2 (fun i hi => .inr (by simp at hi; omega)); have B1' := (B1.alloc _).ch C2 (by simp; omega))
    | (go_at_call 87; (with_reducible refine (HSP.out _).mono ?_); rintro e w1 ⟨A, cp, ps, rfl, hps, own, C1⟩; have hl4 : (ps.length : Int) ≠ 4 := (by have h9 := congrArg List.length hps; rw [List.length_map] at h9; omega); have hl5 : ((ps.length : Int) == 4) = false := (by simpa using hl4); have hl6 : ((ps.length : Int) != 4) = true := (by simpa using hl4); have B1 := (Blk.new w 29 (addrC false zeros)).ch C1 (by simp); have lt1 := B1.lt; have CA := ((Ch.refl [] w).alloc _).trans C1; clear hl4))
  try simp only [Exit.inBlock, Exit.then]
  refine bodyPost_ret (results_rowF2 rfl _ _ rfl B4 Tryd.underlying29 rfl HI.out) rfl ?_
  exact ⟨rfl, CC.step C4 (fun i hi => .inr (by simp at hi; omega))⟩

theorem ip4_spec {l bs : List Int} (h : ip4P l = some bs) : (splitC 46 l).length = 4 ∧ bs.length = 4 ∧ ∀ (i : Nat) (x : List Int), (splitC 46 l)[i]? = some x → decP x 255 = some (at_ bs i) := by
  unfold ip4P at h
  split at h
  case isFalse => cases h
  rename_i h4
  obtain ⟨h1, h2⟩ := allO_spec _ _ _ h
  refine ⟨h4, by omega, fun i x hx => ?_⟩
  obtain ⟨y, hy, hr⟩ := h2 i x hx
  rw [hy]
  simp [at_, List.getD, hr]
theorem z12_fill (bs : List Int) (h : bs.length = 4) : (bs ++ z12).take 4 ++ zeros.drop 4 = bs ++ z12 := by
  rw [List.take_append_of_le_length (by omega), List.take_of_length_le (by omega)]; rfl
set_option maxRecDepth 20000 in
set_option maxHeartbeats 4000000 in
theorem refIp4 (s : ByteArray) (bs : List Int) (hs : s.size ≤ 1000000) (h : ip4P (numsOf s) = some bs) (w : World) : Calls Tryd.prog 102 #[.string s] w fun e w' => e = .returned (.tuple #[.agg (addrC false (bs ++ z12)).toArray, .bool true]) ∧ Ch [] w w' := by
  have HSP := hid (refSplit s 46 hs)
  have HI := hid (addr_inf (six := false) (bs := zeros) rfl)
  obtain ⟨h4, hb4, hsp⟩ := ip4_spec h
  have HSC := hid hsp
  have hl16 : (bs ++ z12).length = 16 := by rw [List.length_append, hb4]; rfl
  have HI2 := hid (addr_inf (six := false) (bs := bs ++ z12) hl16)
  have HFS := hid (fun k (hk : k < 16) => fill_set (bs ++ z12) zeros k (by omega) (by show k < 16; omega))
  have HAT : Hid (∀ k, k < 4 → at_ (bs ++ z12) k = at_ bs k) := fun k hk => by simp [at_, List.getD, List.getElem?_append, hb4, hk]
  have HZF := hid (z12_fill bs hb4)
  clear hsp h
  go_enter Tryd.func102, Tryd.ntmps102
  go_wp2_with (first
    | (refine wpList_storeB rfl 29 _ _ rfl w1.heap.size 29 (addrC false zeros) (addrC false zeros) rfl rfl (Blk.new _ _ _) HI.out rfl (addr_one' _ _) ?_; intro w2 B2 C2 Z2; have CC := (CA.alloc _).step C2 (fun i hi => .inr (by simp at hi; omega)); have B1' := (B1.alloc _).ch C2 (by simp; omega); have own2 := (own.alloc _).ch C2 (by intro q hq; have := (own.blks q hq).2; simp; omega))
    | (go_at_call 87; (with_reducible refine (HSP.out _).mono ?_); rintro e w1 ⟨A, cp, ps, rfl, hps, own, C1⟩; have hl4 : ps.length = 4 := (by have h9 := congrArg List.length hps; rw [List.length_map] at h9; omega); have B1 := (Blk.new w 29 (addrC false zeros)).ch C1 (by simp); have lt1 := B1.lt; have CA := ((Ch.refl [] w).alloc _).trans C1; have HPS := hid hps; clear hps))
  obtain ⟨q, rfl, hqw, hql⟩ := own2.form (by omega)
  have hqh : q < w1.heap.size := (own.blks q (by simp [blkOf])).2
  obtain ⟨g, hg⟩ : ∃ g, w1.heap.size = g := ⟨_, rfl⟩
  rw [hg] at B2 hqh ⊢
  have hgw := CA.size
  have hz16 : (addrC false zeros) = addrC false ((bs ++ z12).take 0 ++ zeros.drop 0) := by simp
  rw [hz16] at B2
  clear hz16
  rw [hl4] at own2
  go_loopw [6] (fun i wr => ∃ k : Nat, k ≤ 4 ∧ i = .int .i64 k ∧ Blk wr w.heap.size 29 (addrC false zeros) ∧ Blk wr g 29 (addrC false ((bs ++ z12).take k ++ zeros.drop k)) ∧ Own wr (w.heap.size + 1) 9 1 (some ⟨q, 0, none⟩) 4 cp (ps.map Value.string) ∧ Ch [] w wr) (fun i _ => 4 - (intOf i).toNat)
  case atStart => exact ⟨0, by omega, rfl, B1', B2, by simpa using own2, CC⟩
  case round =>
    clear own own2 B1 B1' B2 CA CC C1 C2
    obtain ⟨k, hk, rfl, B1, B2, own, CC⟩ := hrel
    have lt1 := B1.lt
    have lt2 := B2.lt
    by_cases hlt : k < 4
    · obtain ⟨x, hx⟩ : ∃ x, ps[k]? = some x := ⟨_, List.getElem?_eq_getElem (by omega)⟩
      have hc := own_str own rfl hx
      have hdx := HSC.out k (numsOf x) (by rw [← HPS.out, List.getElem?_map, hx]; rfl)
      have HD := hid (refDec x 255 _ hdx (by omega))
      have hrng := decP_le hdx
      have hfs := HFS.out k (by omega)
      rw [HAT.out k hlt] at hfs
      have F := B2.frozen (1 + k)
      have hc2 : ∃ u, wr.cell? ⟨g, 1 + k, none⟩ = some (.int .u8 u) := ⟨_, (B2.cell (1 + k)).trans (addrC_byte (by rw [List.length_append, List.length_take, List.length_drop, hl16]; show k < min k 16 + (16 - k); omega))⟩
      obtain ⟨u, hc2⟩ := hc2
      have HSET : Hid (Blk (wr.setCell ⟨g, 1 + k, none⟩ (.int .u8 (at_ bs k))) g 29 (addrC false ((bs ++ z12).take (k + 1) ++ zeros.drop (k + 1)))) := by
        show Blk _ _ _ _
        rw [← hfs, ← addr_set]
        exact B2.set _ _
      clear hx hdx hfs
      generalize at_ bs k = b at HD hrng HSET
      obtain ⟨b0, b255⟩ := hrng
      go_wp2_with (go_at_call 89; (with_reducible refine (HD.out _).mono ?_); rintro e w3 ⟨rfl, rfl⟩)
      go_roundw
      case rel => exact ⟨k + 1, by omega, by go_num, B1.far (p := ⟨g, 1 + k, none⟩) (by show w.heap.size ≠ g; omega) _, HSET.out, own.ch ((Ch.refl [g] wr).setCell (p := ⟨g, 1 + k, none⟩) (.inl (by simp)) _) (by intro q' hq'; simp [blkOf] at hq'; subst hq'; simp; omega), CC.setCell (p := ⟨g, 1 + k, none⟩) (.inr (by show _ ≤ g; omega)) _⟩
      case measure => simp [intOf]; omega
    · obtain rfl : k = 4 := by omega
      rw [HZF.out] at B2
      go_wp2_with (first
        | (refine wpList_loadB rfl 29 _ rfl g 29 (addrC false (bs ++ z12)) _ rfl B2 Tryd.underlying29 rfl HI2.out ?_)
        | (refine wpList_storeB rfl 29 _ _ rfl w.heap.size 29 (addrC false zeros) (addrC false (bs ++ z12)) rfl rfl B1 HI2.out ((addr_len (six := false) (bs := zeros) rfl).trans (addr_len hl16).symm) (addr_one' _ _) ?_; intro w5 B5 C5 Z5))
      try simp only [Exit.inBlock, Exit.then]
      refine bodyPost_ret (results_rowF2 rfl _ _ rfl B5 Tryd.underlying29 rfl HI2.out) rfl ?_
      exact ⟨rfl, CC.step C5 (fun i hi => .inr (by simp at hi; omega))⟩
end Go.Proofs.YtjabeabbaambcaaDoor
