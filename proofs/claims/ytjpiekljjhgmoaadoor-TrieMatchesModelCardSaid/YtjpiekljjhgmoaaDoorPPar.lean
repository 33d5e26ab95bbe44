/- ginnelref07.Parse where it succeeds. -/
import Derived.Test.YtjpiekljjhgmoaaDoorMC
namespace Go.Proofs.YtjpiekljjhgmoaaDoor
open Go.RowKit

theorem dblC_spec : ∀ (l : List Int) (k : Nat), dblC l = some k → k + 1 < l.length ∧ at_ l k = 58 ∧ at_ l (k + 1) = 58 ∧ ∀ j, j < k → ¬ (at_ l j = 58 ∧ at_ l (j + 1) = 58)
  | [], k, h => by cases h
  | x :: l, k, h => by
    unfold dblC at h
    split at h
    · rename_i hc
      obtain rfl : 0 = k := Option.some.inj h
      obtain ⟨h1, h2⟩ := hc
      cases l with
      | nil => cases h2
      | cons y l =>
        obtain rfl : y = 58 := Option.some.inj h2
        exact ⟨by simp, h1, rfl, fun j hj => absurd hj (by omega)⟩
    · rename_i hc
      cases hd : dblC l with
      | none => rw [hd] at h; cases h
      | some m =>
        rw [hd] at h
        obtain rfl : m + 1 = k := Option.some.inj h
        obtain ⟨h1, h2, h3, h4⟩ := dblC_spec l m hd
        refine ⟨by simp; omega, h2, h3, fun j hj => ?_⟩
        cases j with
        | zero =>
          rintro ⟨g1, g2⟩
          apply hc
          refine ⟨g1, ?_⟩
          cases l with
          | nil => simp at h1
          | cons y l => exact congrArg some g2
        | succ j => exact h4 j (by omega)
theorem nodot_split {l : List Int} (h : l.all (fun x => !decide (x = 46)) = true) : (splitC 46 l).length ≠ 4 := by
  rw [splitC_free 46 l]
  · simp
  · intro z hz
    have := List.all_eq_true.1 h z hz
    simpa using this
inductive AddrT (l : List Int) (six : Bool) (bs : List Int) : Prop
  | four (b : List Int) (h : ip4P l = some b) (h6 : six = false) (hb : bs = b ++ z12)
  | six (hd : (splitC 46 l).length ≠ 4) (k : Nat) (a b : List Int) (hk : dblC l = some k) (ha : grpP (l.take k) = some a) (hb : grpP (l.drop (k + 2)) = some b) (hl : a.length + b.length ≤ 7) (h6 : six = true) (hbs : bs = grpB (a ++ List.replicate (8 - (a.length + b.length)) 0 ++ b))
theorem addrT_spec {l : List Int} {six : Bool} {bs : List Int} (h : addrT l = some (six, bs)) : AddrT l six bs := by
  unfold addrT at h
  split at h
  · rename_i b hb
    have := Option.some.inj h
    exact .four b hb (congrArg Prod.fst this).symm (congrArg Prod.snd this).symm
  · split at h
    case isFalse => cases h
    rename_i hd
    split at h
    case h_1 => cases h
    rename_i k hk
    split at h
    case h_2 => cases h
    rename_i a b ha hb
    split at h
    case isFalse => cases h
    rename_i hl
    have := Option.some.inj h
    exact .six (nodot_split hd) k a b hk ha hb hl (congrArg Prod.fst this).symm (congrArg Prod.snd this).symm
theorem allO_mem {α β : Type} (f : α → Option β) (l : List α) (r : List β) (h : allO f l = some r) (p : β → Prop) (hp : ∀ x y, f x = some y → p y) : ∀ y ∈ r, p y := by
  obtain ⟨h1, h2⟩ := allO_spec f l r h
  intro y hy
  obtain ⟨i, hi⟩ := List.mem_iff_getElem?.1 hy
  have hil : i < l.length := by rw [← h1]; exact (List.getElem?_eq_some_iff.1 hi).1
  obtain ⟨z, hz, hr⟩ := h2 i _ (List.getElem?_eq_getElem hil)
  rw [hi] at hr
  obtain rfl := Option.some.inj hr
  exact hp _ _ hz
theorem grp_rng {l gs : List Int} (h : grpP l = some gs) : ∀ x ∈ gs, 0 ≤ x ∧ x ≤ 65535 := by
  unfold grpP at h
  split at h
  case isFalse => cases h
  split at h
  · obtain rfl := Option.some.inj h; intro x hx; cases hx
  · exact allO_mem hexP _ _ h _ (fun _ _ => hexP_le)
theorem ip4_rng {l bs : List Int} (h : ip4P l = some bs) : ∀ x ∈ bs, 0 ≤ x ∧ x ≤ 255 := by
  unfold ip4P at h
  split at h
  case isFalse => cases h
  exact allO_mem _ _ _ h _ (fun _ _ => decP_le)

set_option maxRecDepth 20000 in
set_option maxHeartbeats 4000000 in
theorem refParse (s : ByteArray) (six : Bool) (bs : List Int) (hs : s.size ≤ 1000000) (h : addrT (numsOf s) = some (six, bs)) (w : World) : Calls Tryd.prog 65 #[.string s] w fun e w' => e = .returned (.tuple #[.agg (addrC six bs).toArray, .bool true]) ∧ Ch [] w w' := by
  have HI := hid (addr_inf (six := false) (bs := zeros) rfl)
  have hB1 : Blk (w.alloc (.cells (addrC false zeros).toArray 24)) w.heap.size 24 (addrC false zeros) := Blk.new _ _ _
  rcases addrT_spec h with ⟨b, h4, rfl, rfl⟩ | ⟨hd, k, a, b, hk, ha, hb, hl, rfl, rfl⟩
  · have H4 := hid (refIp4 s b hs h4)
    have hl4 := (ip4_spec h4).2.1
    have hl16 : (b ++ z12).length = 16 := by rw [List.length_append, hl4]; rfl
    have HI2 := hid (addr_inf (six := false) (bs := b ++ z12) hl16)
    clear h h4
    go_enter Tryd.func65, Tryd.ntmps65
    go_wp2_with (first
      | (refine wpList_loadB rfl 24 _ rfl w1.heap.size 24 (addrC false (b ++ z12)) _ rfl B2 Tryd.underlying24 rfl HI2.out ?_)
      | (refine wpList_storeB rfl 24 _ _ rfl w.heap.size 24 (addrC false zeros) (addrC false (b ++ z12)) rfl rfl B1' HI2.out ((addr_len (six := false) (bs := zeros) rfl).trans (addr_len hl16).symm) (addr_one' _ _) ?_; intro w4 B4 C4 Z4)
      | (refine wpList_storeB rfl 24 _ _ rfl w1.heap.size 24 (addrC false zeros) (addrC false (b ++ z12)) rfl rfl (Blk.new _ _ _) HI2.out ((addr_len (six := false) (bs := zeros) rfl).trans (addr_len hl16).symm) (addr_one' _ _) ?_; intro w2 B2 C2 Z2; have CC := (CA.alloc _).step C2 (fun i hi => .inr (by simp at hi; omega)); have B1' := (B1.alloc _).ch C2 (by simp; omega))
      | (go_at_call 73; (with_reducible refine (H4.out _).mono ?_); rintro e w1 ⟨rfl, C1⟩; have B1 := hB1.ch C1 (by simp); have lt1 := B1.lt; have CA := ((Ch.refl [] w).alloc _).trans C1))
    try simp only [Exit.inBlock, Exit.then]
    refine bodyPost_ret (results_rowF2 rfl _ _ rfl B4 Tryd.underlying24 rfl HI2.out) rfl ?_
    exact ⟨rfl, CC.step C4 (fun i hi => .inr (by simp at hi; omega))⟩
  · obtain ⟨hk1, hk58, hk58b, hkn⟩ := dblC_spec _ k hk
    rw [numsOf_length] at hk1
    have H4 := hid (refIp4No s hs hd)
    have HA := hid (refGrps (s.extract 0 k) false a (by rw [ByteArray.size_extract]; omega) (by rw [nums_ext, List.drop_zero, Nat.sub_zero]; exact ha))
    have HB := hid (refGrps (s.extract (k + 2) s.size) true b (by rw [ByteArray.size_extract]; omega) (by rw [nums_tail]; exact hb))
    have HRA := hid (grp_rng ha)
    have HRB := hid (grp_rng hb)
    rw [← byt_at (by omega)] at hk58 hk58b
    have HKN : Hid (∀ j, j < k → ¬ (byt s j = 58 ∧ byt s (j + 1) = 58)) := fun j hj => by
      rw [byt_at (by omega), byt_at (by omega)]
      exact hkn j hj
    have hli : ¬ (7 : Int) < a.length + b.length := by omega
    clear h hd hk ha hb hkn
    obtain ⟨gs, hgs⟩ : ∃ gs, a ++ List.replicate (8 - (a.length + b.length)) 0 ++ b = gs := ⟨_, rfl⟩
    have hgl : gs.length = 8 := by rw [← hgs]; simp; omega
    have HGR : Hid (∀ x ∈ gs, 0 ≤ x ∧ x ≤ 65535) := by
      intro x hx
      rw [← hgs] at hx
      rcases List.mem_append.1 hx with hx | hx
      · rcases List.mem_append.1 hx with hx | hx
        · exact HRA.out x hx
        · have := List.eq_of_mem_replicate hx; omega
      · exact HRB.out x hx
    have hl16 : (grpB gs).length = 16 := by rw [grpB_len, hgl]
    have HI2 := hid (addr_inf (six := true) (bs := grpB gs) hl16)
    have HGS := hid hgs
    rw [hgs]
    clear hgs
    go_enter Tryd.func65, Tryd.ntmps65
    go_wp2_with (first
      | (refine wpList_storeB rfl 24 _ _ rfl w1.heap.size 24 (addrC false zeros) (addrC false zeros) rfl rfl (Blk.new _ _ _) HI.out rfl (addr_one' _ _) ?_; intro w2 B2 C2 Z2; have CC := (CA.alloc _).step C2 (fun i hi => .inr (by simp at hi; omega)); have B1' := (B1.alloc _).ch C2 (by simp; omega))
      | (go_at_call 73; (with_reducible refine (H4.out _).mono ?_); rintro e w1 ⟨rfl, C1⟩; have B1 := hB1.ch C1 (by simp); have lt1 := B1.lt; have CA := ((Ch.refl [] w).alloc _).trans C1))
    clear Z2 B2 C2
    go_loopw [6, 7] (fun o i wr => ∃ j : Nat, o = .int .i64 (-1) ∧ i = .int .i64 j ∧ j ≤ k ∧ Blk wr w.heap.size 24 (addrC false zeros) ∧ Ch [] w wr) (fun _ i _ => k - (intOf i).toNat)
    case atStart => exact ⟨0, rfl, rfl, Nat.zero_le _, B1', CC⟩
    case round =>
      clear B1' CC
      obtain ⟨j, rfl, rfl, hj, B1, CC⟩ := hrel
      have hj1 : j < s.size := by omega
      have hj2 : j + 1 < s.size := by omega
      have hji : (j : Int) + 1 < s.size := by omega
      have e0 : ((s[j]'hj1).toNat : Int) = byt s j := byt_get hj1
      have e1 : ((s[j + 1]'hj2).toNat : Int) = byt s (j + 1) := byt_get hj2
      by_cases hlt : j < k
      · by_cases h58 : byt s j = 58
        · have h2 : byt s (j + 1) ≠ 58 := fun h => HKN.out j hlt ⟨h58, h⟩
          have d1 : (byt s (j + 1) == 58) = false := by simpa using h2
          rw [h58] at e0
          clear h58 h2
          generalize byt s (j + 1) = y at e1 d1
          go_wp2_with fail
          go_roundw
          case rel => exact ⟨j + 1, rfl, by go_num, by omega, B1, CC⟩
          case measure => simp [intOf]; omega
        · have d0 : (byt s j == 58) = false := by simpa using h58
          clear h58 e1
          generalize byt s j = y at e0 d0
          go_wp2_with fail
          go_roundw
          case rel => exact ⟨j + 1, rfl, by go_num, by omega, B1, CC⟩
          case measure => simp [intOf]; omega
      · obtain rfl : j = k := by omega
        rw [hk58] at e0
        rw [hk58b] at e1
        have hki : (0 : Int) ≤ j := by omega
        have hk2 : (j : Int) + 2 ≤ s.size := by omega
        go_wp2_with (first
          | (go_at_call 74; (with_reducible refine (HA.out _).mono ?_); rintro e w5 ⟨A, c, rfl, ownA, C5⟩; have ownAlt := (fun x hx => (ownA.blks x hx).2); have ownAlo := (fun x hx => (ownA.blks x hx).1); have lt1 := B1.lt; have B5 := B1.ch C5 (by simp); have CC5 := CC.trans C5)
          | (go_at_call 74; (with_reducible refine (HB.out _).mono ?_); rintro e w6 ⟨M, cm, rfl, ownM, C6⟩; have B6 := B5.ch C6 (by simp); have CC6 := CC5.trans C6; have ownA6 := ownA.ch C6 (by simp)))
        have hgw5 := CC5.size
        clear B1 CC C5 B5 CC5 ownA C6
        have hgw6 := CC6.size
        have hAM : ∀ x ∈ blkOf A, ∀ y ∈ blkOf M, x ≠ y := fun x hx y hy => by
          have h1 := (ownAlt x hx)
          have h2 := (ownM.blks y hy).1
          omega
        have d1 : decide ((j : Int) < 0) = false := by simp
        have d2 : decide ((7 : Int) < (a.length : Int) + b.length) = false := by simpa using hli
        try simp only [d1]
        try simp only [d2]
        have ownM' : Own w6 w.heap.size 136 1 M b.length cm (b.map (Value.int .u16)) := ownM.base (by omega)
        have ownA' : Own w6 w.heap.size 136 1 A a.length c (a.map (Value.int .u16)) := ownA6.base (by omega)
        clear ownM ownA6
        go_loopw [10] (fun o wr => ∃ (n : Nat) (A : Option Addr) (c : Nat), o = .slice A n c ∧ a.length ≤ n ∧ n + b.length ≤ 8 ∧ Own wr w.heap.size 136 1 A n c ((a ++ List.replicate (n - a.length) 0).map (Value.int .u16)) ∧ Own wr w.heap.size 136 1 M b.length cm (b.map (Value.int .u16)) ∧ (∀ x ∈ blkOf A, ∀ y ∈ blkOf M, x ≠ y) ∧ Blk wr w.heap.size 24 (addrC false zeros) ∧ (∀ x ∈ blkOf A, x ≠ w.heap.size) ∧ Ch [] w wr) (fun o _ => 8 - (match o with | .slice _ n _ => n | _ => 0))
        case atStart => exact ⟨a.length, A, c, rfl, Nat.le_refl _, by omega, by simpa using ownA', ownM', hAM, B6, fun x hx => by have := ownAlo x hx; omega, CC6⟩
        case round =>
          rename World => wr2
          clear ownM' ownA' hAM B6 CC6
          obtain ⟨n, A2, c2, rfl, hn1, hn2, ownL, ownM2, hap, B2, hw0, CC⟩ := hrel
          have hgw := CC.size
          by_cases hlt8 : n + b.length < 8
          · have h8 : (n : Int) + b.length < 8 := by omega
            go_wp2_with (at_builtin; (refine wpList_app _ rfl (.tmp 90) (.tmp 91) _ rfl w.heap.size 136 _ 1 2 Tryd.underlying132 u16_info rfl (by omega) _ _ _ _ rfl (ownL.alloc _) _ _ _ _ [.int .u16 0] rfl (Rd.new _ 1 [.int .u16 0] 1 rfl _) (by simp [Value.oneCell']) (by unfold maxLen; omega) (by omega) (by simp only [World.size_alloc]; omega) ?_; intro A4 c4 w4 own4 ch4 at4))
            go_roundw
            case rel =>
              refine ⟨n + 1, A4, c4, rfl, by omega, by omega, ?_, (ownM2.alloc _).ch ch4 (fun y hy hy2 => hap _ hy2 _ hy rfl), ?_, (B2.alloc _).ch ch4 (fun hm => hw0 _ hm rfl), ?_, (CC.alloc _).step ch4 (fun g' hg' => .inr (ownL.blks g' hg').1)⟩
              · rw [show n + 1 - a.length = (n - a.length) + 1 by omega, List.replicate_succ', ← List.append_assoc, List.map_append]
                exact own4
              · intro x hx y hy
                rcases at4 x hx with h1 | h1
                · exact hap x h1 y hy
                · have := (ownM2.blks y hy).2
                  simp only [World.size_alloc] at h1
                  omega
              · intro x hx
                rcases at4 x hx with h1 | h1
                · exact hw0 x h1
                · simp only [World.size_alloc] at h1
                  omega
            case measure => simp; omega
          · have h8 : n + b.length = 8 := by omega
            have h8' : ¬ ((n : Int) + b.length < 8) := by omega
            have HGE : Hid ((a ++ List.replicate (n - a.length) 0).map (Value.int .u16) ++ b.map (Value.int .u16) = gs.map (Value.int .u16)) := by
              show _ = _
              rw [← HGS.out, ← List.map_append, show n - a.length = 8 - (a.length + b.length) by omega]
            have H8 := hid h8
            have hgl8 := hid hgl
            go_wp2_with (first
              | (at_builtin; (refine wpList_app _ rfl (.tmp 93) (.tmp 94) _ rfl w.heap.size 136 _ 1 2 Tryd.underlying132 u16_info rfl (by omega) _ _ _ _ rfl ownL _ _ _ _ (b.map (Value.int .u16)) rfl ownM2.rd (by intro u hu; obtain ⟨z, _, rfl⟩ := List.mem_map.1 hu; rfl) (by unfold maxLen; omega) (by omega) (by omega) ?_; intro A4 c4 w4 own4 ch4 at4; rw [H8.out, HGE.out] at own4; rw [H8.out]; have B4 := B2.ch ch4 (fun hm => hw0 _ hm rfl); have CC4 := CC.step ch4 (fun g' hg' => .inr (ownL.blks g' hg').1)))
              | (refine wpList_storeB rfl 24 _ _ rfl w.heap.size 24 (addrC false zeros) (addrC true (grpB gs)) rfl rfl B7 HI2.out ((addr_len (six := false) (bs := zeros) rfl).trans (addr_len hl16).symm) (addr_one' _ _) ?_; intro w8 B8 C8 Z8)
              | (go_at_call 75; (with_reducible refine (refV6 _ _ gs _ (Rd.ints own4.rd) hgl8.out HGR.out).mono ?_); rintro e w7 ⟨rfl, C7⟩; have B7 := B4.ch C7 (by simp); have CC7 := CC4.trans C7))
            try simp only [Exit.inBlock, Exit.then]
            refine bodyPost_ret (results_rowF2 rfl _ _ rfl B8 Tryd.underlying24 rfl HI2.out) rfl ?_
            exact ⟨rfl, CC7.step C8 (fun i hi => .inr (by simp at hi; omega))⟩
end Go.Proofs.YtjpiekljjhgmoaaDoor
