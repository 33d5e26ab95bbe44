/- Several texts in one: RowM, GenS, GenD, ArgsA. -/
import Derived.Test.YtjabeabbaambcaaDoorRow
import Derived.Test.YtjabeabbaambcaaDoorGenA
import Derived.Test.YtjabeabbaambcaaDoorCidr
import Derived.Test.YtjabeabbaambcaaDoorCidr3
import Derived.Test.YtjabeabbaambcaaDoorTab
import Derived.Test.YtjabeabbaambcaaDoorArgs
import Derived.Deep.MidRow
/- A row (a struct, an array) stored into the middle of a block. -/
namespace Go.Proofs.YtjabeabbaambcaaDoor
open Go.RowKit

/-- A list with another laid over it from place o on. -/
def overL : List Value → Nat → List Value → List Value
  | cs, _, [] => cs
  | cs, o, v :: r => overL (cs.set o v) (o + 1) r
section
variable {P : Program} {w w' a : World} {g : Nat} {t : TypeId} {cs cs' : List Value} {S : List Nat}
theorem overL_len : ∀ (vs cs : List Value) (o : Nat), (overL cs o vs).length = cs.length
  | [], _, _ => rfl
  | v :: r, cs, o => by rw [overL, overL_len r]; simp
theorem Blk.setCells : ∀ (vs : List Value) (o : Nat) {w : World} {cs : List Value}, Blk w g t cs → Blk (w.setCells g o vs) g t (overL cs o vs)
  | [], _, _, _, h => h
  | v :: r, o, _, _, h => Blk.setCells r (o + 1) (h.set o v)
theorem Ch.setCells (hg : g ∈ S ∨ a.heap.size ≤ g) : ∀ (vs : List Value) (o : Nat) {w : World}, Ch S a w → Ch S a (w.setCells g o vs)
  | [], _, _, h => h
  | v :: r, o, _, h => Ch.setCells hg r (o + 1) (h.setCell (p := ⟨g, o, none⟩) hg v)
theorem size_setCells : ∀ (vs : List Value) (o : Nat) (w : World), (w.setCells g o vs).heap.size = w.heap.size
  | [], _, _ => rfl
  | v :: r, o, w => by rw [World.setCells, size_setCells r]; simp
theorem Blk.there (h : Blk w g t cs) (o n : Nat) (hf : o + n ≤ cs.length) : w.there g o n := fun j hj =>
  ⟨by rw [h.cell, List.getElem?_eq_getElem (by omega)]; rfl, h.frozen _⟩

variable {ops : Array Oper} {rest : List Oper} {o : Oper} {ac : Act} {Q : Exit → Act → World → Prop} {K : Act → World → Prop}
theorem wp_storeM (ty : TypeId) (x y : Operand) (ho : o.op = .store ty x y)
    (g p : Nat) (t : TypeId) (cs vs cs' : List Value) (hx : ac.eval x = .pointer (some ⟨g, p, none⟩)) (hy : ac.eval y = .agg vs.toArray) (hB : Blk w g t cs) (he : overL cs p vs = cs') (hf : p + vs.length ≤ cs.length)
    (hi : (P.info? ty).map (·.size) = some vs.length) (h1 : vs.all (·.oneCell') = true)
    (h : ∀ w', Blk w' g t cs' → Ch [g] w w' → w'.heap.size = w.heap.size → K (ac.put o.dst undef) w') : o.wp P ac w K Q :=
  wp_store_mid ty x y ho g p vs.toArray hx hy (hB.there p _ (by simpa using hf)) (by simpa using hi) (by simpa using h1)
    (by rw [List.toList_toArray]; exact h _ (he ▸ hB.setCells vs p) ((Ch.refl _ _).setCells (.inl (by simp)) vs p) (size_setCells ..))
theorem wpList_storeM (hgd : o.guard = none) (ty : TypeId) (x y : Operand) (ho : o.op = .store ty x y)
    (g p : Nat) (t : TypeId) (cs vs cs' : List Value) (hx : ac.eval x = .pointer (some ⟨g, p, none⟩)) (hy : ac.eval y = .agg vs.toArray) (hB : Blk w g t cs) (he : overL cs p vs = cs') (hf : p + vs.length ≤ cs.length)
    (hi : (P.info? ty).map (·.size) = some vs.length) (h1 : vs.all (·.oneCell') = true)
    (h : ∀ w', Blk w' g t cs' → Ch [g] w w' → w'.heap.size = w.heap.size → wpList P ops Q rest (ac.put o.dst undef) w') : wpList P ops Q (o :: rest) ac w :=
  wpList_plain hgd fun _ hK => wp_storeM ty x y ho g p t cs vs cs' hx hy hB he hf hi h1 fun w' h1 h2 h3 => hK _ _ (h w' h1 h2 h3)
end
end Go.Proofs.YtjabeabbaambcaaDoor

/- ginnelgen.ValidAddr, SomeAddr, Addr: addresses that are valid, whatever they are made of. -/
namespace Go.Proofs.YtjabeabbaambcaaDoor
open Go.RowKit

def vldA (six : Bool) (bs : List Int) : List Int := if six then bs else bs.take 4 ++ [0, 0, 0, 0, 0, 0, 0, 0, 0, 0, 0, 0]
theorem vldA_good {six : Bool} {bs : List Int} (h : GoodA bs) : GoodA (vldA six bs) ∧ validA six (vldA six bs) = true := by
  obtain ⟨b0, b1, b2, b3, b4, b5, b6, b7, b8, b9, b10, b11, b12, b13, b14, b15, rfl⟩ := len16 h.1
  obtain ⟨_, hb⟩ := h
  cases six
  · refine ⟨⟨rfl, fun x hx => ?_⟩, rfl⟩
    simp only [vldA, List.take_succ_cons, List.take_zero, List.cons_append, List.nil_append, Bool.false_eq_true, if_false, List.mem_cons, List.not_mem_nil, or_false] at hx
    simp only [List.mem_cons, List.not_mem_nil, or_false, forall_eq_or_imp, forall_eq] at hb
    omega
  · exact ⟨⟨rfl, hb⟩, rfl⟩
theorem genAddrG (n : Int) (w : World) : Calls Tryd.prog 63 #[.int .i64 n] w fun e w' => (∃ six bs, e = .returned (.agg (addrC six bs).toArray) ∧ GoodA bs ∧ validA six bs = true) ∧ Ch [] w w' :=
  (genAddr n w).mono fun _ _ ⟨⟨six, b0, b1, b2, b3, b4, b5, b6, b7, b8, b9, b10, b11, b12, b13, b14, b15, h1, h2, h3⟩, hc⟩ => ⟨⟨six, [b0, b1, b2, b3, b4, b5, b6, b7, b8, b9, b10, b11, b12, b13, b14, b15], h1, ⟨rfl, h2⟩, h3⟩, hc⟩

set_option maxRecDepth 20000 in
set_option maxHeartbeats 4000000 in
theorem genValid (six : Bool) (bs : List Int) (hg : GoodA bs) (w : World) : Calls Tryd.prog 45 #[.agg (addrC six bs).toArray] w fun e w' => e = .returned (.agg (addrC six (vldA six bs)).toArray) ∧ Ch [] w w' := by
  obtain ⟨b0, b1, b2, b3, b4, b5, b6, b7, b8, b9, b10, b11, b12, b13, b14, b15, rfl⟩ := len16 hg.1
  have HI := hid (addr_inf (six := false) (bs := [b0, b1, b2, b3, 0, 0, 0, 0, 0, 0, 0, 0, 0, 0, 0, 0]) rfl)
  have HI2 := hid (addr_inf (six := true) (bs := [b0, b1, b2, b3, b4, b5, b6, b7, b8, b9, b10, b11, b12, b13, b14, b15]) rfl)
  clear hg
  cases six
  · show Calls Tryd.prog 45 #[.agg #[.bool false, .int .u8 b0, .int .u8 b1, .int .u8 b2, .int .u8 b3, .int .u8 b4, .int .u8 b5, .int .u8 b6, .int .u8 b7, .int .u8 b8, .int .u8 b9, .int .u8 b10, .int .u8 b11, .int .u8 b12, .int .u8 b13, .int .u8 b14, .int .u8 b15]] w fun e w' => e = .returned (.agg (addrC false [b0, b1, b2, b3, 0, 0, 0, 0, 0, 0, 0, 0, 0, 0, 0, 0]).toArray) ∧ Ch [] w w'
    go_enter Tryd.func45, Tryd.ntmps45
    have HI3 : (Tryd.prog.info? 27).map (·.size) = some 16 := by kernel_rfl
    have hB1 : Blk ((w.alloc (.cells #[.bool false, .int .u8 b0, .int .u8 b1, .int .u8 b2, .int .u8 b3, .int .u8 b4, .int .u8 b5, .int .u8 b6, .int .u8 b7, .int .u8 b8, .int .u8 b9, .int .u8 b10, .int .u8 b11, .int .u8 b12, .int .u8 b13, .int .u8 b14, .int .u8 b15] 29)).alloc (.cells #[.bool false, .int .u8 0, .int .u8 0, .int .u8 0, .int .u8 0, .int .u8 0, .int .u8 0, .int .u8 0, .int .u8 0, .int .u8 0, .int .u8 0, .int .u8 0, .int .u8 0, .int .u8 0, .int .u8 0, .int .u8 0, .int .u8 0] 29)) w.heap.size 29 (addrC false [b0, b1, b2, b3, b4, b5, b6, b7, b8, b9, b10, b11, b12, b13, b14, b15]) := (Blk.new w 29 (addrC false [b0, b1, b2, b3, b4, b5, b6, b7, b8, b9, b10, b11, b12, b13, b14, b15])).alloc _
    have hB2 : Blk ((w.alloc (.cells #[.bool false, .int .u8 b0, .int .u8 b1, .int .u8 b2, .int .u8 b3, .int .u8 b4, .int .u8 b5, .int .u8 b6, .int .u8 b7, .int .u8 b8, .int .u8 b9, .int .u8 b10, .int .u8 b11, .int .u8 b12, .int .u8 b13, .int .u8 b14, .int .u8 b15] 29)).alloc (.cells #[.bool false, .int .u8 0, .int .u8 0, .int .u8 0, .int .u8 0, .int .u8 0, .int .u8 0, .int .u8 0, .int .u8 0, .int .u8 0, .int .u8 0, .int .u8 0, .int .u8 0, .int .u8 0, .int .u8 0, .int .u8 0, .int .u8 0] 29)) (w.heap.size + 1) 29 (addrC false zeros) := Blk.newAt (w.alloc (.cells #[.bool false, .int .u8 b0, .int .u8 b1, .int .u8 b2, .int .u8 b3, .int .u8 b4, .int .u8 b5, .int .u8 b6, .int .u8 b7, .int .u8 b8, .int .u8 b9, .int .u8 b10, .int .u8 b11, .int .u8 b12, .int .u8 b13, .int .u8 b14, .int .u8 b15] 29)) 29 (addrC false zeros) (by simp)
    have hC : Ch [] w ((w.alloc (.cells #[.bool false, .int .u8 b0, .int .u8 b1, .int .u8 b2, .int .u8 b3, .int .u8 b4, .int .u8 b5, .int .u8 b6, .int .u8 b7, .int .u8 b8, .int .u8 b9, .int .u8 b10, .int .u8 b11, .int .u8 b12, .int .u8 b13, .int .u8 b14, .int .u8 b15] 29)).alloc (.cells #[.bool false, .int .u8 0, .int .u8 0, .int .u8 0, .int .u8 0, .int .u8 0, .int .u8 0, .int .u8 0, .int .u8 0, .int .u8 0, .int .u8 0, .int .u8 0, .int .u8 0, .int .u8 0, .int .u8 0, .int .u8 0, .int .u8 0] 29)) := ((Ch.refl _ _).alloc _).alloc _
    go_wp2_with (first
      | (refine wpList_storeM rfl 27 _ _ rfl w.heap.size 1 29 (addrC false [b0, b1, b2, b3, b4, b5, b6, b7, b8, b9, b10, b11, b12, b13, b14, b15]) [.int .u8 b0, .int .u8 b1, .int .u8 b2, .int .u8 b3, .int .u8 0, .int .u8 0, .int .u8 0, .int .u8 0, .int .u8 0, .int .u8 0, .int .u8 0, .int .u8 0, .int .u8 0, .int .u8 0, .int .u8 0, .int .u8 0] (addrC false [b0, b1, b2, b3, 0, 0, 0, 0, 0, 0, 0, 0, 0, 0, 0, 0]) ?_ ?_ ?_ ?_ ?_ ?_ ?_ ?_; rfl; rfl; exact hB1; rfl; (show 1 + 16 ≤ 17; omega); exact HI3; rfl; intro w3 B3 C3 Z3; have B4 := hB2.ch C3 (by simp); have CC := hC.step C3 (fun i hi => .inr (by simp at hi; omega)))
      | (refine wpList_loadB rfl 29 _ rfl w.heap.size 29 (addrC false [b0, b1, b2, b3, 0, 0, 0, 0, 0, 0, 0, 0, 0, 0, 0, 0]) _ rfl B3 Tryd.underlying29 rfl HI.out ?_)
      | (refine wpList_storeB rfl 29 _ _ rfl (w.heap.size + 1) 29 (addrC false zeros) (addrC false [b0, b1, b2, b3, 0, 0, 0, 0, 0, 0, 0, 0, 0, 0, 0, 0]) rfl rfl B4 HI.out rfl (addr_one' _ _) ?_; intro w5 B5 C5 Z5))
    try simp only [Exit.inBlock, Exit.then]
    refine bodyPost_ret (results_row1 rfl _ _ rfl B5 Tryd.underlying29 rfl HI.out) rfl ?_
    exact ⟨rfl, CC.step C5 (fun i hi => .inr (by simp at hi; omega))⟩
  · show Calls Tryd.prog 45 #[.agg #[.bool true, .int .u8 b0, .int .u8 b1, .int .u8 b2, .int .u8 b3, .int .u8 b4, .int .u8 b5, .int .u8 b6, .int .u8 b7, .int .u8 b8, .int .u8 b9, .int .u8 b10, .int .u8 b11, .int .u8 b12, .int .u8 b13, .int .u8 b14, .int .u8 b15]] w fun e w' => e = .returned (.agg (addrC true [b0, b1, b2, b3, b4, b5, b6, b7, b8, b9, b10, b11, b12, b13, b14, b15]).toArray) ∧ Ch [] w w'
    go_enter Tryd.func45, Tryd.ntmps45
    go_wp2_with (first
      | (refine wpList_storeB rfl 29 _ _ rfl (w.heap.size + 1) 29 (addrC false zeros) (addrC true [b0, b1, b2, b3, b4, b5, b6, b7, b8, b9, b10, b11, b12, b13, b14, b15]) rfl rfl (Blk.newAt _ _ _ (by simp)) HI2.out rfl (addr_one' _ _) ?_; intro w5 B5 C5 Z5))
    try simp only [Exit.inBlock, Exit.then]
    refine bodyPost_ret (results_row1 rfl _ _ rfl B5 Tryd.underlying29 rfl HI2.out) rfl ?_
    exact ⟨rfl, (((Ch.refl [] w).alloc _).alloc _).step C5 (fun i hi => .inr (by simp at hi; omega))⟩
end Go.Proofs.YtjabeabbaambcaaDoor

/- ginnelgen.Addr and SomeAddr as functions of their arguments. -/
namespace Go.Proofs.YtjabeabbaambcaaDoor
open Go.RowKit

def addrK (k y : Int) : Bool × List Int :=
  if k = 0 then (false, [8, 8, 8, 8, 0, 0, 0, 0, 0, 0, 0, 0, 0, 0, 0, 0]) else
  if k = 1 then (false, [8, 8, 4, 4, 0, 0, 0, 0, 0, 0, 0, 0, 0, 0, 0, 0]) else
  if k = 2 then (false, [9, 1, 2, 3, 0, 0, 0, 0, 0, 0, 0, 0, 0, 0, 0, 0]) else
  if k = 3 then (false, [10, 0, 0, 1, 0, 0, 0, 0, 0, 0, 0, 0, 0, 0, 0, 0]) else
  if k = 4 then (false, [127, 0, 0, 1, 0, 0, 0, 0, 0, 0, 0, 0, 0, 0, 0, 0]) else
  if k = 5 then (false, [8, 9, 0, y, 0, 0, 0, 0, 0, 0, 0, 0, 0, 0, 0, 0]) else
  if k = 6 then (true, [32, 1, 13, 184, 0, 0, 0, 0, 0, 0, 0, 0, 0, 0, 0, y]) else
  if k = 7 then (true, [42, 0, 0, 0, 0, 0, 0, 0, 0, 0, 0, 0, 0, 0, 0, 5]) else
  if k = 8 then (true, [254, 128, 0, 0, 0, 0, 0, 0, 0, 0, 0, 0, 0, 0, 0, 1]) else
  if k = 9 then (true, [0, 0, 0, 0, 0, 0, 0, 0, 0, 0, 255, 255, 8, 8, 8, 8]) else
  if k = 10 then (true, [32, 2, 0, 0, 0, 0, 0, 0, 0, 0, 0, 0, 0, 0, 0, 1]) else
  if k = 11 then (true, [0, 0, 0, 0, 0, 0, 0, 0, 0, 0, 0, 0, 0, 0, 0, 1]) else
  if k = 12 then (true, [32, 1, 0, 0, 0, 0, 0, 0, 0, 0, 0, 0, 0, 0, 0, y]) else
  (true, [42, 0, 0, 0, 0, 0, 0, 0, 0, 0, 0, 0, 0, 0, 0, y])
def addrN (n : Int) : Bool × List Int := addrK (modI n 14) (n / 16 % 256)
def OkA (r : Bool × List Int) : Prop := GoodA r.2 ∧ validA r.1 r.2 = true
theorem okA_ite {c : Prop} [Decidable c] {a b : Bool × List Int} (ha : OkA a) (hb : OkA b) : OkA (if c then a else b) := by split <;> assumption
theorem okA_mk (six : Bool) (l : List Int) (y : Int) (hy : 0 ≤ y ∧ y ≤ 255) (hl : l.length = 16) (hx : ∀ x ∈ l, x = y ∨ 0 ≤ x ∧ x ≤ 255) (hv : validA six l = true) : OkA (six, l) :=
  ⟨⟨hl, fun x hm => by rcases hx x hm with rfl | h; exact hy; exact h⟩, hv⟩
theorem addrK_good (k y : Int) (hy : 0 ≤ y ∧ y ≤ 255) : OkA (addrK k y) := by
  unfold addrK
  repeat' (refine okA_ite ?_ ?_)
  all_goals exact okA_mk _ _ y hy rfl (by intro x hx; simp only [List.mem_cons, List.not_mem_nil, or_false] at hx; omega) rfl
theorem addrN_good (n : Int) : GoodA (addrN n).2 ∧ validA (addrN n).1 (addrN n).2 = true := addrK_good _ _ (by omega)
set_option maxRecDepth 100000 in
set_option maxHeartbeats 8000000 in
theorem genAddrN (n : Int) (w : World) : Calls Tryd.prog 63 #[.int .i64 n] w fun e w' => e = .returned (.agg (addrC (addrN n).1 (addrN n).2).toArray) ∧ Ch [] w w' := by
  obtain ⟨h0, h1⟩ := modI_rng n 14 (by omega)
  have M1 := hid (fun w => genMod n 14 w (by omega) (by omega))
  unfold addrN
  generalize modI n 14 = k at h0 h1 M1 ⊢
  obtain ⟨y, hy⟩ : ∃ y, n / 16 % 256 = y := ⟨_, rfl⟩
  have y0 : 0 ≤ y ∧ y ≤ 255 := by omega
  obtain rfl | rfl | rfl | rfl | rfl | rfl | rfl | rfl | rfl | rfl | rfl | rfl | rfl | rfl : k = 0 ∨ k = 1 ∨ k = 2 ∨ k = 3 ∨ k = 4 ∨ k = 5 ∨ k = 6 ∨ k = 7 ∨ k = 8 ∨ k = 9 ∨ k = 10 ∨ k = 11 ∨ k = 12 ∨ k = 13 := by omega
  all_goals
    go_enter Tryd.func63, Tryd.ntmps63
    go_wp2_with (first
      | (refine wpList_storeB rfl 29 _ _ rfl w.heap.size 29 (addrC false zeros) (addrC _ [_, _, _, _, _, _, _, _, _, _, _, _, _, _, _, _]) rfl rfl B3 addr_info rfl rfl ?_; intro w2 B2 C2 Z2; have CE := C3.step C2 (fun i hi => .inr (by simp at hi; omega)))
      | (refine wpList_storeB rfl 29 _ _ rfl w.heap.size 29 (addrC false zeros) (addrC _ [_, _, _, _, _, _, _, _, _, _, _, _, _, _, _, _]) rfl rfl (Blk.new _ _ _) addr_info rfl rfl ?_; intro w2 B2 C2 Z2; have CE := ((Ch.refl [] w).alloc _).step C2 (fun i hi => .inr (by simp at hi; omega)))
      | (go_at_call 35; (with_reducible refine (v4R _ _ _ _ _).mono ?_); rintro e w3 ⟨rfl, C4⟩; have B3 := (Blk.new w 29 (addrC false zeros)).ch C4 (by simp); have C3 := ((Ch.refl [] w).alloc _).trans C4)
      | (go_at_call 14; (with_reducible refine (M1.out _).mono ?_); rintro e w2 ⟨rfl, rfl⟩))
    try simp only [Exit.inBlock, Exit.then]
    refine bodyPost_ret (results_row1 rfl _ _ rfl B2 Tryd.underlying29 rfl addr_info) rfl ?_
    exact ⟨by (try rw [hy]); rfl, CE⟩

def someA (six : Bool) (bs : List Int) : Bool × List Int :=
  if at_ bs 7 % 5 = 0 then (six, bs) else if at_ bs 7 % 5 = 1 then (six, vldA six bs) else addrN (bits .or .i64 (at_ bs 0) (at_ bs 1 * 256))
theorem someA_good {six : Bool} {bs : List Int} (h : GoodA bs) : GoodA (someA six bs).2 := by
  unfold someA
  split
  · exact h
  · split
    · exact (vldA_good h).1
    · exact (addrN_good _).1
set_option maxRecDepth 20000 in
set_option maxHeartbeats 4000000 in
theorem genSome (six : Bool) (bs : List Int) (hg : GoodA bs) (w : World) : Calls Tryd.prog 25 #[.agg (addrC six bs).toArray] w fun e w' => e = .returned (.agg (addrC (someA six bs).1 (someA six bs).2).toArray) ∧ Ch [] w w' := by
  have hB1 : Blk ((w.alloc (.cells (addrC six bs).toArray 29)).alloc (.cells #[.bool false, .int .u8 0, .int .u8 0, .int .u8 0, .int .u8 0, .int .u8 0, .int .u8 0, .int .u8 0, .int .u8 0, .int .u8 0, .int .u8 0, .int .u8 0, .int .u8 0, .int .u8 0, .int .u8 0, .int .u8 0, .int .u8 0] 29)) w.heap.size 29 (addrC six bs) := (Blk.new w _ _).alloc _
  have hB2 : Blk ((w.alloc (.cells (addrC six bs).toArray 29)).alloc (.cells #[.bool false, .int .u8 0, .int .u8 0, .int .u8 0, .int .u8 0, .int .u8 0, .int .u8 0, .int .u8 0, .int .u8 0, .int .u8 0, .int .u8 0, .int .u8 0, .int .u8 0, .int .u8 0, .int .u8 0, .int .u8 0, .int .u8 0] 29)) (w.heap.size + 1) 29 (addrC false zeros) := Blk.newAt _ _ (addrC false zeros) (by simp)
  have hC : Ch [] w ((w.alloc (.cells (addrC six bs).toArray 29)).alloc (.cells #[.bool false, .int .u8 0, .int .u8 0, .int .u8 0, .int .u8 0, .int .u8 0, .int .u8 0, .int .u8 0, .int .u8 0, .int .u8 0, .int .u8 0, .int .u8 0, .int .u8 0, .int .u8 0, .int .u8 0, .int .u8 0, .int .u8 0] 29)) := ((Ch.refl _ _).alloc _).alloc _
  have c7 : ((w.alloc (.cells (addrC six bs).toArray 29)).alloc (.cells #[.bool false, .int .u8 0, .int .u8 0, .int .u8 0, .int .u8 0, .int .u8 0, .int .u8 0, .int .u8 0, .int .u8 0, .int .u8 0, .int .u8 0, .int .u8 0, .int .u8 0, .int .u8 0, .int .u8 0, .int .u8 0, .int .u8 0] 29)).cell? ⟨w.heap.size, 8, none⟩ = some (.int .u8 (at_ bs 7)) := by rw [hB1.cell]; exact addrC_byte (k := 7) (by rw [hg.1]; omega)
  have c0 : ((w.alloc (.cells (addrC six bs).toArray 29)).alloc (.cells #[.bool false, .int .u8 0, .int .u8 0, .int .u8 0, .int .u8 0, .int .u8 0, .int .u8 0, .int .u8 0, .int .u8 0, .int .u8 0, .int .u8 0, .int .u8 0, .int .u8 0, .int .u8 0, .int .u8 0, .int .u8 0, .int .u8 0] 29)).cell? ⟨w.heap.size, 1, none⟩ = some (.int .u8 (at_ bs 0)) := by rw [hB1.cell]; exact addrC_byte (k := 0) (by rw [hg.1]; omega)
  have c1 : ((w.alloc (.cells (addrC six bs).toArray 29)).alloc (.cells #[.bool false, .int .u8 0, .int .u8 0, .int .u8 0, .int .u8 0, .int .u8 0, .int .u8 0, .int .u8 0, .int .u8 0, .int .u8 0, .int .u8 0, .int .u8 0, .int .u8 0, .int .u8 0, .int .u8 0, .int .u8 0, .int .u8 0] 29)).cell? ⟨w.heap.size, 2, none⟩ = some (.int .u8 (at_ bs 1)) := by rw [hB1.cell]; exact addrC_byte (k := 1) (by rw [hg.1]; omega)
  obtain ⟨x0, x1⟩ := hg.at (show 0 < 16 by omega)
  obtain ⟨y0, y1⟩ := hg.at (show 1 < 16 by omega)
  obtain ⟨z0, z1⟩ := hg.at (show 7 < 16 by omega)
  have HV := hid (genValid six bs hg)
  have HI := hid (addr_inf (six := six) hg.1)
  have HIV := hid (addr_inf (six := six) (vldA_good (six := six) hg).1.1)
  have HLV := hid (vldA_good (six := six) hg).1.1
  have HL := hid hg.1
  clear hg
  unfold someA
  by_cases h0 : at_ bs 7 % 5 = 0
  · rw [if_pos h0]
    obtain ⟨z, hz⟩ : ∃ z, at_ bs 7 = z := ⟨_, rfl⟩
    rw [hz] at c7 h0 z0 z1
    have d0 : (z % 5 == 0) = true := by simpa using h0
    clear h0 hz
    obtain ⟨vs, hvs⟩ : ∃ vs, (addrC six bs).toArray = vs := ⟨_, rfl⟩
    rw [hvs] at hB1 hB2 hC c7 c0 c1
    show Calls Tryd.prog 25 #[.agg (addrC six bs).toArray] w fun e w' => e = .returned (.agg (addrC six bs).toArray) ∧ Ch [] w w'
    have HVS := hid hvs
    rw [hvs]
    clear hvs
    go_enter Tryd.func25, Tryd.ntmps25
    go_wp2_with (first
      | (refine wpList_loadB rfl 29 _ rfl w.heap.size 29 (addrC six bs) _ rfl hB1 Tryd.underlying29 rfl HI.out ?_)
      | (refine wpList_storeB rfl 29 _ _ rfl (w.heap.size + 1) 29 (addrC false zeros) (addrC six bs) rfl rfl hB2 HI.out ((addr_len (six := false) (bs := zeros) rfl).trans (addr_len HL.out).symm) (addr_one' _ _) ?_; intro w5 B5 C5 Z5))
    try simp only [Exit.inBlock, Exit.then]
    refine bodyPost_ret (results_row1 rfl _ _ rfl B5 Tryd.underlying29 rfl HI.out) rfl ?_
    exact ⟨by rw [HVS.out], hC.step C5 (fun i hi => .inr (by simp at hi; omega))⟩
  · rw [if_neg h0]
    by_cases h1 : at_ bs 7 % 5 = 1
    · rw [if_pos h1]
      obtain ⟨z, hz⟩ : ∃ z, at_ bs 7 = z := ⟨_, rfl⟩
      rw [hz] at c7 h1 z0 z1
      have d0 : (z % 5 == 0) = false := by simp; omega
      have d1 : (z % 5 == 1) = true := by simpa using h1
      clear h0 h1 hz
      show Calls Tryd.prog 25 #[.agg (addrC six bs).toArray] w fun e w' => e = .returned (.agg (addrC six (vldA six bs)).toArray) ∧ Ch [] w w'
      go_enter Tryd.func25, Tryd.ntmps25
      go_wp2_with (first
        | (refine wpList_loadB rfl 29 _ rfl w.heap.size 29 (addrC six bs) _ rfl hB1 Tryd.underlying29 rfl HI.out ?_)
        | (go_at_call 45; (with_reducible refine (HV.out _).mono ?_); rintro e w3 ⟨rfl, C3⟩; have B3 := hB2.ch C3 (by simp); have CC3 := hC.trans C3)
        | (refine wpList_storeB rfl 29 _ _ rfl (w.heap.size + 1) 29 (addrC false zeros) (addrC six (vldA six bs)) rfl rfl B3 HIV.out ((addr_len (six := false) (bs := zeros) rfl).trans (addr_len HLV.out).symm) (addr_one' _ _) ?_; intro w5 B5 C5 Z5))
      try simp only [Exit.inBlock, Exit.then]
      refine bodyPost_ret (results_row1 rfl _ _ rfl B5 Tryd.underlying29 rfl HIV.out) rfl ?_
      exact ⟨rfl, CC3.step C5 (fun i hi => .inr (by simp at hi; omega))⟩
    · rw [if_neg h1]
      obtain ⟨z, hz⟩ : ∃ z, at_ bs 7 = z := ⟨_, rfl⟩
      rw [hz] at c7 h0 h1 z0 z1
      have d0 : (z % 5 == 0) = false := by simpa using h0
      have d1 : (z % 5 == 1) = false := by simpa using h1
      clear h0 h1 hz HV HIV HLV
      have HG := hid (addrN_good (bits .or .i64 (at_ bs 0) (at_ bs 1 * 256)))
      have HN := hid (genAddrN (bits .or .i64 (at_ bs 0) (at_ bs 1 * 256)))
      generalize addrN (bits .or .i64 (at_ bs 0) (at_ bs 1 * 256)) = r at HN HG ⊢
      obtain ⟨s6, rs⟩ := r
      obtain ⟨⟨hrl, _⟩, _⟩ := HG.out
      have HI2 := hid (addr_inf (six := s6) hrl)
      have HRL := hid hrl
      clear hrl
      generalize at_ bs 0 = x at c0 x0 x1 HN
      generalize at_ bs 1 = y at c1 y0 y1 HN
      show Calls Tryd.prog 25 #[.agg (addrC six bs).toArray] w fun e w' => e = .returned (.agg (addrC s6 rs).toArray) ∧ Ch [] w w'
      go_enter Tryd.func25, Tryd.ntmps25
      go_wp2_with (first
        | (go_at_call 63; (with_reducible refine (HN.out _).mono ?_); rintro e w3 ⟨rfl, C3⟩; have B3 := hB2.ch C3 (by simp); have CC3 := hC.trans C3)
        | (refine wpList_storeB rfl 29 _ _ rfl (w.heap.size + 1) 29 (addrC false zeros) (addrC s6 rs) rfl rfl B3 HI2.out ((addr_len (six := false) (bs := zeros) rfl).trans (addr_len HRL.out).symm) (addr_one' _ _) ?_; intro w5 B5 C5 Z5))
      try simp only [Exit.inBlock, Exit.then]
      refine bodyPost_ret (results_row1 rfl _ _ rfl B5 Tryd.underlying29 rfl HI2.out) rfl ?_
      exact ⟨rfl, CC3.step C5 (fun i hi => .inr (by simp at hi; omega))⟩
end Go.Proofs.YtjabeabbaambcaaDoor

/- Arguments that are addresses, prefixes, or slices of structs. -/
namespace Go.Proofs.YtjabeabbaambcaaDoor
open Go.ChangeShapes Go.WideShapes Go.ChangeAt Go.RowKit

section
variable {H : Type} {enc : TypeId × Value → H} {P : Program} {W : World}
/-- A slice of structs: the list of its elements. -/
theorem Cl.rows {α : Type} {f : α → List Value} {G : α → Prop} {t e : TypeId} {size : Nat} {cs : List Value} (hu : P.underlying t = some (.slice e)) (hsz : P.cellsOf e = size) (hpos : 0 < size)
    (hop : ∀ c, Cl enc P W e c → ∃ x, c = f x ∧ G x) (hfl : ∀ x, G x → (f x).length = size) (h : Cl enc P W t cs) :
    ∃ A len cap, ∃ l : List α, cs = [.slice A len cap] ∧ len ≤ cap ∧ cap ≤ maxLen ∧ cap * P.bytesOf e ≤ 140737488351232 ∧ Rd W W.heap.size size A len (l.flatMap f) ∧ l.length = len ∧ ∀ x ∈ l, G x := by
  subst hsz
  obtain ⟨A, len, cap, rfl, hl, hm, hb, hel⟩ := h.slice hu hpos
  rcases Nat.eq_zero_or_pos len with h0 | hp
  · subst h0
    exact ⟨A, 0, cap, [], rfl, hl, hm, hb, Rd.nil _ _ _ _, rfl, by simp⟩
  · obtain ⟨b, off, rfl, hblt, hel⟩ := hel hp
    have key : ∀ i, i < len → ∃ x : α, G x ∧ ∀ j v, (f x)[j]? = some v → W.cell? ⟨b, off + i * P.cellsOf e + j, none⟩ = some v := by
      intro i hi
      obtain ⟨c, hcl, hcell, hcc⟩ := hel i hi
      obtain ⟨x, rfl, hg⟩ := hop c hcc
      refine ⟨x, hg, fun j v hv => ?_⟩
      rw [hcell j (by rw [← hcl]; exact (List.getElem?_eq_some_iff.1 hv).1), hv]
    obtain ⟨x0, _⟩ := key 0 hp
    have : Nonempty α := ⟨x0⟩
    obtain ⟨g, hg⟩ : ∃ g : Nat → α, ∀ i, i < len → G (g i) ∧ ∀ j v, (f (g i))[j]? = some v → W.cell? ⟨b, off + i * P.cellsOf e + j, none⟩ = some v :=
      ⟨fun i => if hi : i < len then Classical.choose (key i hi) else x0, fun i hi => by
        simp only [hi, dif_pos]
        exact Classical.choose_spec (key i hi)⟩
    have hGl : ∀ x ∈ (List.range len).map g, G x := by
      intro x hx
      obtain ⟨i, hi, rfl⟩ := List.mem_map.1 hx
      exact (hg i (by simpa using hi)).1
    have hfl2 : ∀ x ∈ (List.range len).map g, (f x).length = P.cellsOf e := fun x hx => hfl x (hGl x hx)
    have hlen : (((List.range len).map g).flatMap f).length = len * P.cellsOf e := by rw [flat_len _ hfl2]; simp
    refine ⟨_, len, cap, (List.range len).map g, rfl, hl, hm, hb, ⟨hlen, fun _ => ⟨b, off, rfl, hblt, fun i v hv => ?_⟩⟩, by simp, hGl⟩
    have hi : i < len * P.cellsOf e := by rw [← hlen]; exact (List.getElem?_eq_some_iff.1 hv).1
    have hk : i / P.cellsOf e < len := (Nat.div_lt_iff_lt_mul hpos).2 hi
    have hj : i % P.cellsOf e < P.cellsOf e := Nat.mod_lt _ hpos
    have hrow : ((List.range len).map g)[i / P.cellsOf e]? = some (g (i / P.cellsOf e)) := by simp [hk]
    have hcl := hfl _ (hg _ hk).1
    have hj' : (f (g (i / P.cellsOf e)))[i % P.cellsOf e]? = some ((f (g (i / P.cellsOf e)))[i % P.cellsOf e]'(by omega)) := List.getElem?_eq_getElem (by omega)
    have h1 := flat_get _ hfl2 _ _ hrow _ _ hj'
    have hi' : i / P.cellsOf e * P.cellsOf e + i % P.cellsOf e = i := by rw [Nat.mul_comm]; exact Nat.div_add_mod i _
    rw [hi'] at h1
    rw [hv] at h1
    obtain rfl := Option.some.inj h1
    have h2 := (hg _ hk).2 _ _ hj'
    rwa [Nat.add_assoc, hi'] at h2
theorem Arg.rows {α : Type} {f : α → List Value} {G : α → Prop} {t e : TypeId} {size : Nat} {v : Value} {d : DataW H} (hu : P.underlying t = some (.slice e)) (hsz : P.cellsOf e = size) (hpos : 0 < size)
    (hop : ∀ c, Cl enc P W e c → ∃ x, c = f x ∧ G x) (hfl : ∀ x, G x → (f x).length = size) (h : Arg enc P W t v d) :
    ∃ A len cap, ∃ l : List α, v = .slice A len cap ∧ len ≤ cap ∧ cap ≤ maxLen ∧ cap * P.bytesOf e ≤ 140737488351232 ∧ Rd W W.heap.size size A len (l.flatMap f) ∧ l.length = len ∧ ∀ x ∈ l, G x := by
  obtain ⟨A, len, cap, l, e, rest⟩ := h.cl.rows hu hsz hpos hop hfl
  obtain ⟨⟨base, hv⟩, _, _⟩ := h
  obtain ⟨A', len', cap', rfl⟩ := okWide_slice hu hv
  simp [Value.cells] at e
  obtain ⟨rfl, rfl, rfl⟩ := e
  exact ⟨A', len', cap', l, rfl, rest⟩
end

section
variable {H : Type} {enc : TypeId × Value → H} {W : World}
theorem Cl.addr {cs : List Value} (h : Cl enc Tryd.prog W 29 cs) : ∃ six bs, cs = addrC six bs ∧ GoodA bs := by
  have hsz := (h.struct Tryd.underlying29).1
  rw [show Tryd.prog.cellsOf 29 = 17 by kernel_rfl] at hsz
  obtain ⟨six, e3⟩ := (h.field Tryd.underlying29 0 4 0 1 (by kernel_rfl) (by kernel_rfl)).bool Tryd.underlying4
  have g2 := (h.field Tryd.underlying29 1 27 1 16 (by kernel_rfl) (by kernel_rfl)).array Tryd.underlying27
  rw [show Tryd.prog.cellsOf 27 = 16 by kernel_rfl, show Tryd.prog.cellsOf 5 = 1 by kernel_rfl] at g2
  obtain ⟨hl16, hel⟩ := g2
  have key : ∀ i, i < 16 → ∃ z : Int, ((cs.drop 1).take 16)[i]? = some (.int .u8 z) ∧ 0 ≤ z ∧ z ≤ 255 := by
    intro i hi
    obtain ⟨z, hz, hw⟩ := (hel i hi).int Tryd.underlying5
    refine ⟨z, ?_, bounds_u8 hw⟩
    rw [Nat.mul_one] at hz
    have := congrArg (fun l => l[0]?) hz
    simpa [List.getElem?_take, List.getElem?_drop] using this
  obtain ⟨f, hf⟩ := Go.Deep.choose_lt (α := Int) key
  have hbs : (cs.drop 1).take 16 = ((List.range 16).map f).map (Value.int .u8) := by
    apply List.ext_getElem?
    intro i
    rcases Nat.lt_or_ge i 16 with h | h
    · rw [(hf i h).1]; simp [h]
    · rw [List.getElem?_eq_none (by omega), List.getElem?_eq_none (by simp; omega)]
  refine ⟨six, (List.range 16).map f, ?_, by simp, fun x hx => ?_⟩
  · have s1 : cs = (cs.drop 0).take 1 ++ (cs.drop 1).take 16 := by
      rw [List.drop_zero]
      conv => lhs; rw [← List.take_append_drop 1 cs]
      congr 1
      rw [List.take_of_length_le (l := cs.drop 1) (by rw [List.length_drop]; omega)]
    rw [s1, e3, hbs]; rfl
  · obtain ⟨i, hi, rfl⟩ := List.mem_map.1 hx
    exact (hf i (by simpa using hi)).2
set_option maxRecDepth 20000 in
theorem Arg.addr {v : Value} {d : DataW H} (h : Arg enc Tryd.prog W 29 v d) : ∃ six bs, v = .agg (addrC six bs).toArray ∧ GoodA bs := by
  obtain ⟨⟨base, hv⟩, _, _⟩ := id h
  obtain ⟨cs, rfl, hsz⟩ := okWide_struct Tryd.underlying29 hv
  obtain ⟨six, bs, he, hg⟩ := Cl.addr (h.cl : Cl enc Tryd.prog W 29 cs.toList)
  exact ⟨six, bs, by rw [← he]; simp [Value.cells], hg⟩
theorem Cl.pfx {cs : List Value} (h : Cl enc Tryd.prog W 49 cs) : ∃ p : Pfx, cs = pfxC p ∧ GoodA p.2.1 ∧ -9223372036854775808 ≤ p.2.2 ∧ p.2.2 ≤ 9223372036854775807 := by
  have hsz := (h.struct Tryd.underlying49).1
  rw [show Tryd.prog.cellsOf 49 = 18 by kernel_rfl] at hsz
  obtain ⟨six, bs, e1, hg⟩ := (h.field Tryd.underlying49 0 29 0 17 (by kernel_rfl) (by kernel_rfl)).addr
  obtain ⟨n, e2, hn⟩ := (h.field Tryd.underlying49 1 3 17 1 (by kernel_rfl) (by kernel_rfl)).i64 Tryd.underlying3
  refine ⟨(six, bs, n), ?_, hg, hn⟩
  have s1 : cs = (cs.drop 0).take 17 ++ (cs.drop 17).take 1 := by
    rw [List.drop_zero]
    conv => lhs; rw [← List.take_append_drop 17 cs]
    congr 1
    rw [List.take_of_length_le (l := cs.drop 17) (by rw [List.length_drop]; omega)]
  rw [s1, e1, e2]; rfl
set_option maxRecDepth 20000 in
theorem Arg.pfx {v : Value} {d : DataW H} (h : Arg enc Tryd.prog W 49 v d) : ∃ p : Pfx, v = .agg (pfxC p).toArray ∧ GoodA p.2.1 ∧ -9223372036854775808 ≤ p.2.2 ∧ p.2.2 ≤ 9223372036854775807 := by
  obtain ⟨⟨base, hv⟩, _, _⟩ := id h
  obtain ⟨cs, rfl, hsz⟩ := okWide_struct Tryd.underlying49 hv
  obtain ⟨p, he, hg⟩ := Cl.pfx (h.cl : Cl enc Tryd.prog W 49 cs.toList)
  exact ⟨p, by rw [← he]; simp [Value.cells], hg⟩
end
end Go.Proofs.YtjabeabbaambcaaDoor
