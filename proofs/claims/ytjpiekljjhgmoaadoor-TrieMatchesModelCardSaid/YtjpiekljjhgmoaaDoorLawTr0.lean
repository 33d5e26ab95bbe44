/- ginnellaw10's awake (printed by mk_lawtr0.py). -/
import Derived.Test.YtjpiekljjhgmoaaDoorTrFnS
import Derived.Test.YtjpiekljjhgmoaaDoorPPfx
import Derived.Test.YtjpiekljjhgmoaaDoorMD
import Derived.Test.YtjpiekljjhgmoaaDoorMB
import Derived.Test.YtjpiekljjhgmoaaDoorMA
import Derived.Deep.DeepCutAuto
namespace Go.Proofs.YtjpiekljjhgmoaaDoor
open Go.RowKit

def awP : Pfx := (false, [10, 0, 0, 0, 0, 0, 0, 0, 0, 0, 0, 0, 0, 0, 0, 0], 8)
def awQ : Pfx := (false, [10, 1, 0, 0, 0, 0, 0, 0, 0, 0, 0, 0, 0, 0, 0, 0], 16)
theorem awP_ok : OkP awP := ⟨⟨rfl, by decide⟩, by decide +kernel⟩
theorem awQ_ok : OkP awQ := ⟨⟨rfl, by decide⟩, by decide +kernel⟩
def awM : KM := mset (mset (fun _ => none) (keyP awP) (.string ⟨#[97]⟩)) (keyP awQ) (.string ⟨#[98]⟩)
theorem aw_F {F1 : List Nat} {a b c s : Nat} (h : ∀ i ∈ F1, i ∈ [a] ∨ s ≤ i) (hb : a < b) (hc : a < c) (hbs : b < s) (hcs : c < s) : ∀ i ∈ F1, a ≤ i ∧ i ≠ b ∧ i ≠ c := fun i hi => by
  rcases h i hi with h | h
  · rw [List.mem_singleton] at h; omega
  · omega
theorem awK1 : mK awM false [10, 1, 2, 3, 0, 0, 0, 0, 0, 0, 0, 0, 0, 0, 0, 0] = [(8, .string ⟨#[97]⟩)] ++ [(16, .string ⟨#[98]⟩)] := by kernel_rfl
theorem awK2 : mK awM false [10, 2, 0, 0, 0, 0, 0, 0, 0, 0, 0, 0, 0, 0, 0, 0] = [] ++ [(8, .string ⟨#[97]⟩)] := by kernel_rfl
theorem awK3 : mK awM false [10, 1, 0, 0, 0, 0, 0, 0, 0, 0, 0, 0, 0, 0, 0, 0] = [(8, .string ⟨#[97]⟩), (16, .string ⟨#[98]⟩)] := by kernel_rfl
set_option maxRecDepth 20000 in
set_option maxHeartbeats 4000000 in
theorem awake10 (w : World) : Calls Tryd.prog 15 #[] w fun e w' => e = .returned (.bool true) ∧ Ch [] w w' := by
  have HP1 : Hid (∀ w, Calls Tryd.prog 43 #[.string ⟨#[49, 48, 46, 48, 46, 48, 46, 48, 47, 56]⟩] w fun e w' => e = .returned (.tuple #[.agg #[.bool false, .int .u8 10, .int .u8 0, .int .u8 0, .int .u8 0, .int .u8 0, .int .u8 0, .int .u8 0, .int .u8 0, .int .u8 0, .int .u8 0, .int .u8 0, .int .u8 0, .int .u8 0, .int .u8 0, .int .u8 0, .int .u8 0, .int .i64 8], .bool true]) ∧ Ch [] w w') := refPPfx ⟨#[49, 48, 46, 48, 46, 48, 46, 48, 47, 56]⟩ awP (by decide) (by kernel_rfl)
  have HP2 : Hid (∀ w, Calls Tryd.prog 43 #[.string ⟨#[49, 48, 46, 49, 46, 48, 46, 48, 47, 49, 54]⟩] w fun e w' => e = .returned (.tuple #[.agg #[.bool false, .int .u8 10, .int .u8 1, .int .u8 0, .int .u8 0, .int .u8 0, .int .u8 0, .int .u8 0, .int .u8 0, .int .u8 0, .int .u8 0, .int .u8 0, .int .u8 0, .int .u8 0, .int .u8 0, .int .u8 0, .int .u8 0, .int .i64 16], .bool true]) ∧ Ch [] w w') := refPPfx ⟨#[49, 48, 46, 49, 46, 48, 46, 48, 47, 49, 54]⟩ awQ (by decide) (by kernel_rfl)
  have HI1 : Hid ((Tryd.prog.info? 33).map (·.size) = some (List.length ([.bool false, .int .u8 10, .int .u8 0, .int .u8 0, .int .u8 0, .int .u8 0, .int .u8 0, .int .u8 0, .int .u8 0, .int .u8 0, .int .u8 0, .int .u8 0, .int .u8 0, .int .u8 0, .int .u8 0, .int .u8 0, .int .u8 0, .int .i64 8] : List Value))) := pfx_inf (p := awP) rfl
  have HI2 : Hid ((Tryd.prog.info? 33).map (·.size) = some (List.length ([.bool false, .int .u8 10, .int .u8 1, .int .u8 0, .int .u8 0, .int .u8 0, .int .u8 0, .int .u8 0, .int .u8 0, .int .u8 0, .int .u8 0, .int .u8 0, .int .u8 0, .int .u8 0, .int .u8 0, .int .u8 0, .int .u8 0, .int .i64 16] : List Value))) := pfx_inf (p := awQ) rfl
  have CC := Ch.refl [] w
  have HG2 : Hid (∀ x ∈ [awP, awQ], x.2.1.length = 16) := by show ∀ x ∈ _, _; decide
  have HN : Hid (keyP awP ≠ keyP awQ) := by show _ ≠ _; decide +kernel
  have HM2 : Hid (mset (fun _ => none) (keyP awP) (.string ⟨#[97]⟩) (keyP awQ) = none) := by show _ = _; unfold mset; rw [if_neg (by decide +kernel)]
  have HIN1 : Hid (∀ {w g m n F}, TrMS w g m n F → (0 ≤ n ∧ n ≤ 1000000) → Calls Tryd.prog 44 #[.pointer (some ⟨g, 0, none⟩), .agg #[.bool false, .int .u8 10, .int .u8 0, .int .u8 0, .int .u8 0, .int .u8 0, .int .u8 0, .int .u8 0, .int .u8 0, .int .u8 0, .int .u8 0, .int .u8 0, .int .u8 0, .int .u8 0, .int .u8 0, .int .u8 0, .int .u8 0, .int .i64 8], .string ⟨#[97]⟩] w fun e w' => e = .returned (.bool true) ∧ ∃ F', TrMS w' g (mset m (keyP awP) (.string ⟨#[97]⟩)) (if m (keyP awP) = none then n + 1 else n) F' ∧ Ch F w w' ∧ ∀ b ∈ F', b ∈ F ∨ w.heap.size ≤ b) := fun h hn => trInsFS h hn awP awP_ok ⟨#[97]⟩
  have HIN2 : Hid (∀ {w g F}, TrMS w g (mset (fun _ => none) (keyP awP) (.string ⟨#[97]⟩)) 1 F → Calls Tryd.prog 44 #[.pointer (some ⟨g, 0, none⟩), .agg #[.bool false, .int .u8 10, .int .u8 1, .int .u8 0, .int .u8 0, .int .u8 0, .int .u8 0, .int .u8 0, .int .u8 0, .int .u8 0, .int .u8 0, .int .u8 0, .int .u8 0, .int .u8 0, .int .u8 0, .int .u8 0, .int .u8 0, .int .i64 16], .string ⟨#[98]⟩] w fun e w' => e = .returned (.bool true) ∧ ∃ F', TrMS w' g awM 2 F' ∧ Ch F w w' ∧ ∀ b ∈ F', b ∈ F ∨ w.heap.size ≤ b) := fun h => by
    have := trInsFS h (by omega) awQ awQ_ok ⟨#[98]⟩
    rw [if_pos HM2.out] at this
    exact this
  have HV1 : Hid (∀ w, Calls Tryd.prog 46 #[.int .u8 10, .int .u8 1, .int .u8 2, .int .u8 3] w fun e w' => e = .returned (.agg #[.bool false, .int .u8 10, .int .u8 1, .int .u8 2, .int .u8 3, .int .u8 0, .int .u8 0, .int .u8 0, .int .u8 0, .int .u8 0, .int .u8 0, .int .u8 0, .int .u8 0, .int .u8 0, .int .u8 0, .int .u8 0, .int .u8 0]) ∧ Ch [] w w') := fun w => v4R 10 1 2 3 w
  have HV2 : Hid (∀ w, Calls Tryd.prog 46 #[.int .u8 10, .int .u8 2, .int .u8 0, .int .u8 0] w fun e w' => e = .returned (.agg #[.bool false, .int .u8 10, .int .u8 2, .int .u8 0, .int .u8 0, .int .u8 0, .int .u8 0, .int .u8 0, .int .u8 0, .int .u8 0, .int .u8 0, .int .u8 0, .int .u8 0, .int .u8 0, .int .u8 0, .int .u8 0, .int .u8 0]) ∧ Ch [] w w') := fun w => v4R 10 2 0 0 w
  have HV3 : Hid (∀ w, Calls Tryd.prog 46 #[.int .u8 10, .int .u8 1, .int .u8 0, .int .u8 0] w fun e w' => e = .returned (.agg #[.bool false, .int .u8 10, .int .u8 1, .int .u8 0, .int .u8 0, .int .u8 0, .int .u8 0, .int .u8 0, .int .u8 0, .int .u8 0, .int .u8 0, .int .u8 0, .int .u8 0, .int .u8 0, .int .u8 0, .int .u8 0, .int .u8 0]) ∧ Ch [] w w') := fun w => v4R 10 1 0 0 w
  have HL1 : Hid (∀ {w g n F}, TrMS w g awM n F → Calls Tryd.prog 45 #[.pointer (some ⟨g, 0, none⟩), .agg #[.bool false, .int .u8 10, .int .u8 1, .int .u8 2, .int .u8 3, .int .u8 0, .int .u8 0, .int .u8 0, .int .u8 0, .int .u8 0, .int .u8 0, .int .u8 0, .int .u8 0, .int .u8 0, .int .u8 0, .int .u8 0, .int .u8 0]] w fun e w' => e = .returned (.tuple #[.agg #[.bool false, .int .u8 10, .int .u8 1, .int .u8 0, .int .u8 0, .int .u8 0, .int .u8 0, .int .u8 0, .int .u8 0, .int .u8 0, .int .u8 0, .int .u8 0, .int .u8 0, .int .u8 0, .int .u8 0, .int .u8 0, .int .u8 0, .int .i64 16], .string ⟨#[98]⟩, .bool true]) ∧ Ch [] w w') := fun h => by
    have := trLookSS h (six := false) (bs := [10, 1, 2, 3, 0, 0, 0, 0, 0, 0, 0, 0, 0, 0, 0, 0]) ⟨rfl, by decide⟩ awK1
    rw [show (pfxC (kPfx false [10, 1, 2, 3, 0, 0, 0, 0, 0, 0, 0, 0, 0, 0, 0, 0] (16, .string ⟨#[98]⟩))).toArray = #[.bool false, .int .u8 10, .int .u8 1, .int .u8 0, .int .u8 0, .int .u8 0, .int .u8 0, .int .u8 0, .int .u8 0, .int .u8 0, .int .u8 0, .int .u8 0, .int .u8 0, .int .u8 0, .int .u8 0, .int .u8 0, .int .u8 0, .int .i64 16] by kernel_rfl] at this
    exact this
  have HL2 : Hid (∀ {w g n F}, TrMS w g awM n F → Calls Tryd.prog 45 #[.pointer (some ⟨g, 0, none⟩), .agg #[.bool false, .int .u8 10, .int .u8 2, .int .u8 0, .int .u8 0, .int .u8 0, .int .u8 0, .int .u8 0, .int .u8 0, .int .u8 0, .int .u8 0, .int .u8 0, .int .u8 0, .int .u8 0, .int .u8 0, .int .u8 0, .int .u8 0]] w fun e w' => e = .returned (.tuple #[.agg #[.bool false, .int .u8 10, .int .u8 0, .int .u8 0, .int .u8 0, .int .u8 0, .int .u8 0, .int .u8 0, .int .u8 0, .int .u8 0, .int .u8 0, .int .u8 0, .int .u8 0, .int .u8 0, .int .u8 0, .int .u8 0, .int .u8 0, .int .i64 8], .string ⟨#[97]⟩, .bool true]) ∧ Ch [] w w') := fun h => by
    have := trLookSS h (six := false) (bs := [10, 2, 0, 0, 0, 0, 0, 0, 0, 0, 0, 0, 0, 0, 0, 0]) ⟨rfl, by decide⟩ awK2
    rw [show (pfxC (kPfx false [10, 2, 0, 0, 0, 0, 0, 0, 0, 0, 0, 0, 0, 0, 0, 0] (8, .string ⟨#[97]⟩))).toArray = #[.bool false, .int .u8 10, .int .u8 0, .int .u8 0, .int .u8 0, .int .u8 0, .int .u8 0, .int .u8 0, .int .u8 0, .int .u8 0, .int .u8 0, .int .u8 0, .int .u8 0, .int .u8 0, .int .u8 0, .int .u8 0, .int .u8 0, .int .i64 8] by kernel_rfl] at this
    exact this
  have HMT : Hid (∀ {w g n F}, TrMS w g awM n F → Calls Tryd.prog 48 #[.pointer (some ⟨g, 0, none⟩), .agg #[.bool false, .int .u8 10, .int .u8 1, .int .u8 0, .int .u8 0, .int .u8 0, .int .u8 0, .int .u8 0, .int .u8 0, .int .u8 0, .int .u8 0, .int .u8 0, .int .u8 0, .int .u8 0, .int .u8 0, .int .u8 0, .int .u8 0]] w fun e w' => ∃ A c, e = .returned (.slice A 2 c) ∧ Own w' w.heap.size 33 18 A 2 c ([awP, awQ].flatMap pfxC) ∧ Ch [] w w') := fun h => by
    have := trMtsFS h (six := false) (bs := [10, 1, 0, 0, 0, 0, 0, 0, 0, 0, 0, 0, 0, 0, 0, 0]) ⟨rfl, by decide⟩ awK3
    rw [show ([(8, Value.string ⟨#[97]⟩), (16, Value.string ⟨#[98]⟩)].flatMap fun e => pfxC (kPfx false [10, 1, 0, 0, 0, 0, 0, 0, 0, 0, 0, 0, 0, 0, 0, 0] e)) = [awP, awQ].flatMap pfxC by kernel_rfl] at this
    exact this
  have hq1 : ∀ w, (Op.equalIn 10000 33 (.agg #[.bool false, .int .u8 10, .int .u8 0, .int .u8 0, .int .u8 0, .int .u8 0, .int .u8 0, .int .u8 0, .int .u8 0, .int .u8 0, .int .u8 0, .int .u8 0, .int .u8 0, .int .u8 0, .int .u8 0, .int .u8 0, .int .u8 0, .int .i64 8]) (.agg #[.bool false, .int .u8 10, .int .u8 0, .int .u8 0, .int .u8 0, .int .u8 0, .int .u8 0, .int .u8 0, .int .u8 0, .int .u8 0, .int .u8 0, .int .u8 0, .int .u8 0, .int .u8 0, .int .u8 0, .int .u8 0, .int .u8 0, .int .i64 8])).run Tryd.prog w = .ok true w := fun w => by
    have := pfx_eqD awP awP rfl rfl w
    simp only [decide_true] at this
    exact this
  have hq2 : ∀ w, (Op.equalIn 10000 33 (.agg #[.bool false, .int .u8 10, .int .u8 1, .int .u8 0, .int .u8 0, .int .u8 0, .int .u8 0, .int .u8 0, .int .u8 0, .int .u8 0, .int .u8 0, .int .u8 0, .int .u8 0, .int .u8 0, .int .u8 0, .int .u8 0, .int .u8 0, .int .i64 16]) (.agg #[.bool false, .int .u8 10, .int .u8 1, .int .u8 0, .int .u8 0, .int .u8 0, .int .u8 0, .int .u8 0, .int .u8 0, .int .u8 0, .int .u8 0, .int .u8 0, .int .u8 0, .int .u8 0, .int .u8 0, .int .u8 0, .int .u8 0, .int .i64 16])).run Tryd.prog w = .ok true w := fun w => by
    have := pfx_eqD awQ awQ rfl rfl w
    simp only [decide_true] at this
    exact this
  go_enter Tryd.func15, Tryd.ntmps15
  go_upto_region 4 with (first
    | (go_at_call 42; (with_reducible refine (trNewFS _).mono ?_); rintro e w1 ⟨rfl, P0, C1⟩; replace CC := CC.trans C1; have hp1 := P0.lt _ (List.mem_singleton_self _))
    | (go_at_call 43; (with_reducible refine (HP1.out _).mono ?_); rintro e w2 ⟨rfl, C2⟩; replace CC := CC.trans C2; replace P0 := P0.nil C2; have sz2 := C2.size)
    | (go_at_call 43; (with_reducible refine (HP2.out _).mono ?_); rintro e w4 ⟨rfl, C4⟩; replace CC := CC.trans C4; replace P0 := P0.nil C4; replace B2 := B2.ch C4 (by simp); have sz4 := C4.size)
    | (refine wpList_storeB rfl 33 _ _ rfl w2.heap.size 33 (pfxC (false, zeros, 0)) [.bool false, .int .u8 10, .int .u8 0, .int .u8 0, .int .u8 0, .int .u8 0, .int .u8 0, .int .u8 0, .int .u8 0, .int .u8 0, .int .u8 0, .int .u8 0, .int .u8 0, .int .u8 0, .int .u8 0, .int .u8 0, .int .u8 0, .int .i64 8] rfl rfl (Blk.new _ _ _) HI1.out rfl (pfx_one awP) ?_; intro w3 B2 C3 Z3; replace C3 := ((Ch.refl [] w2).alloc _).step C3 (fun i hi => .inr (by simp at hi; omega)); replace P0 := P0.nil C3; replace CC := CC.trans C3; have lt3 := B2.lt)
    | (refine wpList_storeB rfl 33 _ _ rfl w4.heap.size 33 (pfxC (false, zeros, 0)) [.bool false, .int .u8 10, .int .u8 1, .int .u8 0, .int .u8 0, .int .u8 0, .int .u8 0, .int .u8 0, .int .u8 0, .int .u8 0, .int .u8 0, .int .u8 0, .int .u8 0, .int .u8 0, .int .u8 0, .int .u8 0, .int .u8 0, .int .i64 16] rfl rfl (Blk.new _ _ _) HI2.out rfl (pfx_one awQ) ?_; intro w5 B4 C5 Z5; replace C5 := ((Ch.refl [] w4).alloc _).step C5 (fun i hi => .inr (by simp at hi; omega)); replace P0 := P0.nil C5; replace B2 := B2.ch C5 (by simp); replace CC := CC.trans C5))
  have hz5 := B2.lt
  have hz6 := B4.lt
  have hz7 : w2.heap.size < w4.heap.size := by omega
  have hz8 : w.heap.size < w2.heap.size := by omega
  have hz9 : w.heap.size < w4.heap.size := by omega
  clear C1 C2 C3 C4 C5 Z3 Z5 HP1 HP2
  go_upto_region 8 with (first
    | (refine wpList_load_want rfl 33 _ rfl w2.heap.size 0 rfl [.bool false, .int .u8 10, .int .u8 0, .int .u8 0, .int .u8 0, .int .u8 0, .int .u8 0, .int .u8 0, .int .u8 0, .int .u8 0, .int .u8 0, .int .u8 0, .int .u8 0, .int .u8 0, .int .u8 0, .int .u8 0, .int .u8 0, .int .i64 8] _ B2.range Tryd.underlying33 rfl HI1.out ?_)
    | (refine wpList_load_want rfl 33 _ rfl w4.heap.size 0 rfl [.bool false, .int .u8 10, .int .u8 1, .int .u8 0, .int .u8 0, .int .u8 0, .int .u8 0, .int .u8 0, .int .u8 0, .int .u8 0, .int .u8 0, .int .u8 0, .int .u8 0, .int .u8 0, .int .u8 0, .int .u8 0, .int .u8 0, .int .i64 16] _ B4.range Tryd.underlying33 rfl HI2.out ?_)
    | (go_at_call 44; (with_reducible refine (HIN1.out P0 (by omega)).mono ?_); rintro e w6 ⟨rfl, F1, Q1, C6, hF1⟩; replace CC := CC.step C6 (fun i hi => .inr (Nat.le_of_eq (List.mem_singleton.1 hi).symm)); replace B2 := B2.ch C6 (fun h => by (rw [List.mem_singleton] at h; omega)); replace B4 := B4.ch C6 (fun h => by (rw [List.mem_singleton] at h; omega)); replace Q1 : TrMS w6 w.heap.size (mset (fun _ => none) (keyP awP) (.string ⟨#[97]⟩)) 1 F1 := Q1; have FF1 := aw_F hF1 hz8 hz9 hz5 hz6)
    | (go_at_call 44; (with_reducible refine (HIN2.out Q1).mono ?_); rintro e w7 ⟨rfl, F2, Q2, C7, hF2⟩; replace CC := CC.step C7 (fun i hi => .inr (FF1 i hi).1); replace B2 := B2.ch C7 (fun h => (FF1 _ h).2.1 rfl); replace B4 := B4.ch C7 (fun h => (FF1 _ h).2.2 rfl); have sz7 := C7.size)
    | (go_at_call 46; (with_reducible refine (HV1.out _).mono ?_); rintro e w8 ⟨rfl, C8⟩; replace CC := CC.trans C8; replace Q2 := Q2.nil C8; replace B2 := B2.ch C8 (by simp); replace B4 := B4.ch C8 (by simp))
    | (go_at_call 45; (with_reducible refine (HL1.out Q2).mono ?_); rintro e w9 ⟨rfl, C9⟩; replace CC := CC.trans C9; replace Q2 := Q2.nil C9; replace B2 := B2.ch C9 (by simp); replace B4 := B4.ch C9 (by simp))
    | (refine wpList_storeB rfl 33 _ _ rfl w9.heap.size 33 (pfxC (false, zeros, 0)) [.bool false, .int .u8 10, .int .u8 1, .int .u8 0, .int .u8 0, .int .u8 0, .int .u8 0, .int .u8 0, .int .u8 0, .int .u8 0, .int .u8 0, .int .u8 0, .int .u8 0, .int .u8 0, .int .u8 0, .int .u8 0, .int .u8 0, .int .i64 16] rfl rfl (Blk.new _ _ _) HI2.out rfl (pfx_one awQ) ?_; intro w10 B6 C10 Z10; replace C10 := ((Ch.refl [] w9).alloc _).step C10 (fun i hi => .inr (by simp at hi; omega)); replace Q2 := Q2.nil C10; replace B2 := B2.ch C10 (by simp); replace B4 := B4.ch C10 (by simp); replace CC := CC.trans C10)
    | (go_at_call 46; (with_reducible refine (HV2.out _).mono ?_); rintro e w11 ⟨rfl, C11⟩; replace CC := CC.trans C11; replace Q2 := Q2.nil C11; replace B2 := B2.ch C11 (by simp); replace B4 := B4.ch C11 (by simp); replace B6 := B6.ch C11 (by simp))
    | (go_at_call 45; (with_reducible refine (HL2.out Q2).mono ?_); rintro e w12 ⟨rfl, C12⟩; replace CC := CC.trans C12; replace Q2 := Q2.nil C12; replace B2 := B2.ch C12 (by simp); replace B4 := B4.ch C12 (by simp); replace B6 := B6.ch C12 (by simp))
    | (refine wpList_storeB rfl 33 _ _ rfl w12.heap.size 33 (pfxC (false, zeros, 0)) [.bool false, .int .u8 10, .int .u8 0, .int .u8 0, .int .u8 0, .int .u8 0, .int .u8 0, .int .u8 0, .int .u8 0, .int .u8 0, .int .u8 0, .int .u8 0, .int .u8 0, .int .u8 0, .int .u8 0, .int .u8 0, .int .u8 0, .int .i64 8] rfl rfl (Blk.new _ _ _) HI1.out rfl (pfx_one awP) ?_; intro w13 B9 C13 Z13; replace C13 := ((Ch.refl [] w12).alloc _).step C13 (fun i hi => .inr (by simp at hi; omega)); replace Q2 := Q2.nil C13; replace B2 := B2.ch C13 (by simp); replace B4 := B4.ch C13 (by simp); replace B6 := B6.ch C13 (by simp); replace CC := CC.trans C13))
  clear P0 Q1 Z10 Z13
  try simp only [List.append]
  refine wp_region_tree [⟨0, 64, 562949953421312⟩, ⟨0, 16, 1125899906842624⟩, ⟨3, 1688849860263936, 2251799813685248⟩, ⟨4, 2251799813685248, 4503599627370496⟩, ⟨8, 4503599627370624, 9007199254740992⟩, ⟨24, 13510798882111488, 18014398509481984⟩, ⟨40, 22517998136852480, 36028797018963968⟩, ⟨72, 36028797018963968, 72057594037927936⟩, ⟨128, 72057594037928192, 144115188075855872⟩, ⟨384, 216172782113783808, 288230376151711744⟩, ⟨640, 288230376151711744, 576460752303423488⟩, ⟨1024, 576460752303424000, 1152921504606846976⟩, ⟨1024, 576460752303423492, 2305843009213693952⟩, ⟨7168, 4035225266123964416, 4611686018427387904⟩, ⟨9216, 5188146770730811392, 9223372036854775808⟩, ⟨17408, 9223372036854775808, 18446744073709551616⟩, ⟨32768, 18446744073709552640, 36893488147419103232⟩, ⟨98304, 55340232221128654848, 73786976294838206464⟩, ⟨163840, 92233720368547758080, 147573952589676412928⟩, ⟨294912, 147573952589676412928, 295147905179352825856⟩, ⟨524288, 295147905179352827904, 590295810358705651712⟩, ⟨1572864, 885443715538058477568, 1180591620717411303424⟩, ⟨2621440, 1180591620717411303424, 2361183241434822606848⟩, ⟨4194304, 2361183241434822606850, 4722366482869645213696⟩, ⟨12582912, 7083549724304467820544, 9444732965739290427392⟩, ⟨20971520, 11805916207174113034240, 18889465931478580854784⟩, ⟨37748736, 21250649172913403461632, 37778931862957161709568⟩, ⟨83886080, 37778931862957161709568, 75557863725914323419136⟩, ⟨134217728, 75557863725914323419138, 151115727451828646838272⟩, ⟨134217728, 75557863725914323419136, 302231454903657293676544⟩, ⟨939524096, 528905046081400263933952, 604462909807314587353088⟩, ⟨134217728, 75557863725914323419140, 1208925819614629174706176⟩, ⟨134217728, 75557863725914323419152, 2417851639229258349412352⟩, ⟨6576668672, 3702335322569801847537664, 4835703278458516698824704⟩, ⟨9797894144, 5515724051991745609596928, 9671406556917033397649408⟩, ⟨17314086912, 9746964420642947721068544, 19342813113834066795298816⟩, ⟨68719476735, 19342813113834066795298816, 1⟩] [(29, [28, 31, 32]), (30, [31, 32]), (33, [28]), (34, [])] (.two [0, 1, 2, 3, 4, 5, 6, 7, 8, 9, 10, 11, 12, 13, 14, 15, 16, 17, 18, 19, 20, 21, 22, 23, 24, 25, 26, 27, 28, 31, 32] 29 [28, 31, 32] (.two [] 30 [31, 32] (.one [] 33 [28] (.one [] 34 [] (.last [35, 36]))) 33 [28] (.one [] 30 [31, 32] (.one [] 34 [] (.last [35, 36])))) 33 [28] (.one [] 29 [28, 31, 32] (.one [] 30 [31, 32] (.one [] 34 [] (.last [35, 36]))))) (by kernel_rfl) (by kernel_rfl) ?_
  refine wpTree_two ?_
  try simp only [pick, List.map_cons, List.map_nil, List.getD_cons_zero, List.getD_cons_succ]
  repeat (first
    | (refine wpQuiet_row rfl 33 _ rfl w2.heap.size 0 rfl [.bool false, .int .u8 10, .int .u8 0, .int .u8 0, .int .u8 0, .int .u8 0, .int .u8 0, .int .u8 0, .int .u8 0, .int .u8 0, .int .u8 0, .int .u8 0, .int .u8 0, .int .u8 0, .int .u8 0, .int .u8 0, .int .u8 0, .int .i64 8] _ (fun w' ⟨q, hq⟩ => hq ▸ (B2.drewN q).range) Tryd.underlying33 rfl HI1.out ?_; simp only [Act.put, List.setIfInBounds_toArray, List.set_cons_succ, List.set_cons_zero])
    | (refine wpQuiet_row rfl 33 _ rfl w4.heap.size 0 rfl [.bool false, .int .u8 10, .int .u8 1, .int .u8 0, .int .u8 0, .int .u8 0, .int .u8 0, .int .u8 0, .int .u8 0, .int .u8 0, .int .u8 0, .int .u8 0, .int .u8 0, .int .u8 0, .int .u8 0, .int .u8 0, .int .u8 0, .int .i64 16] _ (fun w' ⟨q, hq⟩ => hq ▸ (B4.drewN q).range) Tryd.underlying33 rfl HI2.out ?_; simp only [Act.put, List.setIfInBounds_toArray, List.set_cons_succ, List.set_cons_zero])
    | (refine wpQuiet_row rfl 33 _ rfl w9.heap.size 0 rfl [.bool false, .int .u8 10, .int .u8 1, .int .u8 0, .int .u8 0, .int .u8 0, .int .u8 0, .int .u8 0, .int .u8 0, .int .u8 0, .int .u8 0, .int .u8 0, .int .u8 0, .int .u8 0, .int .u8 0, .int .u8 0, .int .u8 0, .int .i64 16] _ (fun w' ⟨q, hq⟩ => hq ▸ (B6.drewN q).range) Tryd.underlying33 rfl HI2.out ?_; simp only [Act.put, List.setIfInBounds_toArray, List.set_cons_succ, List.set_cons_zero])
    | (refine wpQuiet_row rfl 33 _ rfl w12.heap.size 0 rfl [.bool false, .int .u8 10, .int .u8 0, .int .u8 0, .int .u8 0, .int .u8 0, .int .u8 0, .int .u8 0, .int .u8 0, .int .u8 0, .int .u8 0, .int .u8 0, .int .u8 0, .int .u8 0, .int .u8 0, .int .u8 0, .int .u8 0, .int .i64 8] _ (fun w' ⟨q, hq⟩ => hq ▸ (B9.drewN q).range) Tryd.underlying33 rfl HI1.out ?_; simp only [Act.put, List.setIfInBounds_toArray, List.set_cons_succ, List.set_cons_zero])
    | go_big_quiet_step (first
      | (go_at_call 47; exact quiet_eq (trLenFS (Q2.drewN _)))))
  refine wpQuiet_nil ?_
  refine ⟨?_, ?_⟩
  · skip
    intro n1
    try simp only [pick, List.map_cons, List.map_nil, List.getD_cons_zero, List.getD_cons_succ]
    go_wp2_with (go_at_call 46; (with_reducible refine (HV3.out _).mono ?_); rintro e x1 ⟨rfl, D1⟩)
    have E1 := ((Ch.refl [] w13).drewN n1).trans D1
    replace Q2 := Q2.nil E1
    replace B2 := B2.ch E1 (by simp)
    replace B4 := B4.ch E1 (by simp)
    replace CC := CC.trans E1
    refine stagePost_mk ?_ ?_
    · intro o ho
      simp only [pick, List.map_cons, List.map_nil, List.getD_cons_zero, List.getD_cons_succ, List.mem_cons, List.not_mem_nil, or_false] at ho
      rcases ho with rfl | rfl | rfl
      all_goals
        refine float_any ?_
        repeat (first
          | (refine wpQuiet_row rfl 33 _ rfl w2.heap.size 0 rfl [.bool false, .int .u8 10, .int .u8 0, .int .u8 0, .int .u8 0, .int .u8 0, .int .u8 0, .int .u8 0, .int .u8 0, .int .u8 0, .int .u8 0, .int .u8 0, .int .u8 0, .int .u8 0, .int .u8 0, .int .u8 0, .int .u8 0, .int .i64 8] _ (fun w' ⟨q, hq⟩ => hq ▸ (B2.drewN q).range) Tryd.underlying33 rfl HI1.out ?_; simp only [Act.put, List.setIfInBounds_toArray, List.set_cons_succ, List.set_cons_zero])
          | (refine wpQuiet_row rfl 33 _ rfl w4.heap.size 0 rfl [.bool false, .int .u8 10, .int .u8 1, .int .u8 0, .int .u8 0, .int .u8 0, .int .u8 0, .int .u8 0, .int .u8 0, .int .u8 0, .int .u8 0, .int .u8 0, .int .u8 0, .int .u8 0, .int .u8 0, .int .u8 0, .int .u8 0, .int .i64 16] _ (fun w' ⟨q, hq⟩ => hq ▸ (B4.drewN q).range) Tryd.underlying33 rfl HI2.out ?_; simp only [Act.put, List.setIfInBounds_toArray, List.set_cons_succ, List.set_cons_zero])
          | go_big_quiet_step (first
            | (go_at_call 47; exact quiet_eq (trLenFS (Q2.drewN _)))))
        refine wpQuiet_nil ?_
        rfl
    refine wpTree_two ?_
    try simp only [pick, List.map_nil]
    repeat (first
      | go_big_quiet_step (first
        | (go_at_call 47; exact quiet_eq (trLenFS (Q2.drewN _)))))
    refine wpQuiet_nil ?_
    refine ⟨?_, ?_⟩
    · skip
      intro n2
      try simp only [pick, List.map_cons, List.map_nil, List.getD_cons_zero, List.getD_cons_succ]
      go_wp2_with (go_at_call 48; (with_reducible refine (HMT.out (Q2.drewN n2)).mono ?_); rintro e x2 ⟨Am, cm, rfl, ownm, D2⟩)
      have E2 := ((Ch.refl [] x1).drewN n2).trans D2
      replace Q2 := Q2.nil E2
      replace B2 := B2.ch E2 (by simp)
      replace B4 := B4.ch E2 (by simp)
      replace CC := CC.trans E2
      refine stagePost_mk ?_ ?_
      · intro o ho
        simp only [pick, List.map_cons, List.map_nil, List.getD_cons_zero, List.getD_cons_succ, List.mem_cons, List.not_mem_nil, or_false] at ho
        rcases ho with rfl | rfl
        all_goals
          refine float_any ?_
          repeat (first
            | (refine wpQuiet_row rfl 33 _ rfl w2.heap.size 0 rfl [.bool false, .int .u8 10, .int .u8 0, .int .u8 0, .int .u8 0, .int .u8 0, .int .u8 0, .int .u8 0, .int .u8 0, .int .u8 0, .int .u8 0, .int .u8 0, .int .u8 0, .int .u8 0, .int .u8 0, .int .u8 0, .int .u8 0, .int .i64 8] _ (fun w' ⟨q, hq⟩ => hq ▸ (B2.drewN q).range) Tryd.underlying33 rfl HI1.out ?_; simp only [Act.put, List.setIfInBounds_toArray, List.set_cons_succ, List.set_cons_zero])
            | (refine wpQuiet_row rfl 33 _ rfl w4.heap.size 0 rfl [.bool false, .int .u8 10, .int .u8 1, .int .u8 0, .int .u8 0, .int .u8 0, .int .u8 0, .int .u8 0, .int .u8 0, .int .u8 0, .int .u8 0, .int .u8 0, .int .u8 0, .int .u8 0, .int .u8 0, .int .u8 0, .int .u8 0, .int .i64 16] _ (fun w' ⟨q, hq⟩ => hq ▸ (B4.drewN q).range) Tryd.underlying33 rfl HI2.out ?_; simp only [Act.put, List.setIfInBounds_toArray, List.set_cons_succ, List.set_cons_zero])
            | go_big_quiet_step (first
              | (go_at_call 47; exact quiet_eq (trLenFS (Q2.drewN _)))))
          refine wpQuiet_nil ?_
          rfl
      refine wpTree_one ?_
      try simp only [pick, List.map_nil]
      repeat (first
        | go_big_quiet_step (first
          | (go_at_call 47; exact quiet_eq (trLenFS (Q2.drewN _)))))
      refine wpQuiet_nil ?_
      intro n4
      try simp only [pick, List.map_cons, List.map_nil, List.getD_cons_zero, List.getD_cons_succ]
      go_wp2_with fail
      have E4 : Ch [] x2 ((x2.drewN n4).alloc (.cells #[.bool false, .int .u8 10, .int .u8 0, .int .u8 0, .int .u8 0, .int .u8 0, .int .u8 0, .int .u8 0, .int .u8 0, .int .u8 0, .int .u8 0, .int .u8 0, .int .u8 0, .int .u8 0, .int .u8 0, .int .u8 0, .int .u8 0, .int .i64 8, .bool false, .int .u8 10, .int .u8 1, .int .u8 0, .int .u8 0, .int .u8 0, .int .u8 0, .int .u8 0, .int .u8 0, .int .u8 0, .int .u8 0, .int .u8 0, .int .u8 0, .int .u8 0, .int .u8 0, .int .u8 0, .int .u8 0, .int .i64 16] 33)) := ((Ch.refl [] x2).drewN n4).alloc _
      have rdB : Rd ((x2.drewN n4).alloc (.cells #[.bool false, .int .u8 10, .int .u8 0, .int .u8 0, .int .u8 0, .int .u8 0, .int .u8 0, .int .u8 0, .int .u8 0, .int .u8 0, .int .u8 0, .int .u8 0, .int .u8 0, .int .u8 0, .int .u8 0, .int .u8 0, .int .u8 0, .int .i64 8, .bool false, .int .u8 10, .int .u8 1, .int .u8 0, .int .u8 0, .int .u8 0, .int .u8 0, .int .u8 0, .int .u8 0, .int .u8 0, .int .u8 0, .int .u8 0, .int .u8 0, .int .u8 0, .int .u8 0, .int .u8 0, .int .u8 0, .int .i64 16] 33)) (x2.heap.size + 1) 18 (some ⟨x2.heap.size, 0, none⟩) 2 ([awP, awQ].flatMap pfxC) := Rd.new (x2.drewN n4) 18 ([awP, awQ].flatMap pfxC) 2 rfl 33
      have szB : x2.heap.size + 1 ≤ ((x2.drewN n4).alloc (.cells #[.bool false, .int .u8 10, .int .u8 0, .int .u8 0, .int .u8 0, .int .u8 0, .int .u8 0, .int .u8 0, .int .u8 0, .int .u8 0, .int .u8 0, .int .u8 0, .int .u8 0, .int .u8 0, .int .u8 0, .int .u8 0, .int .u8 0, .int .i64 8, .bool false, .int .u8 10, .int .u8 1, .int .u8 0, .int .u8 0, .int .u8 0, .int .u8 0, .int .u8 0, .int .u8 0, .int .u8 0, .int .u8 0, .int .u8 0, .int .u8 0, .int .u8 0, .int .u8 0, .int .u8 0, .int .u8 0, .int .i64 16] 33)).heap.size := by rw [World.size_alloc]; exact Nat.le_refl _
      replace Q2 := Q2.nil E4
      replace B2 := B2.ch E4 (by simp)
      replace B4 := B4.ch E4 (by simp)
      replace CC := CC.trans E4
      replace ownm := ownm.ch E4 (by simp)
      refine stagePost_mk ?_ ?_
      · intro o ho
        simp only [pick, List.map_cons, List.map_nil, List.getD_cons_zero, List.getD_cons_succ, List.mem_cons, List.not_mem_nil, or_false] at ho
        rcases ho with rfl
        all_goals
          refine float_any ?_
          repeat (first
            | (refine wpQuiet_row rfl 33 _ rfl w2.heap.size 0 rfl [.bool false, .int .u8 10, .int .u8 0, .int .u8 0, .int .u8 0, .int .u8 0, .int .u8 0, .int .u8 0, .int .u8 0, .int .u8 0, .int .u8 0, .int .u8 0, .int .u8 0, .int .u8 0, .int .u8 0, .int .u8 0, .int .u8 0, .int .i64 8] _ (fun w' ⟨q, hq⟩ => hq ▸ (B2.drewN q).range) Tryd.underlying33 rfl HI1.out ?_; simp only [Act.put, List.setIfInBounds_toArray, List.set_cons_succ, List.set_cons_zero])
            | (refine wpQuiet_row rfl 33 _ rfl w4.heap.size 0 rfl [.bool false, .int .u8 10, .int .u8 1, .int .u8 0, .int .u8 0, .int .u8 0, .int .u8 0, .int .u8 0, .int .u8 0, .int .u8 0, .int .u8 0, .int .u8 0, .int .u8 0, .int .u8 0, .int .u8 0, .int .u8 0, .int .u8 0, .int .i64 16] _ (fun w' ⟨q, hq⟩ => hq ▸ (B4.drewN q).range) Tryd.underlying33 rfl HI2.out ?_; simp only [Act.put, List.setIfInBounds_toArray, List.set_cons_succ, List.set_cons_zero])
            | go_big_quiet_step (first
              | (go_at_call 47; exact quiet_eq (trLenFS (Q2.drewN _)))))
          refine wpQuiet_nil ?_
          rfl
      refine wpTree_one ?_
      try simp only [pick, List.map_nil]
      repeat (first
        | go_big_quiet_step (first
          | (go_at_call 47; exact quiet_eq (trLenFS (Q2.drewN _)))))
      refine wpQuiet_nil ?_
      intro n5
      try simp only [pick, List.map_cons, List.map_nil, List.getD_cons_zero, List.getD_cons_succ]
      have rdM : Rd (((x2.drewN n4).alloc (.cells #[.bool false, .int .u8 10, .int .u8 0, .int .u8 0, .int .u8 0, .int .u8 0, .int .u8 0, .int .u8 0, .int .u8 0, .int .u8 0, .int .u8 0, .int .u8 0, .int .u8 0, .int .u8 0, .int .u8 0, .int .u8 0, .int .u8 0, .int .i64 8, .bool false, .int .u8 10, .int .u8 1, .int .u8 0, .int .u8 0, .int .u8 0, .int .u8 0, .int .u8 0, .int .u8 0, .int .u8 0, .int .u8 0, .int .u8 0, .int .u8 0, .int .u8 0, .int .u8 0, .int .u8 0, .int .u8 0, .int .i64 16] 33)).drewN n5) (((x2.drewN n4).alloc (.cells #[.bool false, .int .u8 10, .int .u8 0, .int .u8 0, .int .u8 0, .int .u8 0, .int .u8 0, .int .u8 0, .int .u8 0, .int .u8 0, .int .u8 0, .int .u8 0, .int .u8 0, .int .u8 0, .int .u8 0, .int .u8 0, .int .u8 0, .int .i64 8, .bool false, .int .u8 10, .int .u8 1, .int .u8 0, .int .u8 0, .int .u8 0, .int .u8 0, .int .u8 0, .int .u8 0, .int .u8 0, .int .u8 0, .int .u8 0, .int .u8 0, .int .u8 0, .int .u8 0, .int .u8 0, .int .u8 0, .int .i64 16] 33)).drewN n5).heap.size 18 Am 2 ([awP, awQ].flatMap pfxC) := (ownm.drewN n5).rd
      have rdB' := rdB.drewN n5
      have szB' : _ ≤ (((x2.drewN n4).alloc (.cells #[.bool false, .int .u8 10, .int .u8 0, .int .u8 0, .int .u8 0, .int .u8 0, .int .u8 0, .int .u8 0, .int .u8 0, .int .u8 0, .int .u8 0, .int .u8 0, .int .u8 0, .int .u8 0, .int .u8 0, .int .u8 0, .int .u8 0, .int .i64 8, .bool false, .int .u8 10, .int .u8 1, .int .u8 0, .int .u8 0, .int .u8 0, .int .u8 0, .int .u8 0, .int .u8 0, .int .u8 0, .int .u8 0, .int .u8 0, .int .u8 0, .int .u8 0, .int .u8 0, .int .u8 0, .int .u8 0, .int .i64 16] 33)).drewN n5).heap.size := szB
      go_wp2_with (go_at_call 21; (with_reducible refine (eqEqP _ _ _ _ _ _ _ _ [awP, awQ] rdM rdB' (Nat.le_refl _) szB' (by omega) HG2.out).mono ?_); rintro e x5 ⟨rfl, D5⟩)
      have E5 := ((Ch.refl [] ((x2.drewN n4).alloc (.cells #[.bool false, .int .u8 10, .int .u8 0, .int .u8 0, .int .u8 0, .int .u8 0, .int .u8 0, .int .u8 0, .int .u8 0, .int .u8 0, .int .u8 0, .int .u8 0, .int .u8 0, .int .u8 0, .int .u8 0, .int .u8 0, .int .u8 0, .int .i64 8, .bool false, .int .u8 10, .int .u8 1, .int .u8 0, .int .u8 0, .int .u8 0, .int .u8 0, .int .u8 0, .int .u8 0, .int .u8 0, .int .u8 0, .int .u8 0, .int .u8 0, .int .u8 0, .int .u8 0, .int .u8 0, .int .u8 0, .int .i64 16] 33))).drewN n5).trans D5
      replace Q2 := Q2.nil E5
      replace B2 := B2.ch E5 (by simp)
      replace B4 := B4.ch E5 (by simp)
      replace CC := CC.trans E5
      replace ownm := ownm.ch E5 (by simp)
      replace rdB := rdB.ch E5 szB (by simp)
      replace szB := Nat.le_trans szB E5.size
      refine stagePost_mk (by simp [pick]) ?_
      refine wpTree_last ?_
      try simp only [pick, List.map_cons, List.map_nil, List.getD_cons_zero, List.getD_cons_succ]
      repeat (first
        | go_big_quiet_step (first
          | (go_at_call 47; exact quiet_eq (trLenFS (Q2.drewN _)))))
      refine wpQuiet_nil ?_
      intro nz
      go_wp2_with fail
      go_ret
      exact ⟨rfl, CC.drewN nz⟩
    · skip
      intro n3
      try simp only [pick, List.map_cons, List.map_nil, List.getD_cons_zero, List.getD_cons_succ]
      go_wp2_with fail
      have E3 : Ch [] x1 ((x1.drewN n3).alloc (.cells #[.bool false, .int .u8 10, .int .u8 0, .int .u8 0, .int .u8 0, .int .u8 0, .int .u8 0, .int .u8 0, .int .u8 0, .int .u8 0, .int .u8 0, .int .u8 0, .int .u8 0, .int .u8 0, .int .u8 0, .int .u8 0, .int .u8 0, .int .i64 8, .bool false, .int .u8 10, .int .u8 1, .int .u8 0, .int .u8 0, .int .u8 0, .int .u8 0, .int .u8 0, .int .u8 0, .int .u8 0, .int .u8 0, .int .u8 0, .int .u8 0, .int .u8 0, .int .u8 0, .int .u8 0, .int .u8 0, .int .i64 16] 33)) := ((Ch.refl [] x1).drewN n3).alloc _
      have rdB : Rd ((x1.drewN n3).alloc (.cells #[.bool false, .int .u8 10, .int .u8 0, .int .u8 0, .int .u8 0, .int .u8 0, .int .u8 0, .int .u8 0, .int .u8 0, .int .u8 0, .int .u8 0, .int .u8 0, .int .u8 0, .int .u8 0, .int .u8 0, .int .u8 0, .int .u8 0, .int .i64 8, .bool false, .int .u8 10, .int .u8 1, .int .u8 0, .int .u8 0, .int .u8 0, .int .u8 0, .int .u8 0, .int .u8 0, .int .u8 0, .int .u8 0, .int .u8 0, .int .u8 0, .int .u8 0, .int .u8 0, .int .u8 0, .int .u8 0, .int .i64 16] 33)) (x1.heap.size + 1) 18 (some ⟨x1.heap.size, 0, none⟩) 2 ([awP, awQ].flatMap pfxC) := Rd.new (x1.drewN n3) 18 ([awP, awQ].flatMap pfxC) 2 rfl 33
      have szB : x1.heap.size + 1 ≤ ((x1.drewN n3).alloc (.cells #[.bool false, .int .u8 10, .int .u8 0, .int .u8 0, .int .u8 0, .int .u8 0, .int .u8 0, .int .u8 0, .int .u8 0, .int .u8 0, .int .u8 0, .int .u8 0, .int .u8 0, .int .u8 0, .int .u8 0, .int .u8 0, .int .u8 0, .int .i64 8, .bool false, .int .u8 10, .int .u8 1, .int .u8 0, .int .u8 0, .int .u8 0, .int .u8 0, .int .u8 0, .int .u8 0, .int .u8 0, .int .u8 0, .int .u8 0, .int .u8 0, .int .u8 0, .int .u8 0, .int .u8 0, .int .u8 0, .int .i64 16] 33)).heap.size := by rw [World.size_alloc]; exact Nat.le_refl _
      replace Q2 := Q2.nil E3
      replace B2 := B2.ch E3 (by simp)
      replace B4 := B4.ch E3 (by simp)
      replace CC := CC.trans E3
      refine stagePost_mk ?_ ?_
      · intro o ho
        simp only [pick, List.map_cons, List.map_nil, List.getD_cons_zero, List.getD_cons_succ, List.mem_cons, List.not_mem_nil, or_false] at ho
        rcases ho with rfl
        all_goals
          refine float_any ?_
          repeat (first
            | (refine wpQuiet_row rfl 33 _ rfl w2.heap.size 0 rfl [.bool false, .int .u8 10, .int .u8 0, .int .u8 0, .int .u8 0, .int .u8 0, .int .u8 0, .int .u8 0, .int .u8 0, .int .u8 0, .int .u8 0, .int .u8 0, .int .u8 0, .int .u8 0, .int .u8 0, .int .u8 0, .int .u8 0, .int .i64 8] _ (fun w' ⟨q, hq⟩ => hq ▸ (B2.drewN q).range) Tryd.underlying33 rfl HI1.out ?_; simp only [Act.put, List.setIfInBounds_toArray, List.set_cons_succ, List.set_cons_zero])
            | (refine wpQuiet_row rfl 33 _ rfl w4.heap.size 0 rfl [.bool false, .int .u8 10, .int .u8 1, .int .u8 0, .int .u8 0, .int .u8 0, .int .u8 0, .int .u8 0, .int .u8 0, .int .u8 0, .int .u8 0, .int .u8 0, .int .u8 0, .int .u8 0, .int .u8 0, .int .u8 0, .int .u8 0, .int .i64 16] _ (fun w' ⟨q, hq⟩ => hq ▸ (B4.drewN q).range) Tryd.underlying33 rfl HI2.out ?_; simp only [Act.put, List.setIfInBounds_toArray, List.set_cons_succ, List.set_cons_zero])
            | go_big_quiet_step (first
              | (go_at_call 47; exact quiet_eq (trLenFS (Q2.drewN _)))))
          refine wpQuiet_nil ?_
          rfl
      refine wpTree_one ?_
      try simp only [pick, List.map_nil]
      repeat (first
        | go_big_quiet_step (first
          | (go_at_call 47; exact quiet_eq (trLenFS (Q2.drewN _)))))
      refine wpQuiet_nil ?_
      intro n6
      try simp only [pick, List.map_cons, List.map_nil, List.getD_cons_zero, List.getD_cons_succ]
      go_wp2_with (go_at_call 48; (with_reducible refine (HMT.out (Q2.drewN n6)).mono ?_); rintro e x6 ⟨Am, cm, rfl, ownm, D6⟩)
      have E6 := ((Ch.refl [] ((x1.drewN n3).alloc (.cells #[.bool false, .int .u8 10, .int .u8 0, .int .u8 0, .int .u8 0, .int .u8 0, .int .u8 0, .int .u8 0, .int .u8 0, .int .u8 0, .int .u8 0, .int .u8 0, .int .u8 0, .int .u8 0, .int .u8 0, .int .u8 0, .int .u8 0, .int .i64 8, .bool false, .int .u8 10, .int .u8 1, .int .u8 0, .int .u8 0, .int .u8 0, .int .u8 0, .int .u8 0, .int .u8 0, .int .u8 0, .int .u8 0, .int .u8 0, .int .u8 0, .int .u8 0, .int .u8 0, .int .u8 0, .int .u8 0, .int .i64 16] 33))).drewN n6).trans D6
      replace Q2 := Q2.nil E6
      replace B2 := B2.ch E6 (by simp)
      replace B4 := B4.ch E6 (by simp)
      replace CC := CC.trans E6
      replace rdB := rdB.ch E6 szB (by simp)
      replace szB := Nat.le_trans szB E6.size
      refine stagePost_mk ?_ ?_
      · intro o ho
        simp only [pick, List.map_cons, List.map_nil, List.getD_cons_zero, List.getD_cons_succ, List.mem_cons, List.not_mem_nil, or_false] at ho
        rcases ho with rfl | rfl
        all_goals
          refine float_any ?_
          repeat (first
            | (refine wpQuiet_row rfl 33 _ rfl w2.heap.size 0 rfl [.bool false, .int .u8 10, .int .u8 0, .int .u8 0, .int .u8 0, .int .u8 0, .int .u8 0, .int .u8 0, .int .u8 0, .int .u8 0, .int .u8 0, .int .u8 0, .int .u8 0, .int .u8 0, .int .u8 0, .int .u8 0, .int .u8 0, .int .i64 8] _ (fun w' ⟨q, hq⟩ => hq ▸ (B2.drewN q).range) Tryd.underlying33 rfl HI1.out ?_; simp only [Act.put, List.setIfInBounds_toArray, List.set_cons_succ, List.set_cons_zero])
            | (refine wpQuiet_row rfl 33 _ rfl w4.heap.size 0 rfl [.bool false, .int .u8 10, .int .u8 1, .int .u8 0, .int .u8 0, .int .u8 0, .int .u8 0, .int .u8 0, .int .u8 0, .int .u8 0, .int .u8 0, .int .u8 0, .int .u8 0, .int .u8 0, .int .u8 0, .int .u8 0, .int .u8 0, .int .i64 16] _ (fun w' ⟨q, hq⟩ => hq ▸ (B4.drewN q).range) Tryd.underlying33 rfl HI2.out ?_; simp only [Act.put, List.setIfInBounds_toArray, List.set_cons_succ, List.set_cons_zero])
            | go_big_quiet_step (first
              | (go_at_call 47; exact quiet_eq (trLenFS (Q2.drewN _)))))
          refine wpQuiet_nil ?_
          rfl
      refine wpTree_one ?_
      try simp only [pick, List.map_nil]
      repeat (first
        | go_big_quiet_step (first
          | (go_at_call 47; exact quiet_eq (trLenFS (Q2.drewN _)))))
      refine wpQuiet_nil ?_
      intro n7
      try simp only [pick, List.map_cons, List.map_nil, List.getD_cons_zero, List.getD_cons_succ]
      have rdM : Rd (x6.drewN n7) (x6.drewN n7).heap.size 18 Am 2 ([awP, awQ].flatMap pfxC) := (ownm.drewN n7).rd
      have rdB' := rdB.drewN n7
      have szB' : _ ≤ (x6.drewN n7).heap.size := szB
      go_wp2_with (go_at_call 21; (with_reducible refine (eqEqP _ _ _ _ _ _ _ _ [awP, awQ] rdM rdB' (Nat.le_refl _) szB' (by omega) HG2.out).mono ?_); rintro e x7 ⟨rfl, D7⟩)
      have E7 := ((Ch.refl [] x6).drewN n7).trans D7
      replace Q2 := Q2.nil E7
      replace B2 := B2.ch E7 (by simp)
      replace B4 := B4.ch E7 (by simp)
      replace CC := CC.trans E7
      replace ownm := ownm.ch E7 (by simp)
      replace rdB := rdB.ch E7 szB (by simp)
      replace szB := Nat.le_trans szB E7.size
      refine stagePost_mk (by simp [pick]) ?_
      refine wpTree_last ?_
      try simp only [pick, List.map_cons, List.map_nil, List.getD_cons_zero, List.getD_cons_succ]
      repeat (first
        | go_big_quiet_step (first
          | (go_at_call 47; exact quiet_eq (trLenFS (Q2.drewN _)))))
      refine wpQuiet_nil ?_
      intro nz
      go_wp2_with fail
      go_ret
      exact ⟨rfl, CC.drewN nz⟩
  · skip
    intro n8
    try simp only [pick, List.map_cons, List.map_nil, List.getD_cons_zero, List.getD_cons_succ]
    go_wp2_with fail
    have E8 : Ch [] w13 ((w13.drewN n8).alloc (.cells #[.bool false, .int .u8 10, .int .u8 0, .int .u8 0, .int .u8 0, .int .u8 0, .int .u8 0, .int .u8 0, .int .u8 0, .int .u8 0, .int .u8 0, .int .u8 0, .int .u8 0, .int .u8 0, .int .u8 0, .int .u8 0, .int .u8 0, .int .i64 8, .bool false, .int .u8 10, .int .u8 1, .int .u8 0, .int .u8 0, .int .u8 0, .int .u8 0, .int .u8 0, .int .u8 0, .int .u8 0, .int .u8 0, .int .u8 0, .int .u8 0, .int .u8 0, .int .u8 0, .int .u8 0, .int .u8 0, .int .i64 16] 33)) := ((Ch.refl [] w13).drewN n8).alloc _
    have rdB : Rd ((w13.drewN n8).alloc (.cells #[.bool false, .int .u8 10, .int .u8 0, .int .u8 0, .int .u8 0, .int .u8 0, .int .u8 0, .int .u8 0, .int .u8 0, .int .u8 0, .int .u8 0, .int .u8 0, .int .u8 0, .int .u8 0, .int .u8 0, .int .u8 0, .int .u8 0, .int .i64 8, .bool false, .int .u8 10, .int .u8 1, .int .u8 0, .int .u8 0, .int .u8 0, .int .u8 0, .int .u8 0, .int .u8 0, .int .u8 0, .int .u8 0, .int .u8 0, .int .u8 0, .int .u8 0, .int .u8 0, .int .u8 0, .int .u8 0, .int .i64 16] 33)) (w13.heap.size + 1) 18 (some ⟨w13.heap.size, 0, none⟩) 2 ([awP, awQ].flatMap pfxC) := Rd.new (w13.drewN n8) 18 ([awP, awQ].flatMap pfxC) 2 rfl 33
    have szB : w13.heap.size + 1 ≤ ((w13.drewN n8).alloc (.cells #[.bool false, .int .u8 10, .int .u8 0, .int .u8 0, .int .u8 0, .int .u8 0, .int .u8 0, .int .u8 0, .int .u8 0, .int .u8 0, .int .u8 0, .int .u8 0, .int .u8 0, .int .u8 0, .int .u8 0, .int .u8 0, .int .u8 0, .int .i64 8, .bool false, .int .u8 10, .int .u8 1, .int .u8 0, .int .u8 0, .int .u8 0, .int .u8 0, .int .u8 0, .int .u8 0, .int .u8 0, .int .u8 0, .int .u8 0, .int .u8 0, .int .u8 0, .int .u8 0, .int .u8 0, .int .u8 0, .int .i64 16] 33)).heap.size := by rw [World.size_alloc]; exact Nat.le_refl _
    replace Q2 := Q2.nil E8
    replace B2 := B2.ch E8 (by simp)
    replace B4 := B4.ch E8 (by simp)
    replace CC := CC.trans E8
    refine stagePost_mk ?_ ?_
    · intro o ho
      simp only [pick, List.map_cons, List.map_nil, List.getD_cons_zero, List.getD_cons_succ, List.mem_cons, List.not_mem_nil, or_false] at ho
      rcases ho with rfl
      all_goals
        refine float_any ?_
        repeat (first
          | (refine wpQuiet_row rfl 33 _ rfl w2.heap.size 0 rfl [.bool false, .int .u8 10, .int .u8 0, .int .u8 0, .int .u8 0, .int .u8 0, .int .u8 0, .int .u8 0, .int .u8 0, .int .u8 0, .int .u8 0, .int .u8 0, .int .u8 0, .int .u8 0, .int .u8 0, .int .u8 0, .int .u8 0, .int .i64 8] _ (fun w' ⟨q, hq⟩ => hq ▸ (B2.drewN q).range) Tryd.underlying33 rfl HI1.out ?_; simp only [Act.put, List.setIfInBounds_toArray, List.set_cons_succ, List.set_cons_zero])
          | (refine wpQuiet_row rfl 33 _ rfl w4.heap.size 0 rfl [.bool false, .int .u8 10, .int .u8 1, .int .u8 0, .int .u8 0, .int .u8 0, .int .u8 0, .int .u8 0, .int .u8 0, .int .u8 0, .int .u8 0, .int .u8 0, .int .u8 0, .int .u8 0, .int .u8 0, .int .u8 0, .int .u8 0, .int .i64 16] _ (fun w' ⟨q, hq⟩ => hq ▸ (B4.drewN q).range) Tryd.underlying33 rfl HI2.out ?_; simp only [Act.put, List.setIfInBounds_toArray, List.set_cons_succ, List.set_cons_zero])
          | go_big_quiet_step (first
            | (go_at_call 47; exact quiet_eq (trLenFS (Q2.drewN _)))))
        refine wpQuiet_nil ?_
        rfl
    refine wpTree_one ?_
    try simp only [pick, List.map_nil]
    repeat (first
      | go_big_quiet_step (first
        | (go_at_call 47; exact quiet_eq (trLenFS (Q2.drewN _)))))
    refine wpQuiet_nil ?_
    intro n9
    try simp only [pick, List.map_cons, List.map_nil, List.getD_cons_zero, List.getD_cons_succ]
    go_wp2_with (go_at_call 46; (with_reducible refine (HV3.out _).mono ?_); rintro e x9 ⟨rfl, D9⟩)
    have E9 := ((Ch.refl [] ((w13.drewN n8).alloc (.cells #[.bool false, .int .u8 10, .int .u8 0, .int .u8 0, .int .u8 0, .int .u8 0, .int .u8 0, .int .u8 0, .int .u8 0, .int .u8 0, .int .u8 0, .int .u8 0, .int .u8 0, .int .u8 0, .int .u8 0, .int .u8 0, .int .u8 0, .int .i64 8, .bool false, .int .u8 10, .int .u8 1, .int .u8 0, .int .u8 0, .int .u8 0, .int .u8 0, .int .u8 0, .int .u8 0, .int .u8 0, .int .u8 0, .int .u8 0, .int .u8 0, .int .u8 0, .int .u8 0, .int .u8 0, .int .u8 0, .int .i64 16] 33))).drewN n9).trans D9
    replace Q2 := Q2.nil E9
    replace B2 := B2.ch E9 (by simp)
    replace B4 := B4.ch E9 (by simp)
    replace CC := CC.trans E9
    replace rdB := rdB.ch E9 szB (by simp)
    replace szB := Nat.le_trans szB E9.size
    refine stagePost_mk ?_ ?_
    · intro o ho
      simp only [pick, List.map_cons, List.map_nil, List.getD_cons_zero, List.getD_cons_succ, List.mem_cons, List.not_mem_nil, or_false] at ho
      rcases ho with rfl | rfl | rfl
      all_goals
        refine float_any ?_
        repeat (first
          | (refine wpQuiet_row rfl 33 _ rfl w2.heap.size 0 rfl [.bool false, .int .u8 10, .int .u8 0, .int .u8 0, .int .u8 0, .int .u8 0, .int .u8 0, .int .u8 0, .int .u8 0, .int .u8 0, .int .u8 0, .int .u8 0, .int .u8 0, .int .u8 0, .int .u8 0, .int .u8 0, .int .u8 0, .int .i64 8] _ (fun w' ⟨q, hq⟩ => hq ▸ (B2.drewN q).range) Tryd.underlying33 rfl HI1.out ?_; simp only [Act.put, List.setIfInBounds_toArray, List.set_cons_succ, List.set_cons_zero])
          | (refine wpQuiet_row rfl 33 _ rfl w4.heap.size 0 rfl [.bool false, .int .u8 10, .int .u8 1, .int .u8 0, .int .u8 0, .int .u8 0, .int .u8 0, .int .u8 0, .int .u8 0, .int .u8 0, .int .u8 0, .int .u8 0, .int .u8 0, .int .u8 0, .int .u8 0, .int .u8 0, .int .u8 0, .int .i64 16] _ (fun w' ⟨q, hq⟩ => hq ▸ (B4.drewN q).range) Tryd.underlying33 rfl HI2.out ?_; simp only [Act.put, List.setIfInBounds_toArray, List.set_cons_succ, List.set_cons_zero])
          | go_big_quiet_step (first
            | (go_at_call 47; exact quiet_eq (trLenFS (Q2.drewN _)))))
        refine wpQuiet_nil ?_
        rfl
    refine wpTree_one ?_
    try simp only [pick, List.map_nil]
    repeat (first
      | go_big_quiet_step (first
        | (go_at_call 47; exact quiet_eq (trLenFS (Q2.drewN _)))))
    refine wpQuiet_nil ?_
    intro n10
    try simp only [pick, List.map_cons, List.map_nil, List.getD_cons_zero, List.getD_cons_succ]
    go_wp2_with (go_at_call 48; (with_reducible refine (HMT.out (Q2.drewN n10)).mono ?_); rintro e x10 ⟨Am, cm, rfl, ownm, D10⟩)
    have E10 := ((Ch.refl [] x9).drewN n10).trans D10
    replace Q2 := Q2.nil E10
    replace B2 := B2.ch E10 (by simp)
    replace B4 := B4.ch E10 (by simp)
    replace CC := CC.trans E10
    replace rdB := rdB.ch E10 szB (by simp)
    replace szB := Nat.le_trans szB E10.size
    refine stagePost_mk ?_ ?_
    · intro o ho
      simp only [pick, List.map_cons, List.map_nil, List.getD_cons_zero, List.getD_cons_succ, List.mem_cons, List.not_mem_nil, or_false] at ho
      rcases ho with rfl | rfl
      all_goals
        refine float_any ?_
        repeat (first
          | (refine wpQuiet_row rfl 33 _ rfl w2.heap.size 0 rfl [.bool false, .int .u8 10, .int .u8 0, .int .u8 0, .int .u8 0, .int .u8 0, .int .u8 0, .int .u8 0, .int .u8 0, .int .u8 0, .int .u8 0, .int .u8 0, .int .u8 0, .int .u8 0, .int .u8 0, .int .u8 0, .int .u8 0, .int .i64 8] _ (fun w' ⟨q, hq⟩ => hq ▸ (B2.drewN q).range) Tryd.underlying33 rfl HI1.out ?_; simp only [Act.put, List.setIfInBounds_toArray, List.set_cons_succ, List.set_cons_zero])
          | (refine wpQuiet_row rfl 33 _ rfl w4.heap.size 0 rfl [.bool false, .int .u8 10, .int .u8 1, .int .u8 0, .int .u8 0, .int .u8 0, .int .u8 0, .int .u8 0, .int .u8 0, .int .u8 0, .int .u8 0, .int .u8 0, .int .u8 0, .int .u8 0, .int .u8 0, .int .u8 0, .int .u8 0, .int .i64 16] _ (fun w' ⟨q, hq⟩ => hq ▸ (B4.drewN q).range) Tryd.underlying33 rfl HI2.out ?_; simp only [Act.put, List.setIfInBounds_toArray, List.set_cons_succ, List.set_cons_zero])
          | go_big_quiet_step (first
            | (go_at_call 47; exact quiet_eq (trLenFS (Q2.drewN _)))))
        refine wpQuiet_nil ?_
        rfl
    refine wpTree_one ?_
    try simp only [pick, List.map_nil]
    repeat (first
      | go_big_quiet_step (first
        | (go_at_call 47; exact quiet_eq (trLenFS (Q2.drewN _)))))
    refine wpQuiet_nil ?_
    intro n11
    try simp only [pick, List.map_cons, List.map_nil, List.getD_cons_zero, List.getD_cons_succ]
    have rdM : Rd (x10.drewN n11) (x10.drewN n11).heap.size 18 Am 2 ([awP, awQ].flatMap pfxC) := (ownm.drewN n11).rd
    have rdB' := rdB.drewN n11
    have szB' : _ ≤ (x10.drewN n11).heap.size := szB
    go_wp2_with (go_at_call 21; (with_reducible refine (eqEqP _ _ _ _ _ _ _ _ [awP, awQ] rdM rdB' (Nat.le_refl _) szB' (by omega) HG2.out).mono ?_); rintro e x11 ⟨rfl, D11⟩)
    have E11 := ((Ch.refl [] x10).drewN n11).trans D11
    replace Q2 := Q2.nil E11
    replace B2 := B2.ch E11 (by simp)
    replace B4 := B4.ch E11 (by simp)
    replace CC := CC.trans E11
    replace ownm := ownm.ch E11 (by simp)
    replace rdB := rdB.ch E11 szB (by simp)
    replace szB := Nat.le_trans szB E11.size
    refine stagePost_mk (by simp [pick]) ?_
    refine wpTree_last ?_
    try simp only [pick, List.map_cons, List.map_nil, List.getD_cons_zero, List.getD_cons_succ]
    repeat (first
      | go_big_quiet_step (first
        | (go_at_call 47; exact quiet_eq (trLenFS (Q2.drewN _)))))
    refine wpQuiet_nil ?_
    intro nz
    go_wp2_with fail
    go_ret
    exact ⟨rfl, CC.drewN nz⟩
end Go.Proofs.YtjpiekljjhgmoaaDoor
