/- The walk of TrieSeparatesFamilies (printed by mk_lawtr2.py). -/
import Derived.Test.YtjpiekljjhgmoaaDoorLawTr0
import Derived.Test.YtjpiekljjhgmoaaDoorTrFgB
import Derived.Test.YtjpiekljjhgmoaaDoorGenD
import Derived.Test.YtjpiekljjhgmoaaDoorMD
import Derived.Test.YtjpiekljjhgmoaaDoorRows
import Derived.Deep.DeepCutAuto
import Derived.Deep.CutRange
namespace Go.Proofs.YtjpiekljjhgmoaaDoor
open Go.ChangeShapes Go.WideShapes Go.ChangeAt Go.RowKit

theorem genModAs2 (v n r : Int) (hr : modI v n = r) (w : World) (h0 : 0 < n) (h1 : n ≤ 9223372036854775807) :
    Calls Tryd.prog 9 #[.int .i64 v, .int .i64 n] w fun e w' => e = .returned (.int .i64 r) ∧ w = w' := by
  subst hr; exact genMod v n w h0 h1
theorem okP_whole (six : Bool) : OkP (six, zeros, 0) := ⟨⟨rfl, fun x hx => by have : x = 0 := (by decide : ∀ x ∈ zeros, x = 0) x hx; omega⟩, by cases six <;> decide⟩
theorem trInsZB {w : World} {g : Nat} {m : KM} {n : Int} {F : List Nat} (h : TrMB w g m n F) (hn : 0 ≤ n ∧ n ≤ 1000000) :
    Calls Tryd.prog 23 #[.pointer (some ⟨g, 0, none⟩), .agg #[.bool false, .int .u8 0, .int .u8 0, .int .u8 0, .int .u8 0, .int .u8 0, .int .u8 0, .int .u8 0, .int .u8 0, .int .u8 0, .int .u8 0, .int .u8 0, .int .u8 0, .int .u8 0, .int .u8 0, .int .u8 0, .int .u8 0, .int .i64 0], .bool true] w fun e w' => e = .returned (.bool true) ∧ ∃ F', TrMB w' g (mset m [false] (.bool true)) (if m [false] = none then n + 1 else n) F' ∧ Ch F w w' ∧ ∀ b ∈ F', b ∈ F ∨ w.heap.size ≤ b := trInsFB h hn (false, zeros, 0) (okP_whole false) true
theorem mget_del (m : KM) : mget (mdel m (keyP (true, zeros, 0))) (true, zeros, 0) = none := by
  rw [mget_ok (okP_whole true)]; simp [mdel]
def m1T : KM := mset (fun _ => none) [false] (.bool true)
def m2T : KM := mset m1T [true] (.bool true)
theorem m1T_root (κ : Key) (h : κ.length ≠ 1) : m1T κ = none := by
  unfold m1T mset
  rw [if_neg (fun e => h (by rw [e]; rfl))]
theorem m2T_root (κ : Key) (h : κ.length ≠ 1) : m2T κ = none := by
  unfold m2T mset
  rw [if_neg (fun e => h (by rw [e]; rfl))]
  exact m1T_root κ h
def lT (b : Bool) : List (Nat × Value) := if b then [(0, .bool true)] else []
theorem mK_m1T (s : Bool) (xs : List Int) : mK m1T s xs = lT (!s && validA s xs) := by
  rw [mK_root m1T_root]
  cases s <;> cases validA _ xs <;> rfl
theorem mK_m2T (s : Bool) (xs : List Int) : mK m2T s xs = lT (validA s xs) := by
  rw [mK_root m2T_root]
  cases s <;> cases validA _ xs <;> rfl

set_option maxRecDepth 100000 in
set_option maxHeartbeats 16000000 in
theorem trieSeparatesFamilies_came {H : Type} {enc : TypeId × Value → H} (W : World) (args : Array Value) (ds : List (DataW H)) (_ : laidMetH Tryd.prog Rows.trieSeparatesFamiliesRow.laid W) (h : Came enc Tryd.prog Tryd.f5 W args ds) :
    Calls Tryd.prog 5 args W fun e W' => e = .returned (.bool true) ∧ Below W.heap.size W W' := by
  obtain ⟨v0, v1, d0, d1, rfl, a0, a1⟩ := h.args2 rfl
  obtain ⟨six, bs, rfl, hg1⟩ := a0.addr
  obtain ⟨nz, rfl, hnz⟩ := a1.int Tryd.underlying3
  clear h a0 a1
  have HIA := hid (addr_inf (six := six) hg1.1)
  have CX : Ch [] W (W.alloc (.cells (addrC six bs).toArray 24)) := (Ch.refl _ _).alloc _
  have BA : Blk (W.alloc (.cells (addrC six bs).toArray 24)) W.heap.size 24 (addrC six bs) := Blk.new W _ _
  have HSA := hid (genSome six bs hg1)
  have hgx0 := someA_good (six := six) hg1
  generalize (someA six bs).1 = s2 at HSA hgx0
  generalize (someA six bs).2 = xs at HSA hgx0
  have HGX := hid hgx0
  have HIX := hid (addr_inf (six := s2) hgx0.1)
  have HLX : Hid ((addrC false zeros).length = (addrC s2 xs).length) := (addr_len (six := false) (bs := zeros) rfl).trans (addr_len hgx0.1).symm
  have HRV := hid (refValid s2 xs hgx0.1)
  obtain ⟨hgv, hvv⟩ := vldA_good (six := six) hg1
  have HVA := hid (genValid six bs hg1)
  generalize vldA six bs = vs at HVA hgv hvv
  obtain ⟨k0, k1⟩ := modI_rng nz 33 (by omega)
  obtain ⟨k, hk⟩ := Int.eq_ofNat_of_zero_le k0
  have HMD : Hid (∀ w, Calls Tryd.prog 9 #[.int .i64 nz, .int .i64 33] w fun e w' => e = .returned (.int .i64 k) ∧ w = w') := fun w => genModAs2 nz 33 k hk w (by omega) (by omega)
  have hkL : (k : Int) ≤ bitL six := by
    have : (32 : Int) ≤ bitL six := by cases six <;> decide
    omega
  have hokq := okP_of hgv hvv hkL
  have hkq := keyP_of (six := six) hgv hkL
  have HPO := hid (refPfxOf six vs hgv hvv k hkL)
  have HIQ : Hid ((Tryd.prog.info? 33).map (·.size) = some (pfxC (six, truncL vs k, (k : Int))).length) := pfx_inf (p := (six, truncL vs k, (k : Int))) hokq.g.1
  have HLQ : Hid ((pfxC (false, zeros, 0)).length = (pfxC (six, truncL vs k, (k : Int))).length) := by
    show _ = _
    rw [pfx_len (p := (six, truncL vs k, (k : Int))) hokq.g.1]; rfl
  have H17 : Hid ((pfxC (six, truncL vs k, (k : Int)))[17]? = some (.int .i64 k)) := pfx_bits (p := (six, truncL vs k, (k : Int))) hokq.g.1
  have HGQ := hid hokq.g
  have HMG : Hid (mget m2T (six, truncL vs k, (k : Int)) = if k = 0 then some (.bool true) else none) := by
    show _ = _
    rw [mget_ok hokq, hkq]
    by_cases e : k = 0
    · subst e
      rw [if_pos rfl]
      show m2T [six] = _
      cases six <;> rfl
    · rw [if_neg e]
      exact m2T_root _ (by rw [keyA_len]; omega)
  have HIS := hid (pfx_inf (p := (true, zeros, 0)) rfl)
  clear hgx0 hgv hvv k0 k1 hk hkL hokq hkq
  generalize (six, truncL vs k, (k : Int)) = qq at HPO HIQ HLQ H17 HGQ HMG
  go_enter Tryd.func5, Tryd.ntmps5
  go_upto_region 4 with (first
    | go_big_skip
    | (go_at_call 22; (with_reducible refine (trNewFB _).mono ?_); rintro e w1 ⟨rfl, TX, C9⟩; have sz1 := C9.size; rw [World.size_alloc] at sz1; replace BA := BA.ch C9 (by simp); replace CX := CX.trans C9; rw [World.size_alloc] at TX; clear C9)
    | (go_at_call 23; (with_reducible refine (trInsZB TX (by omega)).mono ?_); rintro e w2 ⟨rfl, F2, T2, C2, G2⟩))
  replace T2 : TrMB w2 (W.heap.size + 1) m1T 1 F2 := T2
  have sz2 := C2.size
  have C3 : Ch [] W w2 := CX.step C2 (fun i hi => .inr (by rw [List.mem_singleton] at hi; omega))
  replace BA := BA.ch C2 (by simp)
  replace TX := T2
  replace CX := C3
  have HF2 : Hid (∀ b ∈ F2, W.heap.size < b) := fun b hb => by
    rcases G2 b hb with h | h
    · rw [List.mem_singleton] at h; omega
    · omega
  have HL2 := hid T2.lt
  have T2L := T2.glt
  clear T2 C2 C3 G2
  obtain ⟨V, hV⟩ : ∃ V, validA s2 xs = V := ⟨_, rfl⟩
  rw [hV] at HRV
  have HK1 : Hid (∀ {w : World} {g : Nat} {n : Int} {F : List Nat}, TrMB w g m1T n F → Calls Tryd.prog 25 #[.pointer (some ⟨g, 0, none⟩), .agg (addrC s2 xs).toArray] w fun e w' => e = .returned (.tuple #[.agg (pfxC (lookP s2 xs (lT (!s2 && V)))).toArray, .bool (!s2 && V), .bool (!s2 && V)]) ∧ Ch [] w w') := fun {w g n F} h => by
    have := trLookAB h HGX.out (mK_m1T s2 xs)
    rw [hV] at this
    revert this
    cases (!s2 && V) <;> exact fun h => h
  have HK2 : Hid (∀ {w : World} {g : Nat} {n : Int} {F : List Nat}, TrMB w g m2T n F → Calls Tryd.prog 25 #[.pointer (some ⟨g, 0, none⟩), .agg (addrC s2 xs).toArray] w fun e w' => e = .returned (.tuple #[.agg (pfxC (lookP s2 xs (lT V))).toArray, .bool V, .bool V]) ∧ Ch [] w w') := fun {w g n F} h => by
    have := trLookAB h HGX.out (mK_m2T s2 xs)
    rw [hV] at this
    revert this
    cases V <;> exact fun h => h
  have hq : ∀ b, (lookP s2 xs (lT b)).2.1.length = 16 := fun b => by
    cases b
    · rfl
    · exact (trunc_good HGX.out 0).1
  have HQV : Hid ((pfxC (lookP s2 xs (lT V)))[0]? = some (.bool (V && s2)) ∧ (pfxC (lookP s2 xs (lT V)))[17]? = some (.int .i64 0)) := by
    cases V
    · exact ⟨rfl, rfl⟩
    · exact ⟨rfl, pfx_bits (p := (s2, truncL xs 0, 0)) (trunc_good HGX.out 0).1⟩
  have hl1 := hq (!s2 && V)
  have hl2 := hq V
  generalize lookP s2 xs (lT (!s2 && V)) = Q1 at HK1 hl1
  generalize lookP s2 xs (lT V) = Q2 at HK2 hl2 HQV
  have HI1 := hid (pfx_inf (p := Q1) hl1)
  have HI2 := hid (pfx_inf (p := Q2) hl2)
  have HE1 : Hid ((pfxC (false, zeros, 0)).length = (pfxC Q1).length) := by show _ = _; rw [pfx_len hl1]; rfl
  have HE2 : Hid ((pfxC (false, zeros, 0)).length = (pfxC Q2).length) := by show _ = _; rw [pfx_len hl2]; rfl
  clear hV hq hl1 hl2
  go_upto_region 5 with (first
    | go_big_skip
    | (refine wpList_load_want rfl 24 _ rfl W.heap.size 0 rfl (addrC six bs) _ BA.range Tryd.underlying24 rfl HIA.out ?_)
    | (go_at_call 24; (with_reducible refine (HSA.out _).mono ?_); rintro e w3 ⟨rfl, C9⟩; have sz3 := C9.size; replace BA := BA.ch C9 (by simp); replace TX := TX.nil C9; replace CX := CX.trans C9; clear C9)
    | (refine wpList_storeB rfl 24 _ _ rfl w3.heap.size 24 (addrC false zeros) (addrC s2 xs) rfl rfl (Blk.new _ _ _) HIX.out HLX.out (addr_one' _ _) ?_; intro w4 BX C9 Z9; clear Z9; have D9 := ((Ch.refl [] w3).alloc _).step C9 (fun i hi => .inr (by simp at hi; omega)); replace BA := BA.ch D9 (by simp); replace TX := TX.nil D9; replace CX := CX.trans D9; clear C9 D9))
  have HFX : Hid (∀ b ∈ F2, b < w3.heap.size) := fun b hb => Nat.lt_of_lt_of_le (HL2.out b hb) sz3
  have HGW : Hid (W.heap.size + 1 < w3.heap.size) := by
    have := T2L
    show _ < _
    omega
  generalize hgxe : w3.heap.size = gx at BX HFX HGW ⊢
  clear sz2 sz3 HL2
  cases s2 <;> cases V
  all_goals
    simp only [Bool.not_false, Bool.not_true, Bool.and_self, Bool.and_false, Bool.and_true] at HK1 HQV
    have e0 : w4.cell? ⟨gx, 0, none⟩ = some (.bool _) := BX.cell 0
    go_upto_region 6 with (first
      | go_big_skip
      | (refine wpList_load_want rfl 24 _ rfl gx 0 rfl (addrC _ xs) _ BX.range Tryd.underlying24 rfl HIX.out ?_)
      | (go_at_call 25; (with_reducible refine (HK1.out TX).mono ?_); rintro e w5 ⟨rfl, C9⟩; replace BA := BA.ch C9 (by simp); replace BX := BX.ch C9 (by simp); replace TX := TX.nil C9; replace CX := CX.trans C9; clear C9)
      | (refine wpList_storeB rfl 33 _ _ rfl w5.heap.size 33 (pfxC (false, zeros, 0)) (pfxC Q1) rfl rfl (Blk.new _ _ _) HI1.out HE1.out (pfx_one _) ?_; intro w7 BP C9 Z9; clear Z9; have D9 := ((Ch.refl [] w5).alloc _).step C9 (fun i hi => .inr (by simp at hi; omega)); replace BA := BA.ch D9 (by simp); replace BX := BX.ch D9 (by simp); replace TX := TX.nil D9; replace CX := CX.trans D9; clear C9 D9))
    clear e0
    have e0 : w7.cell? ⟨gx, 0, none⟩ = some (.bool _) := BX.cell 0
    clear BP
    go_upto_region 9 with (first
      | go_big_skip
      | (refine wpList_load_want rfl 24 _ rfl gx 0 rfl (addrC _ xs) _ BX.range Tryd.underlying24 rfl HIX.out ?_)
      | (go_at_call 26; (with_reducible refine (HRV.out _).mono ?_); rintro e w7 ⟨rfl, C9⟩; replace BA := BA.ch C9 (by simp); replace BX := BX.ch C9 (by simp); replace TX := TX.nil C9; replace CX := CX.trans C9; clear C9))
    clear e0
    have hgs0 := BX.lt
    go_upto_region 10 with (refine wpList_storeB rfl 33 _ _ rfl w7.heap.size 33 (pfxC (false, zeros, 0)) (pfxC (true, zeros, 0)) rfl rfl (Blk.new _ _ _) HIS.out rfl (pfx_one _) ?_; intro w8 BS C9 Z9; clear Z9; have D9 := ((Ch.refl [] w7).alloc _).step C9 (fun i hi => .inr (by simp at hi; omega)); replace BA := BA.ch D9 (by simp); replace BX := BX.ch D9 (by simp); replace TX := TX.nil D9; replace CX := CX.trans D9; clear C9 D9)
    generalize w7.heap.size = gs at BS hgs0 ⊢
    have HGS : Hid (∀ b ∈ F2, b ≠ gs) := fun b hb => by have := HFX.out b hb; omega
    have HGL : Hid (gs < w8.heap.size ∧ W.heap.size ≤ gs) := ⟨BS.lt, by have := HGW.out; omega⟩
    go_upto_region 12 with (first
      | (refine wpList_load_want rfl 33 _ rfl gs 0 rfl (pfxC (true, zeros, 0)) _ BS.range Tryd.underlying33 rfl HIS.out ?_)
      | (go_at_call 23; (with_reducible refine (trInsFB TX (by omega) (true, zeros, 0) (okP_whole true) true).mono ?_); rintro e w9 ⟨rfl, F3, T3, C3, G3⟩))
    replace T3 : TrMB w9 (W.heap.size + 1) m2T 2 F3 := T3
    have HF3 : Hid (∀ b ∈ F3, b ≠ gs ∧ W.heap.size < b) := fun b hb => by
      rcases G3 b hb with h | h
      · exact ⟨HGS.out b h, HF2.out b h⟩
      · have := HGL.out; exact ⟨by omega, by omega⟩
    replace BA := BA.ch C3 (fun h => by have := HF2.out _ h; omega)
    replace BX := BX.ch C3 (fun h => by have := HFX.out _ h; omega)
    replace BS := BS.ch C3 (fun h => HGS.out _ h rfl)
    replace CX := CX.step C3 (fun i hi => .inr (Nat.le_of_lt (HF2.out i hi)))
    have TX := T3
    clear T3 C3 G3 HK1
    go_upto_region 13 with (first
      | (refine wpList_load_want rfl 24 _ rfl gx 0 rfl (addrC _ xs) _ BX.range Tryd.underlying24 rfl HIX.out ?_)
      | (go_at_call 25; (with_reducible refine (HK2.out TX).mono ?_); rintro e x1 ⟨rfl, C9⟩; replace BA := BA.ch C9 (by simp); replace BX := BX.ch C9 (by simp); replace BS := BS.ch C9 (by simp); replace TX := TX.nil C9; replace CX := CX.trans C9; clear C9)
      | (refine wpList_storeB rfl 33 _ _ rfl x1.heap.size 33 (pfxC (false, zeros, 0)) (pfxC Q2) rfl rfl (Blk.new _ _ _) HI2.out HE2.out (pfx_one _) ?_; intro x2 PP C9 Z9; clear Z9; have D9 := ((Ch.refl [] x1).alloc _).step C9 (fun i hi => .inr (by simp at hi; omega)); replace BA := BA.ch D9 (by simp); replace BX := BX.ch D9 (by simp); replace BS := BS.ch D9 (by simp); replace TX := TX.nil D9; replace CX := CX.trans D9; clear C9 D9))
    generalize x1.heap.size = gp at PP ⊢
    go_upto_region 14 with (first
      | (refine wpList_load_want rfl 24 _ rfl W.heap.size 0 rfl (addrC six bs) _ BA.range Tryd.underlying24 rfl HIA.out ?_)
      | (go_at_call 8; (with_reducible refine (HVA.out _).mono ?_); rintro e x3 ⟨rfl, C9⟩; replace BA := BA.ch C9 (by simp); replace BX := BX.ch C9 (by simp); replace BS := BS.ch C9 (by simp); replace PP := PP.ch C9 (by simp); replace TX := TX.nil C9; replace CX := CX.trans C9; clear C9)
      | (go_at_call 9; (with_reducible refine (HMD.out _).mono ?_); rintro e x4 ⟨rfl, rfl⟩)
      | (go_at_call 11; (with_reducible refine (HPO.out _).mono ?_); rintro e x5 ⟨rfl, C9⟩; replace BA := BA.ch C9 (by simp); replace BX := BX.ch C9 (by simp); replace BS := BS.ch C9 (by simp); replace PP := PP.ch C9 (by simp); replace TX := TX.nil C9; replace CX := CX.trans C9; clear C9)
      | (refine wpList_storeB rfl 33 _ _ rfl x5.heap.size 33 (pfxC (false, zeros, 0)) (pfxC qq) rfl rfl (Blk.new _ _ _) HIQ.out HLQ.out (pfx_one _) ?_; intro x6 PQ C9 Z9; clear Z9; have D9 := ((Ch.refl [] x5).alloc _).step C9 (fun i hi => .inr (by simp at hi; omega)); replace BA := BA.ch D9 (by simp); replace BX := BX.ch D9 (by simp); replace BS := BS.ch D9 (by simp); replace PP := PP.ch D9 (by simp); replace TX := TX.nil D9; replace CX := CX.trans D9; clear C9 D9))
    generalize x5.heap.size = gq at PQ ⊢
    have hq0 := HQV.out.1
    have hq17 := HQV.out.2
    by_cases hk0 : k = 0
    all_goals
      first
        | (rw [if_pos hk0] at HMG; have hki : (k : Int) = 0 := (by omega))
        | (rw [if_neg hk0] at HMG; have hki : ¬ (k : Int) = 0 := (by omega); have hkb : ((k : Int) == 0) = false := (by simpa using hki))
      go_upto_region 15 with (first
        | (refine wpList_load_want rfl 33 _ rfl gq 0 rfl (pfxC qq) _ PQ.range Tryd.underlying33 rfl HIQ.out ?_)
        | (go_at_call 27; (with_reducible refine (trGetFB TX _ HGQ.out HMG.out).mono ?_); rintro e x7 ⟨rfl, C9⟩; replace BA := BA.ch C9 (by simp); replace BX := BX.ch C9 (by simp); replace BS := BS.ch C9 (by simp); replace PP := PP.ch C9 (by simp); replace PQ := PQ.ch C9 (by simp); replace TX := TX.nil C9; replace CX := CX.trans C9; clear C9))
      go_wp2_with (first
        | go_big_skip
        | (go_at_call 15; (with_reducible refine (awake10 _).mono ?_); rintro e y0 ⟨rfl, C9⟩; replace BA := BA.ch C9 (by simp); replace BX := BX.ch C9 (by simp); replace BS := BS.ch C9 (by simp); replace PP := PP.ch C9 (by simp); replace PQ := PQ.ch C9 (by simp); replace TX := TX.nil C9; replace CX := CX.trans C9; clear C9)
        | (refine wpList_load_want rfl 24 _ rfl gx 0 rfl (addrC _ xs) _ BX.range Tryd.underlying24 rfl HIX.out ?_)
        | (refine wpList_load_want rfl 33 _ rfl gs 0 rfl (pfxC (true, zeros, 0)) _ BS.range Tryd.underlying33 rfl HIS.out ?_)
        | (go_at_call 26; (with_reducible refine (HRV.out _).mono ?_); rintro e y1 ⟨rfl, C9⟩; replace BA := BA.ch C9 (by simp); replace BX := BX.ch C9 (by simp); replace BS := BS.ch C9 (by simp); replace PP := PP.ch C9 (by simp); replace PQ := PQ.ch C9 (by simp); replace TX := TX.nil C9; replace CX := CX.trans C9; clear C9; have q17 := (PQ.cell 17).trans H17.out; have e0 : y1.cell? ⟨gx, 0, none⟩ = some (.bool _) := BX.cell 0; have p0 := (PP.cell 0).trans hq0; have p17 := (PP.cell 17).trans hq17)
        | (go_at_call 28; (with_reducible refine (trDelNFB T9 (true, zeros, 0) (okP_whole true).g (mget_del _)).mono ?_); rintro e y4 ⟨rfl, C9⟩; replace T9 := T9.nil C9; replace CX := CX.trans C9; clear C9)
        | (go_at_call 28; (with_reducible refine (trDelFB TX (by omega) (true, zeros, 0) (okP_whole true) (v := .bool true) rfl).mono ?_); rintro e y3 ⟨rfl, F4, T9, C9, G9⟩; replace BS := BS.ch C9 (fun h => (HF3.out _ h).1 rfl); replace CX := CX.step C9 (fun i hi => .inr (Nat.le_of_lt (HF3.out i hi).2)); clear C9 G9)
        | (go_at_call 29; (with_reducible refine (trLenFB T9).mono ?_); rintro e y5 ⟨rfl, rfl⟩))
      go_ret
      exact ⟨rfl, CX.nil_below⟩
end Go.Proofs.YtjpiekljjhgmoaaDoor
