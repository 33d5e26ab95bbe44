/- The walk of TrieDoesNotAlias (printed by mk_lawtr3.py). -/
import Derived.Test.YtjpiekljjhgmoaaDoorLawTr0
import Derived.Test.YtjpiekljjhgmoaaDoorTrApI
import Derived.Test.YtjpiekljjhgmoaaDoorTrFgI
import Derived.Test.YtjpiekljjhgmoaaDoorTrGp
import Derived.Test.YtjpiekljjhgmoaaDoorMD
import Derived.Test.YtjpiekljjhgmoaaDoorRows
import Derived.Deep.DeepCutAuto
import Derived.Deep.CutRange
namespace Go.Proofs.YtjpiekljjhgmoaaDoor
open Go.ChangeShapes Go.WideShapes Go.ChangeAt Go.RowKit

section
variable {H : Type} {enc : TypeId × Value → H} {W : World}
theorem Arg.pfxs {v : Value} {d : DataW H} (h : Arg enc Tryd.prog W 41 v d) : ∃ A n cap, ∃ l : List Pfx, v = .slice A n cap ∧ n ≤ cap ∧ cap ≤ maxLen ∧ Rd W W.heap.size 18 A n (l.flatMap pfxC) ∧ l.length = n ∧ ∀ x ∈ l, GoodA x.2.1 := by
  obtain ⟨A, len, cap, l, h1, h2, h3, h4, h5, h6, h7⟩ := h.rows (f := pfxC) (G := fun x => GoodA x.2.1) (size := 18) Tryd.underlying41 (by kernel_rfl) (by omega) (fun c hc => by
    obtain ⟨p, rfl, hg, _⟩ := hc.pfx
    exact ⟨p, rfl, hg⟩) (fun x hx => pfx_len hx.1)
  exact ⟨A, len, cap, l, h1, h2, h3, h5, h6, h7⟩
end
theorem mK_len (m : KM) (six : Bool) (bs : List Int) : (mK m six bs).length ≤ 129 := by
  unfold mK
  split
  · refine Nat.le_trans (List.length_filterMap_le _ _) ?_
    rw [List.length_range]
    cases six <;> decide
  · simp
set_option maxRecDepth 100000 in
set_option maxHeartbeats 16000000 in
theorem trieDoesNotAlias_came {H : Type} {enc : TypeId × Value → H} (W : World) (args : Array Value) (ds : List (DataW H)) (_ : laidMetH Tryd.prog Rows.trieDoesNotAliasRow.laid W) (h : Came enc Tryd.prog Tryd.f4 W args ds) :
    Calls Tryd.prog 4 args W fun e W' => e = .returned (.bool true) ∧ Below W.heap.size W W' := by
  obtain ⟨v0, d0, rfl, a0⟩ := h.args1 rfl
  obtain ⟨A, n, cap, l, rfl, hn1, hn2, hrl, hnl, hgl⟩ := a0.pfxs
  clear h a0
  unfold maxLen at hn2
  have hrE := hrl.rangeE (fun p hp => pfx_len (hgl p hp).1) (by decide)
  have HRE := hid hrE.2
  have HGL := hid hgl
  clear hrl hgl hrE
  have CX := Ch.refl [] W
  go_enter Tryd.func4, Tryd.ntmps4
  go_upto_region 5 with (first
    | go_big_skip
    | (go_at_call 7; (with_reducible refine (trNewFI _).mono ?_); rintro e w2 ⟨rfl, UX, C9⟩; replace TX := TX.nil C9; replace CX := CX.trans C9; have hlt2 := UX.glt; have sz2 := C9.size; clear C9)
    | (go_at_call 7; (with_reducible refine (trNewFI _).mono ?_); rintro e w1 ⟨rfl, TX, C9⟩; replace CX := CX.trans C9; have hlt1 := TX.glt; have sz1 := C9.size; clear C9))
  have hg12 : W.heap.size < w1.heap.size := hlt1
  generalize hg1 : W.heap.size = g1 at TX hg12 ⊢
  generalize hg2 : w1.heap.size = g2 at UX hg12 ⊢
  have HG1 : Hid (W.heap.size = g1) := hg1
  clear hg1 hg2 hlt1 hlt2 sz1 sz2
  go_wp2_with fail
  go_loopw [5] (fun i wr => ∃ (k : Nat) (m : KM) (F : List Nat) (x : List (Pfx × Value)), i = .int .i64 k ∧ k ≤ n ∧ k ≤ 40 ∧ x.length ≤ k ∧ Hid (Ents m x) ∧ TrMI wr g1 m (x.length : Int) F ∧ TrMI wr g2 (fun _ => none) 0 [g2] ∧ Hid (∀ b ∈ F, g1 ≤ b ∧ b ≠ g2) ∧ Ch [] W wr) (fun i _ => 40 - (intOf i).toNat)
  case atStart => exact ⟨0, _, [g1], [], rfl, by omega, by omega, by simp, Ents.nil, TX, UX, fun b hb => by rw [List.mem_singleton] at hb; omega, CX⟩
  case round =>
    clear TX UX CX
    obtain ⟨k, m, F, x, rfl, hk, hk4, hxl, HE, TX, UX, HF, CX⟩ := hrel
    by_cases hlt : k < n
    · by_cases hl4 : k < 40
      · obtain ⟨b, off, rfl, hb, hr⟩ := HRE.out (by omega)
        obtain ⟨p, hp⟩ : ∃ p, l[k]? = some p := ⟨_, List.getElem?_eq_getElem (by omega)⟩
        have hgp := HGL.out p (List.mem_of_getElem? hp)
        have HR : Hid (wr.rangeAt b (off + k * 18) (pfxC p)) := fun j v hj => (CX.cell (p := ⟨b, off + k * 18 + j, none⟩) hb (by simp)).trans (hr k p hp j v hj)
        have HIP := hid (pfx_inf (p := p) hgp.1)
        have HGP := hid (genPfx p hgp)
        have HOK := hid (genP_ok hgp)
        generalize genP p = q at HGP HOK
        have hi0 : (0 : Int) ≤ k := by omega
        have hi1 : (k : Int) < n := by omega
        have hi2 : (k : Int) < 40 := by omega
        have hx6 : 0 ≤ (x.length : Int) ∧ (x.length : Int) ≤ 1000000 := by omega
        clear hp hgp hr
        go_wp2_with (first
          | go_big_skip
          | (refine wpList_load_want rfl 33 _ rfl b (off + k * 18) rfl (pfxC p) _ HR.out Tryd.underlying33 rfl HIP.out ?_)
          | (go_at_call 17; (with_reducible refine (HGP.out _).mono ?_); rintro e w3 ⟨rfl, C9⟩; replace TX := TX.nil C9; replace UX := UX.nil C9; replace CX := CX.trans C9; clear C9)
          | (go_at_call 12; (with_reducible refine (trInsFI TX hx6 q HOK.out k).mono ?_); rintro e w4 ⟨rfl, F', T4, C4, G4⟩))
        go_roundw
        case rel =>
          have hpl := HE.out.put_len HOK.out (.int .i64 k) (n := (x.length : Int)) rfl
          have hle : (putE x q (.int .i64 k)).length ≤ x.length + 1 := by
            split at hpl <;> omega
          rw [hpl] at T4
          refine ⟨k + 1, _, F', putE x q (.int .i64 k), by go_num, by omega, by omega, by omega, HE.out.put HOK.out _, T4, UX.ch C4 (fun b hb h => by rw [List.mem_singleton] at hb; exact (HF.out b h).2 hb), fun b hb => ?_, CX.step C4 (fun i hi => .inr (by have := (HF.out i hi).1; have := HG1.out; omega))⟩
          have := UX.glt
          have := CX.size
          have := HG1.out
          rcases G4 b hb with h | h
          · exact HF.out b h
          · exact ⟨by omega, by omega⟩
        case measure => simp [intOf]; omega
      · obtain rfl : k = 40 := by omega
        have hi1 : ((40 : Nat) : Int) < n := by omega
        go_upto_region 8 with fail
        obtain ⟨N, hN⟩ : ∃ N, x.length = N := ⟨_, rfl⟩
        have hNl : N ≤ 40 := by omega
        have HXL : Hid ((x.map (·.1)).length = N) := by show _ = _; rw [List.length_map]; exact hN
        have HXF : Hid ((x.flatMap fun e => pfxC e.1) = (x.map (·.1)).flatMap pfxC) := by show _ = _; rw [List.flatMap_map]
        have HX16 : Hid (∀ p ∈ x.map (·.1), OkP p) := fun p hp => by
          obtain ⟨e, he, rfl⟩ := List.mem_map.1 hp
          exact HE.out.ok e he
        have HPR : Hid (∀ w F', TrMI w g1 m (N : Int) F' → Calls Tryd.prog 18 #[.pointer (some ⟨g1, 0, none⟩)] w fun e w' => ∃ A' c', e = .returned (.slice A' N c') ∧ Own w' w.heap.size 33 18 A' N c' ((x.map (·.1)).flatMap pfxC) ∧ Ch [] w w') := fun w F' h => by
          have := trPreFI h HE.out (by omega)
          rw [hN, HXF.out] at this
          exact this
        have HPU : Hid (∀ w F', TrMI w g2 (fun _ => none) 0 F' → Calls Tryd.prog 18 #[.pointer (some ⟨g2, 0, none⟩)] w fun e w' => ∃ A' c', e = .returned (.slice A' 0 c') ∧ Ch [] w w') := fun w F' h =>
          (trPreFI h Ents.nil (by simp)).mono fun e w' ⟨A, c, h1, h2, h3⟩ => ⟨A, c, h1, h3⟩
        rw [hN] at TX
        clear hN HE
        generalize x.map (·.1) = L at HXL HX16 HPR
        have HX17 : Hid (∀ p ∈ L, p.2.1.length = 16) := fun p hp => (HX16.out p hp).g.1
        go_upto_region 9 with (first
          | (go_at_call 18; (with_reducible refine (HPR.out _ _ TX).mono ?_); rintro e w5 ⟨A1, c1, rfl, own1, C9⟩; replace TX := TX.nil C9; replace UX := UX.nil C9; replace CX := CX.trans C9; clear C9)
          | (go_at_call 19; (with_reducible refine (trLenFI TX).mono ?_); rintro e w6 ⟨rfl, rfl⟩))
        have ob1 := own1.blks
        have rd1 := own1.rd
        have b1 : w5.heap.size ≤ w5.heap.size := Nat.le_refl _
        generalize hs1 : w5.heap.size = s1 at ob1 rd1 b1
        go_upto_region 10 with (first
          | (go_at_call 18; (with_reducible refine (HPR.out _ _ TX).mono ?_); rintro e w7 ⟨A2, c2, rfl, own2, C9⟩; have sz7 := C9.size; rw [hs1] at own2 sz7; have DX := C9)
          | (go_at_call 20; (with_reducible refine (ovrPOwn _ A2 N c2 s1 33 _ own2 (by omega)).mono ?_); rintro e w8 ⟨rfl, C9⟩; have D9 := DX.step C9 (fun i hi => .inr (by have := (own2.blks i hi).1; omega)); clear C9))
        clear DX own2
        replace TX := TX.nil D9
        replace UX := UX.nil D9
        replace CX := CX.trans D9
        replace rd1 := rd1.ch D9 (by omega) (by simp)
        replace b1 : s1 ≤ w8.heap.size := Nat.le_trans b1 (by have := D9.size; omega)
        clear D9
        rcases Nat.eq_zero_or_pos N with h0 | hpos
        · have hNi : ¬ (N : Int) > 0 := by omega
          go_upto_region 12 with fail
          clear hNi h0
          go_wp2_with (first
            | go_big_skip
            | (go_at_call 15; (with_reducible refine (awake10 _).mono ?_); rintro e y0 ⟨rfl, C9⟩; replace TX := TX.nil C9; replace UX := UX.nil C9; replace CX := CX.trans C9; replace rd1 := rd1.ch C9 b1 (by simp); replace b1 := Nat.le_trans b1 C9.size; clear C9)
            | (go_at_call 18; (with_reducible refine (HPU.out _ _ UX).mono ?_); rintro e y4 ⟨A5, c5, rfl, C9⟩; replace CX := CX.trans C9)
            | (go_at_call 18; (with_reducible refine (HPR.out _ _ TX).mono ?_); rintro e y1 ⟨A4, c4, rfl, own4, C9⟩; replace UX := UX.nil C9; replace CX := CX.trans C9; replace rd1 := rd1.ch C9 b1 (by simp); replace b1 := Nat.le_trans b1 C9.size; clear C9)
            | (go_at_call 21; (with_reducible refine (eqEqP _ A4 _ N c4 _ _ s1 L own4.rd rd1 (Nat.le_refl _) b1 (by omega) HX17.out).mono ?_); rintro e y2 ⟨rfl, C9⟩; replace UX := UX.nil C9; replace CX := CX.trans C9; clear C9)
            | (go_at_call 19; (with_reducible refine (trLenFI UX).mono ?_); rintro e y3 ⟨rfl, rfl⟩))
          go_ret
          exact ⟨rfl, CX.nil_below⟩
        · have hNi : (N : Int) > 0 := by omega
          obtain ⟨p0, hp0⟩ : ∃ p0, L[0]? = some p0 := ⟨_, List.getElem?_eq_getElem (by rw [HXL.out]; exact hpos)⟩
          have hok0 := HX16.out p0 (List.mem_of_getElem? hp0)
          have hrr := rd1.rangeE (fun p hp => pfx_len (HX16.out p hp).g.1) (by decide)
          obtain ⟨b, off, hA1, hb, hr⟩ := hrr.2 hpos
          have hr0 := hr 0 p0 hp0
          rw [Nat.zero_mul, Nat.add_zero] at hr0
          have HAR : Hid (w8.rangeAt b off (addrC p0.1 p0.2.1)) := fun j v hj => hr0 j v (by have := pfx_addr (p := p0) hj; rwa [Nat.zero_add] at this)
          have HIA := hid (addr_inf (six := p0.1) hok0.g.1)
          have HG0 := hid hok0.g
          subst hA1
          clear hp0 hok0 hrr hr hr0
          go_upto_region 12 with (first
            | (refine wpList_load_want rfl 24 _ rfl b off rfl (addrC p0.1 p0.2.1) _ HAR.out Tryd.underlying24 rfl HIA.out ?_)
            | (go_at_call 16; (with_reducible refine (trMtsFI TX HG0.out rfl).mono ?_); rintro e w9 ⟨A3, c3, rfl, own3, C9⟩; have DX := C9; have hl3 := mK_len m p0.1 p0.2.1)
            | (go_at_call 20; (with_reducible refine (ovrPOwn _ A3 _ c3 _ 33 _ own3 (by omega)).mono ?_); rintro e w10 ⟨rfl, C9⟩; have D9 := DX.step C9 (fun i hi => .inr (own3.blks i hi).1); clear C9))
          clear DX own3 HAR
          replace TX := TX.nil D9
          replace UX := UX.nil D9
          replace CX := CX.trans D9
          replace rd1 := rd1.ch D9 (by omega) (by simp)
          replace b1 : s1 ≤ w10.heap.size := Nat.le_trans b1 D9.size
          clear D9
          go_wp2_with (first
            | go_big_skip
            | (go_at_call 15; (with_reducible refine (awake10 _).mono ?_); rintro e y0 ⟨rfl, C9⟩; replace TX := TX.nil C9; replace UX := UX.nil C9; replace CX := CX.trans C9; replace rd1 := rd1.ch C9 b1 (by simp); replace b1 := Nat.le_trans b1 C9.size; clear C9)
            | (go_at_call 18; (with_reducible refine (HPU.out _ _ UX).mono ?_); rintro e y4 ⟨A5, c5, rfl, C9⟩; replace CX := CX.trans C9)
            | (go_at_call 18; (with_reducible refine (HPR.out _ _ TX).mono ?_); rintro e y1 ⟨A4, c4, rfl, own4, C9⟩; replace UX := UX.nil C9; replace CX := CX.trans C9; replace rd1 := rd1.ch C9 b1 (by simp); replace b1 := Nat.le_trans b1 C9.size; clear C9)
            | (go_at_call 21; (with_reducible refine (eqEqP _ A4 _ N c4 _ _ s1 L own4.rd rd1 (Nat.le_refl _) b1 (by omega) HX17.out).mono ?_); rintro e y2 ⟨rfl, C9⟩; replace UX := UX.nil C9; replace CX := CX.trans C9; clear C9)
            | (go_at_call 19; (with_reducible refine (trLenFI UX).mono ?_); rintro e y3 ⟨rfl, rfl⟩))
          go_ret
          exact ⟨rfl, CX.nil_below⟩
    · obtain rfl : k = n := by omega
      go_upto_region 8 with fail
      obtain ⟨N, hN⟩ : ∃ N, x.length = N := ⟨_, rfl⟩
      have hNl : N ≤ 40 := by omega
      have HXL : Hid ((x.map (·.1)).length = N) := by show _ = _; rw [List.length_map]; exact hN
      have HXF : Hid ((x.flatMap fun e => pfxC e.1) = (x.map (·.1)).flatMap pfxC) := by show _ = _; rw [List.flatMap_map]
      have HX16 : Hid (∀ p ∈ x.map (·.1), OkP p) := fun p hp => by
        obtain ⟨e, he, rfl⟩ := List.mem_map.1 hp
        exact HE.out.ok e he
      have HPR : Hid (∀ w F', TrMI w g1 m (N : Int) F' → Calls Tryd.prog 18 #[.pointer (some ⟨g1, 0, none⟩)] w fun e w' => ∃ A' c', e = .returned (.slice A' N c') ∧ Own w' w.heap.size 33 18 A' N c' ((x.map (·.1)).flatMap pfxC) ∧ Ch [] w w') := fun w F' h => by
        have := trPreFI h HE.out (by omega)
        rw [hN, HXF.out] at this
        exact this
      have HPU : Hid (∀ w F', TrMI w g2 (fun _ => none) 0 F' → Calls Tryd.prog 18 #[.pointer (some ⟨g2, 0, none⟩)] w fun e w' => ∃ A' c', e = .returned (.slice A' 0 c') ∧ Ch [] w w') := fun w F' h =>
        (trPreFI h Ents.nil (by simp)).mono fun e w' ⟨A, c, h1, h2, h3⟩ => ⟨A, c, h1, h3⟩
      rw [hN] at TX
      clear hN HE
      generalize x.map (·.1) = L at HXL HX16 HPR
      have HX17 : Hid (∀ p ∈ L, p.2.1.length = 16) := fun p hp => (HX16.out p hp).g.1
      go_upto_region 9 with (first
        | (go_at_call 18; (with_reducible refine (HPR.out _ _ TX).mono ?_); rintro e w5 ⟨A1, c1, rfl, own1, C9⟩; replace TX := TX.nil C9; replace UX := UX.nil C9; replace CX := CX.trans C9; clear C9)
        | (go_at_call 19; (with_reducible refine (trLenFI TX).mono ?_); rintro e w6 ⟨rfl, rfl⟩))
      have ob1 := own1.blks
      have rd1 := own1.rd
      have b1 : w5.heap.size ≤ w5.heap.size := Nat.le_refl _
      generalize hs1 : w5.heap.size = s1 at ob1 rd1 b1
      go_upto_region 10 with (first
        | (go_at_call 18; (with_reducible refine (HPR.out _ _ TX).mono ?_); rintro e w7 ⟨A2, c2, rfl, own2, C9⟩; have sz7 := C9.size; rw [hs1] at own2 sz7; have DX := C9)
        | (go_at_call 20; (with_reducible refine (ovrPOwn _ A2 N c2 s1 33 _ own2 (by omega)).mono ?_); rintro e w8 ⟨rfl, C9⟩; have D9 := DX.step C9 (fun i hi => .inr (by have := (own2.blks i hi).1; omega)); clear C9))
      clear DX own2
      replace TX := TX.nil D9
      replace UX := UX.nil D9
      replace CX := CX.trans D9
      replace rd1 := rd1.ch D9 (by omega) (by simp)
      replace b1 : s1 ≤ w8.heap.size := Nat.le_trans b1 (by have := D9.size; omega)
      clear D9
      rcases Nat.eq_zero_or_pos N with h0 | hpos
      · have hNi : ¬ (N : Int) > 0 := by omega
        go_upto_region 12 with fail
        clear hNi h0
        go_wp2_with (first
          | go_big_skip
          | (go_at_call 15; (with_reducible refine (awake10 _).mono ?_); rintro e y0 ⟨rfl, C9⟩; replace TX := TX.nil C9; replace UX := UX.nil C9; replace CX := CX.trans C9; replace rd1 := rd1.ch C9 b1 (by simp); replace b1 := Nat.le_trans b1 C9.size; clear C9)
          | (go_at_call 18; (with_reducible refine (HPU.out _ _ UX).mono ?_); rintro e y4 ⟨A5, c5, rfl, C9⟩; replace CX := CX.trans C9)
          | (go_at_call 18; (with_reducible refine (HPR.out _ _ TX).mono ?_); rintro e y1 ⟨A4, c4, rfl, own4, C9⟩; replace UX := UX.nil C9; replace CX := CX.trans C9; replace rd1 := rd1.ch C9 b1 (by simp); replace b1 := Nat.le_trans b1 C9.size; clear C9)
          | (go_at_call 21; (with_reducible refine (eqEqP _ A4 _ N c4 _ _ s1 L own4.rd rd1 (Nat.le_refl _) b1 (by omega) HX17.out).mono ?_); rintro e y2 ⟨rfl, C9⟩; replace UX := UX.nil C9; replace CX := CX.trans C9; clear C9)
          | (go_at_call 19; (with_reducible refine (trLenFI UX).mono ?_); rintro e y3 ⟨rfl, rfl⟩))
        go_ret
        exact ⟨rfl, CX.nil_below⟩
      · have hNi : (N : Int) > 0 := by omega
        obtain ⟨p0, hp0⟩ : ∃ p0, L[0]? = some p0 := ⟨_, List.getElem?_eq_getElem (by rw [HXL.out]; exact hpos)⟩
        have hok0 := HX16.out p0 (List.mem_of_getElem? hp0)
        have hrr := rd1.rangeE (fun p hp => pfx_len (HX16.out p hp).g.1) (by decide)
        obtain ⟨b, off, hA1, hb, hr⟩ := hrr.2 hpos
        have hr0 := hr 0 p0 hp0
        rw [Nat.zero_mul, Nat.add_zero] at hr0
        have HAR : Hid (w8.rangeAt b off (addrC p0.1 p0.2.1)) := fun j v hj => hr0 j v (by have := pfx_addr (p := p0) hj; rwa [Nat.zero_add] at this)
        have HIA := hid (addr_inf (six := p0.1) hok0.g.1)
        have HG0 := hid hok0.g
        subst hA1
        clear hp0 hok0 hrr hr hr0
        go_upto_region 12 with (first
          | (refine wpList_load_want rfl 24 _ rfl b off rfl (addrC p0.1 p0.2.1) _ HAR.out Tryd.underlying24 rfl HIA.out ?_)
          | (go_at_call 16; (with_reducible refine (trMtsFI TX HG0.out rfl).mono ?_); rintro e w9 ⟨A3, c3, rfl, own3, C9⟩; have DX := C9; have hl3 := mK_len m p0.1 p0.2.1)
          | (go_at_call 20; (with_reducible refine (ovrPOwn _ A3 _ c3 _ 33 _ own3 (by omega)).mono ?_); rintro e w10 ⟨rfl, C9⟩; have D9 := DX.step C9 (fun i hi => .inr (own3.blks i hi).1); clear C9))
        clear DX own3 HAR
        replace TX := TX.nil D9
        replace UX := UX.nil D9
        replace CX := CX.trans D9
        replace rd1 := rd1.ch D9 (by omega) (by simp)
        replace b1 : s1 ≤ w10.heap.size := Nat.le_trans b1 D9.size
        clear D9
        go_wp2_with (first
          | go_big_skip
          | (go_at_call 15; (with_reducible refine (awake10 _).mono ?_); rintro e y0 ⟨rfl, C9⟩; replace TX := TX.nil C9; replace UX := UX.nil C9; replace CX := CX.trans C9; replace rd1 := rd1.ch C9 b1 (by simp); replace b1 := Nat.le_trans b1 C9.size; clear C9)
          | (go_at_call 18; (with_reducible refine (HPU.out _ _ UX).mono ?_); rintro e y4 ⟨A5, c5, rfl, C9⟩; replace CX := CX.trans C9)
          | (go_at_call 18; (with_reducible refine (HPR.out _ _ TX).mono ?_); rintro e y1 ⟨A4, c4, rfl, own4, C9⟩; replace UX := UX.nil C9; replace CX := CX.trans C9; replace rd1 := rd1.ch C9 b1 (by simp); replace b1 := Nat.le_trans b1 C9.size; clear C9)
          | (go_at_call 21; (with_reducible refine (eqEqP _ A4 _ N c4 _ _ s1 L own4.rd rd1 (Nat.le_refl _) b1 (by omega) HX17.out).mono ?_); rintro e y2 ⟨rfl, C9⟩; replace UX := UX.nil C9; replace CX := CX.trans C9; clear C9)
          | (go_at_call 19; (with_reducible refine (trLenFI UX).mono ?_); rintro e y3 ⟨rfl, rfl⟩))
        go_ret
        exact ⟨rfl, CX.nil_below⟩
end Go.Proofs.YtjpiekljjhgmoaaDoor
