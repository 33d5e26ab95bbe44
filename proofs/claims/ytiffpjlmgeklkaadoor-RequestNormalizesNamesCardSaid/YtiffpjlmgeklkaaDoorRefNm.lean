/- ginnelref07.ValidName: a name's labels. -/
import Derived.Test.YtiffpjlmgeklkaaDoorSplR
import Derived.Test.YtiffpjlmgeklkaaDoorHost2
namespace Go.Proofs.YtiffpjlmgeklkaaDoor
open Go.RowKit

theorem nam_bad (l : List Int) (k : Nat) (x : List Int) (hx : (splitD l)[k]? = some x) (hb : labOk x = false) : namOk l = false := by
  unfold namOk
  have : (splitD l).all labOk = false := by
    rw [List.all_eq_false]
    exact ⟨x, List.mem_of_getElem? hx, by simp [hb]⟩
  rw [this]; simp
theorem nam_dig (l : List Int) (x : List Int) (hx : (splitD l)[(splitD l).length - 1]? = some x) (hd : x.all digOk = true) : namOk l = false := by
  unfold namOk
  have h1 := lastD_eq (splitD l) [] (splitD_ne l)
  rw [hx] at h1
  rw [← Option.some.inj h1, hd]; simp
theorem nam_yes (l : List Int) (hl : l.length ≤ 253) (h : ∀ (j : Nat) (x : List Int), (splitD l)[j]? = some x → labOk x = true) (x : List Int) (hx : (splitD l)[(splitD l).length - 1]? = some x) (hd : x.all digOk = false) : namOk l = true := by
  unfold namOk
  have h1 := lastD_eq (splitD l) [] (splitD_ne l)
  rw [hx] at h1
  have h2 : (splitD l).all labOk = true := by
    rw [List.all_eq_true]
    intro y hy
    obtain ⟨j, hj⟩ := List.mem_iff_getElem?.1 hy
    exact h j y hj
  rw [← Option.some.inj h1, hd, h2]; simp [hl]
theorem all_take {p : Int → Bool} {l : List Int} {k : Nat} (h : k < l.length) : (l.take (k + 1)).all p = ((l.take k).all p && p (at_ l k)) := by
  have h2 : at_ l k = l[k] := by simp [at_, List.getD, List.getElem?_eq_getElem h]
  rw [List.take_succ_eq_append_getElem h, List.all_append, List.all_cons, List.all_nil, Bool.and_true, h2]
theorem all_bad {p : Int → Bool} {l : List Int} {k : Nat} (h : k < l.length) (hb : p (at_ l k) = false) : l.all p = false := by
  rw [List.all_eq_false]
  exact ⟨l[k], List.getElem_mem h, by
    have : at_ l k = l[k] := by simp [at_, List.getD, List.getElem?_eq_getElem h]
    rw [← this, hb]; simp⟩
theorem own_str {w : World} {B n cp k : Nat} {A : Option Addr} {e : TypeId} {ps : List ByteArray} {g : Nat} {x : ByteArray} (h : Own w B e 1 A n cp (ps.map Value.string)) (hA : A = some ⟨g, 0, none⟩) (hx : ps[k]? = some x) : w.cell? ⟨g, k, none⟩ = some (.string x) := by
  subst hA
  have hlt : k < n := by
    have h1 := h.len
    have h2 := (List.getElem?_eq_some_iff.1 hx).1
    rw [List.length_map] at h1
    omega
  obtain ⟨b, off, e1, _, hc⟩ := h.rd.2 (by omega)
  simp only [Option.some.injEq, Addr.mk.injEq] at e1
  obtain ⟨rfl, rfl, _⟩ := e1
  have := hc k (.string x) (by rw [List.getElem?_map, hx]; rfl)
  rwa [Nat.zero_add] at this
theorem emp_of {s : ByteArray} (h : s.size = 0) : s = ⟨#[]⟩ := str_ext (List.eq_nil_of_length_eq_zero (by rw [Array.length_toList]; exact h))
set_option maxRecDepth 20000 in
set_option maxHeartbeats 4000000 in
theorem refName (s : ByteArray) (hs : s.size ≤ 140737488351232) (w : World) : Calls Tryd.prog 37 #[.string s] w fun e w' => e = .returned (.bool (namOk (numsOf s))) ∧ Ch [] w w' := by
  by_cases h0 : s.size = 0
  · obtain rfl : s = ⟨#[]⟩ := emp_of h0
    have HN : namOk (numsOf ⟨#[]⟩) = false := by decide +kernel
    rw [HN]
    clear HN h0
    go_enter Tryd.func37, Tryd.ntmps37
    go_wp2_with fail
    go_ret
    exact ⟨rfl, Ch.refl _ _⟩
  have hne : s.toList.isEmpty = false := notEmp (by omega)
  by_cases h1 : s.size ≤ 253
  · have h1' : (s.size : Int) ≤ 253 := by omega
    have HSP := hid (refSplit s 46 (by omega))
    have HLN : Hid ((numsOf s).length ≤ 253) := by show _ ≤ _; rw [numsOf_length]; exact h1
    have HZ := hid (pieces_size (numsOf s))
    have HNE := hid (splitD_ne (numsOf s))
    have HLL := hid (splitC_len 46 (numsOf s))
    go_enter Tryd.func37, Tryd.ntmps37
    go_wp2_with (go_at_call 44; go_must (refine (HSP.out _).mono ?_; rintro e w1 ⟨A, cp, ps, rfl, hps, own, C1⟩))
    rw [splitC_46] at hps
    have HPS := hid hps
    have HPZ : Hid (∀ x ∈ ps, x.size ≤ 253) := fun x hx => by
      have := HZ.out (numsOf x) (by rw [← hps]; exact List.mem_map.2 ⟨x, hx, rfl⟩)
      rw [numsOf_length, numsOf_length] at this
      omega
    have hpl : 1 ≤ ps.length := by
      rcases Nat.eq_zero_or_pos ps.length with h0 | h0
      · exfalso
        apply HNE.out
        rw [← hps, List.length_eq_zero_iff.1 h0]; rfl
      · exact h0
    have hpm : ps.length ≤ 254 := by
      have h5 := HLL.out
      rw [splitC_46, ← hps, List.length_map, numsOf_length] at h5
      omega
    clear hps
    obtain ⟨g, rfl, hgw, hgl⟩ := own.form (by omega)
    have HGET (k : Nat) (x : ByteArray) (hx : ps[k]? = some x) : (splitD (numsOf s))[k]? = some (numsOf x) := by rw [← HPS.out, List.getElem?_map, hx]; rfl
    have HGT := hid HGET
    clear HGET
    have HLEN : Hid ((splitD (numsOf s)).length = ps.length) := by show _ = _; rw [← HPS.out, List.length_map]
    go_loopw [4] (fun i wr => ∃ k : Nat, k ≤ ps.length ∧ i = .int .i64 k ∧ Ch [] w wr ∧ Own wr w.heap.size 9 1 (some ⟨g, 0, none⟩) ps.length cp (ps.map Value.string) ∧ Hid (∀ j x, j < k → ps[j]? = some x → labOk (numsOf x) = true) ∧ Hid (k = ps.length → ∀ x, ps[ps.length - 1]? = some x → (numsOf x).all digOk = false)) (fun i _ => ps.length - (intOf i).toNat)
    case atStart => exact ⟨0, Nat.zero_le _, rfl, C1, own, fun j x hj => absurd hj (by omega), fun h => by omega⟩
    case round =>
      clear own C1
      obtain ⟨k, hk, rfl, C, own, hall, hlast⟩ := hrel
      by_cases hp : k < ps.length
      · clear hlast
        obtain ⟨x, hx⟩ : ∃ x, ps[k]? = some x := ⟨_, List.getElem?_eq_getElem hp⟩
        have hc := own_str own rfl hx
        have hxs : x.size ≤ 253 := HPZ.out x (List.mem_of_getElem? hx)
        have HXG := hid (HGT.out k x hx)
        have HX := hid hx
        clear hx
        by_cases hx0 : x.size = 0
        · have HB : Hid (namOk (numsOf s) = false) := nam_bad _ k _ HXG.out (labOk_def x false (by simp [hx0]) (.inr rfl))
          obtain rfl : x = ⟨#[]⟩ := emp_of hx0
          clear hx0 hxs
          go_wp2_with fail
          go_ret
          exact ⟨ret_bool HB.out.symm, C⟩
        have hxe : x.toList.isEmpty = false := notEmp (by omega)
        by_cases hx63 : x.size ≤ 63
        case neg =>
          have HB : Hid (namOk (numsOf s) = false) := nam_bad _ k _ HXG.out (labOk_def x false (by simp; omega) (.inr rfl))
          have hx63' : (63 : Int) < x.size := by omega
          go_wp2_with fail
          go_ret
          exact ⟨ret_bool HB.out.symm, C⟩
        have hx63' : (x.size : Int) ≤ 63 := by omega
        have hx0' : (0 : Int) < x.size := by omega
        have hp0 : 0 < x.size := by omega
        have hp1 : x.size - 1 < x.size := by omega
        have hpl' : 1 ≤ (x.size : Int) ∧ (x.size : Int) - 1 < x.size := by omega
        have e0 : ((x[0]'hp0).toNat : Int) = byt x 0 := byt_get hp0
        have e1 : ((x[x.size - 1]'hp1).toNat : Int) = byt x (x.size - 1) := byt_get hp1
        by_cases c0 : byt x 0 = 45
        case pos =>
          have HB : Hid (namOk (numsOf s) = false) := nam_bad _ k _ HXG.out (labOk_def x false (by simp [c0]) (.inr rfl))
          rw [c0] at e0
          clear c0
          go_wp2_with fail
          go_ret
          exact ⟨ret_bool HB.out.symm, C⟩
        by_cases c1 : byt x (x.size - 1) = 45
        case pos =>
          have HB : Hid (namOk (numsOf s) = false) := nam_bad _ k _ HXG.out (labOk_def x false (by simp [c1]) (.inr rfl))
          have hnb : (byt x 0 == 45) = false := by simpa using c0
          rw [c1] at e1
          clear c0 c1
          generalize byt x 0 = y0 at e0 hnb
          go_wp2_with fail
          go_ret
          exact ⟨ret_bool HB.out.symm, C⟩
        have HLO : Hid (∀ b, (numsOf x).all chrOk = b → labOk (numsOf x) = b) := fun b hb => labOk_def x _ (by simp [c0, c1, hx63, hb]; omega) (.inl (by omega))
        have hnb : (byt x 0 == 45) = false := by simpa using c0
        have hmb : (byt x (x.size - 1) == 45) = false := by simpa using c1
        clear c0 c1
        generalize byt x 0 = y0 at e0 hnb
        generalize byt x (x.size - 1) = y1 at e1 hmb
        go_wp2_with fail
        go_loopw [6, 7] (fun d q w2 => ∃ (b : Bool) (j : Nat), d = .bool b ∧ q = .int .i64 j ∧ j ≤ x.size ∧ Hid (((numsOf x).take j).all chrOk = true) ∧ Hid (((numsOf x).take j).all digOk = b) ∧ Ch [] w w2 ∧ Own w2 w.heap.size 9 1 (some ⟨g, 0, none⟩) ps.length cp (ps.map Value.string)) (fun _ q _ => x.size - (intOf q).toNat)
        case atStart => exact ⟨true, 0, rfl, rfl, Nat.zero_le _, rfl, rfl, C, own⟩
        case round =>
          rename World => w2
          clear own C hc
          obtain ⟨b, j, rfl, rfl, hj, HC, HD, C, own⟩ := hrel
          by_cases hjx : j < x.size
          · have hcc : ((x[j]'hjx).toNat : Int) = byt x j := byt_get hjx
            have hjl : j < (numsOf x).length := by rw [numsOf_length]; exact hjx
            have HAT : Hid (at_ (numsOf x) j = byt x j) := (byt_at hjx).symm
            have HBAD : Hid (chrOk (byt x j) = false → namOk (numsOf s) = false) := fun h => nam_bad _ k _ HXG.out (HLO.out false (all_bad hjl (by rw [HAT.out]; exact h)))
            have HC2 : Hid (chrOk (byt x j) = true → ((numsOf x).take (j + 1)).all chrOk = true) := fun h => by rw [all_take hjl, HC.out, HAT.out, h]; rfl
            have HD2 : Hid (((numsOf x).take (j + 1)).all digOk = (b && digOk (byt x j))) := by show _ = _; rw [all_take hjl, HD.out, HAT.out]
            clear HAT hjl
            generalize byt x j = c at hcc HBAD HC2 HD2
            rcases (show c < 45 ∨ c = 45 ∨ (45 < c ∧ c < 48) ∨ (48 ≤ c ∧ c ≤ 57) ∨ (57 < c ∧ c < 97) ∨ (97 ≤ c ∧ c ≤ 122) ∨ 122 < c by omega) with h | h | ⟨h, h2⟩ | ⟨h, h2⟩ | ⟨h, h2⟩ | ⟨h, h2⟩ | h
            · have HB : Hid (namOk (numsOf s) = false) := HBAD.out (by simp [chrOk]; omega)
              have n1 : ¬ (97 ≤ c) := by omega
              have n2 : ¬ (48 ≤ c) := by omega
              have n3 : (c == 45) = false := by simp; omega
              go_wp2_with fail
              go_ret
              exact ⟨ret_bool HB.out.symm, C⟩
            · subst h
              have HC3 := hid (HC2.out (by decide))
              have HD3 : Hid (((numsOf x).take (j + 1)).all digOk = false) := by show _ = _; rw [HD2.out]; simp [digOk]
              cases b
              · go_wp2_with fail
                go_roundw
                case rel => exact ⟨false, j + 1, rfl, by go_num, by omega, HC3, HD3, C, own⟩
                case measure => simp [intOf]; omega
              · go_wp2_with fail
                go_roundw
                case rel => exact ⟨false, j + 1, rfl, by go_num, by omega, HC3, HD3, C, own⟩
                case measure => simp [intOf]; omega
            · have HB : Hid (namOk (numsOf s) = false) := HBAD.out (by simp [chrOk]; omega)
              have n1 : ¬ (97 ≤ c) := by omega
              have n2 : ¬ (48 ≤ c) := by omega
              have n3 : (c == 45) = false := by simp; omega
              go_wp2_with fail
              go_ret
              exact ⟨ret_bool HB.out.symm, C⟩
            · have HC3 := hid (HC2.out (by simp [chrOk]; omega))
              have hdig : digOk c = true := by simp [digOk]; omega
              have n1 : ¬ (97 ≤ c) := by omega
              rw [hdig, Bool.and_true] at HD2
              cases b
              · go_wp2_with fail
                go_roundw
                case rel => exact ⟨false, j + 1, rfl, by go_num, by omega, HC3, HD2, C, own⟩
                case measure => simp [intOf]; omega
              · go_wp2_with fail
                go_roundw
                case rel => exact ⟨true, j + 1, rfl, by go_num, by omega, HC3, HD2, C, own⟩
                case measure => simp [intOf]; omega
            · have HB : Hid (namOk (numsOf s) = false) := HBAD.out (by simp [chrOk]; omega)
              have n1 : ¬ (97 ≤ c) := by omega
              have n2 : 48 ≤ c := by omega
              have n4 : ¬ (c ≤ 57) := by omega
              have n3 : (c == 45) = false := by simp; omega
              go_wp2_with fail
              go_ret
              exact ⟨ret_bool HB.out.symm, C⟩
            · have HC3 := hid (HC2.out (by simp [chrOk]; omega))
              have HD3 : Hid (((numsOf x).take (j + 1)).all digOk = false) := by show _ = _; rw [HD2.out]; simp [digOk]; omega
              have n2 : 48 ≤ c := by omega
              have n4 : ¬ (c ≤ 57) := by omega
              cases b
              · go_wp2_with fail
                go_roundw
                case rel => exact ⟨false, j + 1, rfl, by go_num, by omega, HC3, HD3, C, own⟩
                case measure => simp [intOf]; omega
              · go_wp2_with fail
                go_roundw
                case rel => exact ⟨false, j + 1, rfl, by go_num, by omega, HC3, HD3, C, own⟩
                case measure => simp [intOf]; omega
            · have HB : Hid (namOk (numsOf s) = false) := HBAD.out (by simp [chrOk]; omega)
              have n1 : 97 ≤ c := by omega
              have n5 : ¬ (c ≤ 122) := by omega
              have n2 : 48 ≤ c := by omega
              have n4 : ¬ (c ≤ 57) := by omega
              have n3 : (c == 45) = false := by simp; omega
              go_wp2_with fail
              go_ret
              exact ⟨ret_bool HB.out.symm, C⟩
          · obtain rfl : j = x.size := by omega
            have hfull : (numsOf x).take x.size = numsOf x := List.take_of_length_le (by rw [numsOf_length]; exact Nat.le_refl _)
            rw [hfull] at HC HD
            have HL := hid (HLO.out true HC.out)
            have HALL : Hid (∀ i y, i < k + 1 → ps[i]? = some y → labOk (numsOf y) = true) := by
              intro i y hi hy
              rcases Nat.lt_or_ge i k with h | h
              · exact hall.out i y h hy
              · obtain rfl : i = k := by omega
                rw [HX.out] at hy
                obtain rfl := Option.some.inj hy
                exact HL.out
            have hb3 : 1 ≤ (ps.length : Int) := by omega
            cases b
            · have HLA : Hid (k + 1 = ps.length → ∀ y, ps[ps.length - 1]? = some y → (numsOf y).all digOk = false) := by
                intro h y hy
                rw [← h, Nat.add_sub_cancel, HX.out] at hy
                obtain rfl := Option.some.inj hy
                exact HD.out
              go_wp2_with fail
              go_roundw
              case rel => exact ⟨k + 1, by omega, by go_num, C, own, HALL, HLA⟩
              case measure => simp [intOf]; omega
            · by_cases hkl : k + 1 = ps.length
              · have HB : Hid (namOk (numsOf s) = false) := nam_dig _ (numsOf x) (by rw [HLEN.out, ← hkl, Nat.add_sub_cancel]; exact HXG.out) HD.out
                have hke : (k : Int) = ps.length - 1 := by omega
                go_wp2_with fail
                go_ret
                exact ⟨ret_bool HB.out.symm, C⟩
              · have HLA : Hid (k + 1 = ps.length → ∀ y, ps[ps.length - 1]? = some y → (numsOf y).all digOk = false) := fun h => absurd h hkl
                have hke : ((k : Int) == ps.length - 1) = false := by simp; omega
                go_wp2_with fail
                go_roundw
                case rel => exact ⟨k + 1, by omega, by go_num, C, own, HALL, HLA⟩
                case measure => simp [intOf]; omega
      · obtain rfl : k = ps.length := by omega
        have HB : Hid (namOk (numsOf s) = true) := by
          obtain ⟨x, hx⟩ : ∃ x, ps[ps.length - 1]? = some x := ⟨_, List.getElem?_eq_getElem (by omega)⟩
          refine nam_yes _ HLN.out (fun j y hy => ?_) (numsOf x) (by rw [HLEN.out]; exact HGT.out _ _ hx) (hlast.out rfl x hx)
          rw [← HPS.out, List.getElem?_map] at hy
          cases hj : ps[j]? with
          | none => rw [hj] at hy; cases hy
          | some z =>
            rw [hj] at hy
            obtain rfl := Option.some.inj hy
            have hjl : j < ps.length := by
              rcases Nat.lt_or_ge j ps.length with h | h
              · exact h
              · rw [List.getElem?_eq_none h] at hj; cases hj
            exact hall.out j z hjl hj
        go_wp2_with fail
        go_ret
        exact ⟨ret_bool HB.out.symm, C⟩
  · have HN : namOk (numsOf s) = false := by
      unfold namOk
      rw [numsOf_length]
      simp; omega
    have h1' : (253 : Int) < s.size := by omega
    rw [HN]
    clear HN
    go_enter Tryd.func37, Tryd.ntmps37
    go_wp2_with fail
    go_ret
    exact ⟨rfl, Ch.refl _ _⟩
end Go.Proofs.YtiffpjlmgeklkaaDoor
