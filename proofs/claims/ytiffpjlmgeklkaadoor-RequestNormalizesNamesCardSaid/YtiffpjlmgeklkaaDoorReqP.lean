/- request.Parse. -/
import Derived.Test.YtiffpjlmgeklkaaDoorReqS
import Derived.Test.YtiffpjlmgeklkaaDoorTgtEq
namespace Go.Proofs.YtiffpjlmgeklkaaDoor
open Go.RowKit

section
variable {P : Program} {w : World} {g : Nat} {t : TypeId} {cs : List Value}
theorem results_rowF4 {fn : Func} {p u v x : Tmp} {ty : TypeId} (h : fn.results = #[.cell p ty, .tmp x, .tmp u, .tmp v]) (tmps : Array Value) (d : TypeDesc)
    (hp : tmps.getD p undef = .pointer (some ⟨g, 0, none⟩)) (hg : Blk w g t cs) (hu : P.underlying ty = some d) (hd : (match d with | .struct _ | .array _ _ => true | _ => false) = true) (hi : (P.info? ty).map (·.size) = some cs.length) :
    (results fn tmps).run P w = .ok (.tuple #[.agg cs.toArray, tmps.getD x undef, tmps.getD u undef, tmps.getD v undef]) w := by
  have hp' : tmps[p]?.getD undef = .pointer (some ⟨g, 0, none⟩) := by simpa using hp
  simp [results, h, hp', asAddr, Result.andThen, run_loadVar_row w g t ty cs.toArray (0, 0) d hg hu hd (by simpa using hi)]
end

theorem knownT (c : Int) (w : World) : Calls Tryd.prog 35 #[.int .u8 c] w fun e w' => e = .returned (.bool (decide (c = 1 ∨ c = 3 ∨ c = 4))) ∧ w = w' := by
  by_cases h1 : c = 1
  · subst h1
    go_enter Tryd.func35, Tryd.ntmps35
    go_wp2_with fail
    go_ret
    exact ⟨rfl, rfl⟩
  by_cases h3 : c = 3
  · subst h3
    go_enter Tryd.func35, Tryd.ntmps35
    go_wp2_with fail
    go_ret
    exact ⟨rfl, rfl⟩
  by_cases h4 : c = 4
  · subst h4
    go_enter Tryd.func35, Tryd.ntmps35
    go_wp2_with fail
    go_ret
    exact ⟨rfl, rfl⟩
  have hd : decide (c = 1 ∨ c = 3 ∨ c = 4) = false := by simp [h1, h3, h4]
  rw [hd]
  have d1 : (c == 1) = false := by simpa using h1
  have d3 : (c == 3) = false := by simpa using h3
  have d4 : (c == 4) = false := by simpa using h4
  clear h1 h3 h4 hd
  go_enter Tryd.func35, Tryd.ntmps35
  go_wp2_with fail
  go_ret
  exact ⟨rfl, rfl⟩

theorem tgt_port (nm : ByteArray) (six : Bool) (bs : List Int) (port : Int) (h : bs.length = 16) : (tgtC (nm, six, bs, port))[18]? = some (.int .i64 port) := by
  obtain ⟨_, _, _, _, _, _, _, _, _, _, _, _, _, _, _, _, rfl⟩ := len16 h
  rfl
theorem parse_nm (l : List Int) (hb : ∀ x ∈ l, 0 ≤ x ∧ x ≤ 255) : (parseT l).1.1.size ≤ 255 := by
  have h0 : (⟨#[]⟩ : ByteArray).size ≤ 255 := by decide
  match l, hb with
  | [], _ => exact h0
  | k :: r, hb =>
    rw [parseT]
    by_cases h1 : k = 1
    · rw [if_pos h1]; by_cases h : r.length < 6
      · rw [if_pos h]; exact h0
      · rw [if_neg h]; exact h0
    · rw [if_neg h1]
      by_cases h4 : k = 4
      · rw [if_pos h4]; by_cases h : r.length < 18
        · rw [if_pos h]; exact h0
        · rw [if_neg h]; exact h0
      · rw [if_neg h4]
        by_cases h3 : k = 3
        · rw [if_pos h3]
          match r, hb with
          | [], _ => exact h0
          | n :: q, hb =>
            have hn := hb n (by simp)
            rw [parse3]
            by_cases h : n = 0
            · rw [if_pos h]; exact h0
            · rw [if_neg h]; by_cases h2 : q.length < n.toNat + 2
              · rw [if_pos h2]; exact h0
              · rw [if_neg h2]
                show (strOfNums (q.take n.toNat)).size ≤ 255
                rw [strOf_size, List.length_take]
                omega
        · rw [if_neg h3]; exact h0
theorem emp0 {s : ByteArray} (h : s.size = 0) : s = ⟨#[]⟩ := str_ext (List.eq_nil_of_length_eq_zero (by rw [Array.length_toList]; exact h))
theorem nam_pos {s : ByteArray} (h : namOk (numsOf s) = true) : 0 < s.size := by
  rcases Nat.eq_zero_or_pos s.size with h0 | h0
  · exfalso
    have : numsOf s = [] := List.length_eq_zero_iff.1 (by rw [numsOf_length]; exact h0)
    rw [this] at h
    revert h
    decide
  · exact h0

set_option maxRecDepth 100000 in
set_option maxHeartbeats 8000000 in
theorem reqP (s : ByteArray) (hs : s.size ≤ 1000000000000000) (w : World) : Calls Tryd.prog 24 #[.string s] w fun e w' => e = .returned (rqV (parseQ (numsOf s))) ∧ Ch [] w w' := by
  have TI : Hid ((Tryd.prog.info? 26).map (·.size) = some (tgtC tgt0).length) := tgt_inf rfl
  have hcall := parseTP (s.extract 3 s.size) (by rw [ByteArray.size_extract]; omega)
  rw [nums_tail] at hcall
  have hl16 := parse_tgt16 ((numsOf s).drop 3)
  have hbd := parse_bound ((numsOf s).drop 3) (fun x hx => nums_bytes s x (List.mem_of_mem_drop hx))
  have hnm := parse_nm ((numsOf s).drop 3) (fun x hx => nums_bytes s x (List.mem_of_mem_drop hx))
  have HMAL0 := hid (rq_mal0 s)
  have HMAL2 := hid (rq_mal2 s)
  have HINC := hid (rq_inc s)
  have HKIND := hid (rq_kind s)
  have hno (h h5 h0 hk) := rq_no s h h5 h0 hk _ rfl
  have hcmd (h h5 h0 hk) := rq_cmd s h h5 h0 hk _ rfl
  have hname (h h5 h0 hk) := rq_name s h h5 h0 hk _ rfl
  have hport (h h5 h0 hk) := rq_port s h h5 h0 hk _ rfl
  have hok (h h5 h0 hk) := rq_ok s h h5 h0 hk _ rfl
  generalize parseT ((numsOf s).drop 3) = r at hcall hl16 hno hcmd hname hport hok hbd hnm
  obtain ⟨⟨nm, six, bs, port⟩, n, st⟩ := r
  have hbd1 : 0 ≤ n := hbd.1
  have hbd2 : n ≤ 259 := hbd.2
  clear hbd
  have hcall2 : ∀ w, Calls Tryd.prog 14 #[.string (s.extract 3 s.size)] w fun e w' => e = .returned (.tuple #[.agg (tgtC (nm, six, bs, port)).toArray, .int .i64 n, .int .i64 st]) ∧ Ch [] w w' := hcall
  have HC := hid hcall2
  have HI := hid (tgt_inf (t := (nm, six, bs, port)) hl16)
  have HL := hid hl16
  have HNO := hid hno
  have HCMD := hid hcmd
  have HNAME := hid hname
  have HPORT := hid hport
  have HOK := hid hok
  have hnm2 : nm.size ≤ 255 := hnm
  clear hnm hno hcmd hname hport hok hcall hcall2 hl16
  go_enter Tryd.func24, Tryd.ntmps24
  go_wp2_with fail
  obtain ⟨g, hg⟩ : ∃ g, w.heap.size = g := ⟨_, rfl⟩
  go_loopw [12] (fun i wr => ∃ k : Nat, k ≤ 3 ∧ i = .int .i64 k ∧ Hid (0 < k → 0 < s.size → byt s 0 = 5) ∧ Hid (2 < k → 3 ≤ s.size → byt s 2 = 0) ∧ Blk wr g 26 (tgtC tgt0) ∧ Blk wr (g + 1) 5 [.int .u8 5, .int .u8 0, .int .u8 0] ∧ Ch [] w wr) (fun i _ => 3 - (intOf i).toNat)
  case atStart => exact ⟨0, by omega, rfl, fun h => absurd h (by omega), fun h => absurd h (by omega), (Blk.newAt _ _ _ hg).alloc _, Blk.newAt _ _ _ (by simp [hg]), ((Ch.refl _ _).alloc _).alloc _⟩
  case round =>
    obtain ⟨k, hk, rfl, H0, H2, B1, B2, CC⟩ := hrel
    have hgl := B1.lt
    have hgl2 := B2.lt
    rw [hg]
    rcases (show k = 0 ∨ k = 1 ∨ k = 2 ∨ k = 3 by omega) with rfl | rfl | rfl | rfl
    · have c0 : wr.cell? ⟨g + 1, 0, none⟩ = some (.int .u8 5) := B2.cell 0
      by_cases hp : 0 < s.size
      · have hpi : (0 : Int) < s.size := by omega
        have e0 : ((s[0]'hp).toNat : Int) = byt s 0 := byt_get hp
        by_cases k5 : byt s 0 = 5
        · have H0' : Hid (0 < 1 → 0 < s.size → byt s 0 = 5) := fun _ _ => k5
          rw [k5] at e0
          clear k5
          go_wp2_with fail
          go_roundw
          case rel => exact ⟨1, by omega, by go_num, H0', fun h => absurd h (by omega), B1, B2, CC⟩
          case measure => simp [intOf]
        · have HP := hid (HMAL0.out hp k5)
          have d5 : (byt s 0 == 5) = false := by simpa using k5
          have d5' : (byt s 0 != 5) = true := by simpa using k5
          clear k5
          generalize byt s 0 = x at e0 d5 d5' H0
          go_wp2_with (first
            | (refine wpList_loadB rfl 26 _ rfl g 26 (tgtC tgt0) _ rfl B1 Tryd.underlying26 rfl TI.out ?_)
            | (refine wpList_storeB rfl 26 _ _ rfl g 26 (tgtC tgt0) (tgtC tgt0) rfl rfl B1 TI.out rfl rfl ?_; intro w5 B5 C5 Z5))
          try simp only [Exit.inBlock, Exit.then]
          refine bodyPost_ret (results_rowF4 rfl _ _ rfl B5 Tryd.underlying26 rfl TI.out) rfl ?_
          exact ⟨by rw [HP.out]; rfl, CC.step C5 (fun i hi => .inr (by simp at hi; omega))⟩
      · have hpi : ¬ (0 : Int) < s.size := by omega
        go_wp2_with fail
        go_roundw
        case rel => exact ⟨1, by omega, by go_num, fun _ h => absurd h hp, fun h => absurd h (by omega), B1, B2, CC⟩
        case measure => simp [intOf]
    · have c0 : wr.cell? ⟨g + 1, 1, none⟩ = some (.int .u8 0) := B2.cell 1
      by_cases hp : 1 < s.size
      · have hpi : (1 : Int) < s.size := by omega
        go_wp2_with fail
        go_roundw
        case rel => exact ⟨2, by omega, by go_num, fun _ => H0.out (by omega), fun h => absurd h (by omega), B1, B2, CC⟩
        case measure => simp [intOf]
      · have hpi : ¬ (1 : Int) < s.size := by omega
        go_wp2_with fail
        go_roundw
        case rel => exact ⟨2, by omega, by go_num, fun _ => H0.out (by omega), fun h => absurd h (by omega), B1, B2, CC⟩
        case measure => simp [intOf]
    · have c0 : wr.cell? ⟨g + 1, 2, none⟩ = some (.int .u8 0) := B2.cell 2
      by_cases hp : 2 < s.size
      · have hpi : (2 : Int) < s.size := by omega
        have e2 : ((s[2]'hp).toNat : Int) = byt s 2 := byt_get hp
        by_cases k0 : byt s 2 = 0
        · have H2' : Hid (2 < 3 → 3 ≤ s.size → byt s 2 = 0) := fun _ _ => k0
          rw [k0] at e2
          clear k0
          go_wp2_with fail
          go_roundw
          case rel => exact ⟨3, by omega, by go_num, fun _ => H0.out (by omega), H2', B1, B2, CC⟩
          case measure => simp [intOf]
        · have HP := hid (HMAL2.out (by omega) k0)
          have d5 : (byt s 2 == 0) = false := by simpa using k0
          have d5' : (byt s 2 != 0) = true := by simpa using k0
          clear k0
          generalize byt s 2 = x at e2 d5 d5' H2
          go_wp2_with (first
            | (refine wpList_loadB rfl 26 _ rfl g 26 (tgtC tgt0) _ rfl B1 Tryd.underlying26 rfl TI.out ?_)
            | (refine wpList_storeB rfl 26 _ _ rfl g 26 (tgtC tgt0) (tgtC tgt0) rfl rfl B1 TI.out rfl rfl ?_; intro w5 B5 C5 Z5))
          try simp only [Exit.inBlock, Exit.then]
          refine bodyPost_ret (results_rowF4 rfl _ _ rfl B5 Tryd.underlying26 rfl TI.out) rfl ?_
          exact ⟨by rw [HP.out]; rfl, CC.step C5 (fun i hi => .inr (by simp at hi; omega))⟩
      · have hpi : ¬ (2 : Int) < s.size := by omega
        go_wp2_with fail
        go_roundw
        case rel => exact ⟨3, by omega, by go_num, fun _ => H0.out (by omega), fun _ h => absurd h (by omega), B1, B2, CC⟩
        case measure => simp [intOf]
    · by_cases h4 : 4 ≤ s.size
      case neg =>
        have HP := hid (HINC.out (by omega) (H0.out (by omega)) (H2.out (by omega)))
        have h4' : (s.size : Int) ≤ 3 := by omega
        have CA := CC
        go_wp2_with (first
          | (refine wpList_loadB rfl 26 _ rfl g 26 (tgtC tgt0) _ rfl B1 Tryd.underlying26 rfl TI.out ?_)
          | (refine wpList_storeB rfl 26 _ _ rfl g 26 (tgtC tgt0) (tgtC tgt0) rfl rfl B1 TI.out rfl rfl ?_; intro w5 B5 C5 Z5))
        try simp only [Exit.inBlock, Exit.then]
        refine bodyPost_ret (results_rowF4 rfl _ _ rfl B5 Tryd.underlying26 rfl TI.out) rfl ?_
        exact ⟨by rw [HP.out]; rfl, CA.step C5 (fun i hi => .inr (by simp at hi; omega))⟩
      have h4' : (4 : Int) ≤ s.size := by omega
      have k5 := H0.out (by omega) (by omega)
      have k0 := H2.out (by omega) (by omega)
      have hp3 : 3 < s.size := by omega
      have e3 : ((s[3]'hp3).toNat : Int) = byt s 3 := byt_get hp3
      by_cases hk3 : byt s 3 = 1 ∨ byt s 3 = 3 ∨ byt s 3 = 4
      case neg =>
        have HP := hid (HKIND.out h4 k5 k0 (by omega) (by omega) (by omega))
        have hkd : decide (byt s 3 = 1 ∨ byt s 3 = 3 ∨ byt s 3 = 4) = false := by simpa using hk3
        have CA := CC
        clear hk3 k5 k0
        generalize byt s 3 = x at e3 hkd
        go_wp2_with (first
          | (refine wpList_loadB rfl 26 _ rfl g 26 (tgtC tgt0) _ rfl B1 Tryd.underlying26 rfl TI.out ?_)
          | (refine wpList_storeB rfl 26 _ _ rfl g 26 (tgtC tgt0) (tgtC tgt0) rfl rfl B1 TI.out rfl rfl ?_; intro w5 B5 C5 Z5)
          | (go_at_call 35; (with_reducible refine (knownT _ _).mono ?_); rw [hkd]; rintro e w1 ⟨rfl, rfl⟩))
        try simp only [Exit.inBlock, Exit.then]
        refine bodyPost_ret (results_rowF4 rfl _ _ rfl B5 Tryd.underlying26 rfl TI.out) rfl ?_
        exact ⟨by rw [HP.out]; rfl, CA.step C5 (fun i hi => .inr (by simp at hi; omega))⟩
      have hkd : decide (byt s 3 = 1 ∨ byt s 3 = 3 ∨ byt s 3 = 4) = true := by simpa using hk3
      have H4 := hid h4
      have HK5 := hid k5
      have HK0 := hid k0
      have HK3 := hid hk3
      have hp1 : 1 < s.size := by omega
      have e1 : ((s[1]'hp1).toNat : Int) = byt s 1 := byt_get hp1
      clear k5 k0 hk3
      obtain ⟨x, hx⟩ : ∃ x, byt s 3 = x := ⟨_, rfl⟩
      rw [hx] at e3 hkd
      have HXX := hid hx
      clear hx
      by_cases hst : st = 1
      case neg =>
        have HP := hid (HNO.out H4.out HK5.out HK0.out HK3.out hst)
        have d1 : (st == 1) = false := by simpa using hst
        have d2 : (st != 1) = true := by simpa using hst
        clear hst e1
        go_wp2_with (first
          | (refine wpList_loadB rfl 26 _ rfl g 26 (tgtC tgt0) _ rfl B3 Tryd.underlying26 rfl TI.out ?_)
          | (refine wpList_storeB rfl 26 _ _ rfl g 26 (tgtC tgt0) (tgtC tgt0) rfl rfl B3 TI.out rfl rfl ?_; intro w5 B5 C5 Z5)
          | (refine wpList_storeB rfl 26 _ _ rfl w2.heap.size 26 (tgtC tgt0) (tgtC (nm, six, bs, port)) rfl rfl (Blk.new _ _ _) HI.out ((tgt_len (t := tgt0) rfl).trans (tgt_len HL.out).symm) (tgt_one _) ?_; intro w3 B4 C3 Z3; have CA := (CB.alloc _).step C3 (fun i hi => .inr (by simp at hi; omega)); have B3 := (B1'.alloc _).ch C3 (by simp; omega))
          | (go_at_call 14; (with_reducible refine (HC.out _).mono ?_); rintro e w2 ⟨rfl, C2⟩; have CB := CC.trans C2; have B1' := B1.ch C2 (by simp); have lt2 := B1'.lt)
          | (go_at_call 35; (with_reducible refine (knownT _ _).mono ?_); rw [hkd]; rintro e w1 ⟨rfl, rfl⟩))
        try simp only [Exit.inBlock, Exit.then]
        refine bodyPost_ret (results_rowF4 rfl _ _ rfl B5 Tryd.underlying26 rfl TI.out) rfl ?_
        exact ⟨by rw [HP.out]; rfl, CA.step C5 (fun i hi => .inr (by simp at hi; omega))⟩
      subst hst
      by_cases k1 : byt s 1 = 1
      case neg =>
        have HP := hid (HCMD.out H4.out HK5.out HK0.out HK3.out rfl k1)
        have d1 : (byt s 1 == 1) = false := by simpa using k1
        have d2 : (byt s 1 != 1) = true := by simpa using k1
        clear k1
        generalize byt s 1 = y at e1 d1 d2
        go_wp2_with (first
          | (refine wpList_loadB rfl 26 _ rfl g 26 (tgtC tgt0) _ rfl B3 Tryd.underlying26 rfl TI.out ?_)
          | (refine wpList_storeB rfl 26 _ _ rfl g 26 (tgtC tgt0) (tgtC tgt0) rfl rfl B3 TI.out rfl rfl ?_; intro w5 B5 C5 Z5)
          | (refine wpList_storeB rfl 26 _ _ rfl w2.heap.size 26 (tgtC tgt0) (tgtC (nm, six, bs, port)) rfl rfl (Blk.new _ _ _) HI.out ((tgt_len (t := tgt0) rfl).trans (tgt_len HL.out).symm) (tgt_one _) ?_; intro w3 B4 C3 Z3; have CA := (CB.alloc _).step C3 (fun i hi => .inr (by simp at hi; omega)); have B3 := (B1'.alloc _).ch C3 (by simp; omega))
          | (go_at_call 14; (with_reducible refine (HC.out _).mono ?_); rintro e w2 ⟨rfl, C2⟩; have CB := CC.trans C2; have B1' := B1.ch C2 (by simp); have lt2 := B1'.lt)
          | (go_at_call 35; (with_reducible refine (knownT _ _).mono ?_); rw [hkd]; rintro e w1 ⟨rfl, rfl⟩))
        try simp only [Exit.inBlock, Exit.then]
        refine bodyPost_ret (results_rowF4 rfl _ _ rfl B5 Tryd.underlying26 rfl TI.out) rfl ?_
        exact ⟨by rw [HP.out]; rfl, CA.step C5 (fun i hi => .inr (by simp at hi; omega))⟩
      rw [k1] at e1
      have HK1 := hid k1
      clear k1
      by_cases hn0 : nm.size = 0
      case pos =>
        obtain rfl : nm = ⟨#[]⟩ := emp0 hn0
        by_cases hpo : port = 0
        case pos =>
          have HP := hid (HPORT.out H4.out HK5.out HK0.out HK3.out rfl HK1.out (.inl hn0) hpo)
          obtain rfl : port = 0 := hpo
          have HPT := hid (tgt_port ⟨#[]⟩ six bs 0 HL.out)
          clear hn0
          go_wp2_with (first
            | (refine wpList_loadB rfl 26 _ rfl g 26 (tgtC tgt0) _ rfl B3 Tryd.underlying26 rfl TI.out ?_)
            | (refine wpList_storeB rfl 26 _ _ rfl g 26 (tgtC tgt0) (tgtC tgt0) rfl rfl B3 TI.out rfl rfl ?_; intro w5 B5 C5 Z5)
            | (refine wpList_storeB rfl 26 _ _ rfl w2.heap.size 26 (tgtC tgt0) (tgtC (⟨#[]⟩, six, bs, 0)) rfl rfl (Blk.new _ _ _) HI.out ((tgt_len (t := tgt0) rfl).trans (tgt_len HL.out).symm) (tgt_one _) ?_; intro w3 B4 C3 Z3; have CA := (CB.alloc _).step C3 (fun i hi => .inr (by simp at hi; omega)); have B3 := (B1'.alloc _).ch C3 (by simp; omega); have c8 : w3.cell? ⟨w2.heap.size, 0, none⟩ = some (.string ⟨#[]⟩) := B4.cell 0; have cP : w3.cell? ⟨w2.heap.size, 18, none⟩ = some (.int .i64 0) := (B4.cell 18).trans HPT.out)
            | (go_at_call 14; (with_reducible refine (HC.out _).mono ?_); rintro e w2 ⟨rfl, C2⟩; have CB := CC.trans C2; have B1' := B1.ch C2 (by simp); have lt2 := B1'.lt; have lt2n : g ≠ w2.heap.size := by omega)
            | (go_at_call 35; (with_reducible refine (knownT _ _).mono ?_); rw [hkd]; rintro e w1 ⟨rfl, rfl⟩))
          try simp only [Exit.inBlock, Exit.then]
          refine bodyPost_ret (results_rowF4 rfl _ _ rfl B5 Tryd.underlying26 rfl TI.out) rfl ?_
          exact ⟨by rw [HP.out]; rfl, CA.step C5 (fun i hi => .inr (by simp at hi; omega))⟩

        have HP := hid (HOK.out H4.out HK5.out HK0.out HK3.out rfl HK1.out (.inl hn0) hpo)
        have HPT := hid (tgt_port ⟨#[]⟩ six bs port HL.out)
        have dpo : (port == 0) = false := by simpa using hpo
        clear hn0 hpo
        go_wp2_with (first
          | (refine wpList_loadB rfl 26 _ rfl w2.heap.size 26 (tgtC (⟨#[]⟩, six, bs, port)) _ rfl B4 Tryd.underlying26 rfl HI.out ?_)
          | (refine wpList_storeB rfl 26 _ _ rfl g 26 (tgtC tgt0) (tgtC (⟨#[]⟩, six, bs, port)) rfl rfl B3 HI.out ((tgt_len (t := tgt0) rfl).trans (tgt_len HL.out).symm) (tgt_one _) ?_; intro w5 B5 C5 Z5)
          | (refine wpList_storeB rfl 26 _ _ rfl w2.heap.size 26 (tgtC tgt0) (tgtC (⟨#[]⟩, six, bs, port)) rfl rfl (Blk.new _ _ _) HI.out ((tgt_len (t := tgt0) rfl).trans (tgt_len HL.out).symm) (tgt_one _) ?_; intro w3 B4 C3 Z3; have CA := (CB.alloc _).step C3 (fun i hi => .inr (by simp at hi; omega)); have B3 := (B1'.alloc _).ch C3 (by simp; omega); have c8 : w3.cell? ⟨w2.heap.size, 0, none⟩ = some (.string ⟨#[]⟩) := B4.cell 0; have cP : w3.cell? ⟨w2.heap.size, 18, none⟩ = some (.int .i64 port) := (B4.cell 18).trans HPT.out)
          | (go_at_call 14; (with_reducible refine (HC.out _).mono ?_); rintro e w2 ⟨rfl, C2⟩; have CB := CC.trans C2; have B1' := B1.ch C2 (by simp); have lt2 := B1'.lt; have lt2n : g ≠ w2.heap.size := by omega)
          | (go_at_call 35; (with_reducible refine (knownT _ _).mono ?_); rw [hkd]; rintro e w1 ⟨rfl, rfl⟩))
        try simp only [Exit.inBlock, Exit.then]
        refine bodyPost_ret (results_rowF4 rfl _ _ rfl B5 Tryd.underlying26 rfl HI.out) rfl ?_
        exact ⟨by rw [HP.out]; rfl, CA.step C5 (fun i hi => .inr (by simp at hi; omega))⟩
      have hne : nm.toList.isEmpty = false := notEmp (by omega)
      have hpn := hostParse nm (by omega)
      have HPT := hid (tgt_port nm six bs port HL.out)
      by_cases hb : namOk (numsOf (canS nm)) = true
      case neg =>
        have hb2 : namOk (numsOf (canS nm)) = false := by simpa using hb
        rw [hb2] at hpn
        have HPN : Hid (∀ w, Calls Tryd.prog 36 #[.string nm] w fun e w' => e = .returned (.tuple #[.string ⟨#[]⟩, .bool false]) ∧ Ch [] w w') := hpn
        have HP := hid (HNAME.out H4.out HK5.out HK0.out HK3.out rfl HK1.out (by show 0 < nm.size; omega) hb2)
        clear hpn hb hb2
        go_wp2_with (first
          | (refine wpList_loadB rfl 26 _ rfl g 26 (tgtC tgt0) _ rfl (B3s _) Tryd.underlying26 rfl TI.out ?_)
          | (refine wpList_storeB rfl 26 _ _ rfl g 26 (tgtC tgt0) (tgtC tgt0) rfl rfl (B3s _) TI.out rfl rfl ?_; intro w5 B5 C5 Z5)
          | (go_at_call 36; (with_reducible refine (HPN.out _).mono ?_); rintro e w4 ⟨rfl, C4⟩; have B4' := B4.ch C4 (by simp); have B3' := B3.ch C4 (by simp); have CA4 := CA.trans C4; have c8' : w4.cell? ⟨w2.heap.size, 0, none⟩ = some (.string nm) := B4'.cell 0; have F8 := B4'.frozen 0; have cP' : w4.cell? ⟨w2.heap.size, 18, none⟩ = some (.int .i64 port) := (B4'.cell 18).trans HPT.out; have lt4 := B4'.lt; have B3s := fun v => B3'.far (p := ⟨w2.heap.size, 0, none⟩) lt2n v; have B4s := fun v => B4'.set 0 v; have CAs := fun v => CA4.setCell (p := ⟨w2.heap.size, 0, none⟩) (.inr (by show _ ≤ w2.heap.size; omega)) v)
          | (refine wpList_storeB rfl 26 _ _ rfl w2.heap.size 26 (tgtC tgt0) (tgtC (nm, six, bs, port)) rfl rfl (Blk.new _ _ _) HI.out ((tgt_len (t := tgt0) rfl).trans (tgt_len HL.out).symm) (tgt_one _) ?_; intro w3 B4 C3 Z3; have CA := (CB.alloc _).step C3 (fun i hi => .inr (by simp at hi; omega)); have B3 := (B1'.alloc _).ch C3 (by simp; omega); have c8 : w3.cell? ⟨w2.heap.size, 0, none⟩ = some (.string nm) := B4.cell 0; have cP : w3.cell? ⟨w2.heap.size, 18, none⟩ = some (.int .i64 port) := (B4.cell 18).trans HPT.out)
          | (go_at_call 14; (with_reducible refine (HC.out _).mono ?_); rintro e w2 ⟨rfl, C2⟩; have CB := CC.trans C2; have B1' := B1.ch C2 (by simp); have lt2 := B1'.lt; have lt2n : g ≠ w2.heap.size := by omega)
          | (go_at_call 35; (with_reducible refine (knownT _ _).mono ?_); rw [hkd]; rintro e w1 ⟨rfl, rfl⟩))
        try simp only [Exit.inBlock, Exit.then]
        refine bodyPost_ret (results_rowF4 rfl _ _ rfl B5 Tryd.underlying26 rfl TI.out) rfl ?_
        exact ⟨by rw [HP.out]; rfl, (CAs _).step C5 (fun i hi => .inr (by simp at hi; omega))⟩
      rw [hb] at hpn
      have hbn := nam_pos hb
      have HB := hid hb
      clear hb
      obtain ⟨R, hR⟩ : ∃ R, canS nm = R := ⟨_, rfl⟩
      have HR := hid hR
      rw [hR] at hpn hbn
      have HPN : Hid (∀ w, Calls Tryd.prog 36 #[.string nm] w fun e w' => e = .returned (.tuple #[.string R, .bool true]) ∧ Ch [] w w') := hpn
      have hre : R.toList.isEmpty = false := notEmp hbn
      have HI2 := hid (tgt_inf (t := (R, six, bs, port)) HL.out)
      clear hpn hR
      by_cases hpo : port = 0
      case pos =>
        have HP := hid (HPORT.out H4.out HK5.out HK0.out HK3.out rfl HK1.out (.inr HB.out) hpo)
        obtain rfl : port = 0 := hpo
        go_wp2_with (first
          | (refine wpList_loadB rfl 26 _ rfl g 26 (tgtC tgt0) _ rfl (B3s _) Tryd.underlying26 rfl TI.out ?_)
          | (refine wpList_storeB rfl 26 _ _ rfl g 26 (tgtC tgt0) (tgtC tgt0) rfl rfl (B3s _) TI.out rfl rfl ?_; intro w5 B5 C5 Z5)
          | (go_at_call 36; (with_reducible refine (HPN.out _).mono ?_); rintro e w4 ⟨rfl, C4⟩; have B4' := B4.ch C4 (by simp); have B3' := B3.ch C4 (by simp); have CA4 := CA.trans C4; have c8' : w4.cell? ⟨w2.heap.size, 0, none⟩ = some (.string nm) := B4'.cell 0; have F8 := B4'.frozen 0; have cP' : w4.cell? ⟨w2.heap.size, 18, none⟩ = some (.int .i64 0) := (B4'.cell 18).trans HPT.out; have lt4 := B4'.lt; have B3s := fun v => B3'.far (p := ⟨w2.heap.size, 0, none⟩) lt2n v; have B4s := fun v => B4'.set 0 v; have CAs := fun v => CA4.setCell (p := ⟨w2.heap.size, 0, none⟩) (.inr (by show _ ≤ w2.heap.size; omega)) v)
          | (refine wpList_storeB rfl 26 _ _ rfl w2.heap.size 26 (tgtC tgt0) (tgtC (nm, six, bs, 0)) rfl rfl (Blk.new _ _ _) HI.out ((tgt_len (t := tgt0) rfl).trans (tgt_len HL.out).symm) (tgt_one _) ?_; intro w3 B4 C3 Z3; have CA := (CB.alloc _).step C3 (fun i hi => .inr (by simp at hi; omega)); have B3 := (B1'.alloc _).ch C3 (by simp; omega); have c8 : w3.cell? ⟨w2.heap.size, 0, none⟩ = some (.string nm) := B4.cell 0; have cP : w3.cell? ⟨w2.heap.size, 18, none⟩ = some (.int .i64 0) := (B4.cell 18).trans HPT.out)
          | (go_at_call 14; (with_reducible refine (HC.out _).mono ?_); rintro e w2 ⟨rfl, C2⟩; have CB := CC.trans C2; have B1' := B1.ch C2 (by simp); have lt2 := B1'.lt; have lt2n : g ≠ w2.heap.size := by omega)
          | (go_at_call 35; (with_reducible refine (knownT _ _).mono ?_); rw [hkd]; rintro e w1 ⟨rfl, rfl⟩))
        try simp only [Exit.inBlock, Exit.then]
        refine bodyPost_ret (results_rowF4 rfl _ _ rfl B5 Tryd.underlying26 rfl TI.out) rfl ?_
        exact ⟨by rw [HP.out]; rfl, (CAs _).step C5 (fun i hi => .inr (by simp at hi; omega))⟩
      have HP : Hid (parseQ (numsOf s) = ((R, six, bs, port), 0, 3 + n, 1)) := by
        show _ = _
        rw [HOK.out H4.out HK5.out HK0.out HK3.out rfl HK1.out (.inr HB.out) hpo, if_pos hn0, ← HR.out]
      have dpo : (port == 0) = false := by simpa using hpo
      clear hpo hn0
      · skip
        go_wp2_with (first
          | (refine wpList_loadB rfl 26 _ rfl w2.heap.size 26 (tgtC (R, six, bs, port)) _ rfl (B4s _) Tryd.underlying26 rfl HI2.out ?_)
          | (refine wpList_storeB rfl 26 _ _ rfl g 26 (tgtC tgt0) (tgtC (R, six, bs, port)) rfl rfl (B3s _) HI2.out ((tgt_len (t := tgt0) rfl).trans (tgt_len HL.out).symm) (tgt_one _) ?_; intro w5 B5 C5 Z5)
          | (go_at_call 36; (with_reducible refine (HPN.out _).mono ?_); rintro e w4 ⟨rfl, C4⟩; have B4' := B4.ch C4 (by simp); have B3' := B3.ch C4 (by simp); have CA4 := CA.trans C4; have c8' : w4.cell? ⟨w2.heap.size, 0, none⟩ = some (.string nm) := B4'.cell 0; have F8 := B4'.frozen 0; have cP' : w4.cell? ⟨w2.heap.size, 18, none⟩ = some (.int .i64 port) := (B4'.cell 18).trans HPT.out; have lt4 := B4'.lt; have B3s := fun v => B3'.far (p := ⟨w2.heap.size, 0, none⟩) lt2n v; have B4s := fun v => B4'.set 0 v; have CAs := fun v => CA4.setCell (p := ⟨w2.heap.size, 0, none⟩) (.inr (by show _ ≤ w2.heap.size; omega)) v)
          | (refine wpList_storeB rfl 26 _ _ rfl w2.heap.size 26 (tgtC tgt0) (tgtC (nm, six, bs, port)) rfl rfl (Blk.new _ _ _) HI.out ((tgt_len (t := tgt0) rfl).trans (tgt_len HL.out).symm) (tgt_one _) ?_; intro w3 B4 C3 Z3; have CA := (CB.alloc _).step C3 (fun i hi => .inr (by simp at hi; omega)); have B3 := (B1'.alloc _).ch C3 (by simp; omega); have c8 : w3.cell? ⟨w2.heap.size, 0, none⟩ = some (.string nm) := B4.cell 0; have cP : w3.cell? ⟨w2.heap.size, 18, none⟩ = some (.int .i64 port) := (B4.cell 18).trans HPT.out)
          | (go_at_call 14; (with_reducible refine (HC.out _).mono ?_); rintro e w2 ⟨rfl, C2⟩; have CB := CC.trans C2; have B1' := B1.ch C2 (by simp); have lt2 := B1'.lt; have lt2n : g ≠ w2.heap.size := by omega)
          | (go_at_call 35; (with_reducible refine (knownT _ _).mono ?_); rw [hkd]; rintro e w1 ⟨rfl, rfl⟩))
        try simp only [Exit.inBlock, Exit.then]
        refine bodyPost_ret (results_rowF4 rfl _ _ rfl B5 Tryd.underlying26 rfl HI2.out) rfl ?_
        exact ⟨by rw [HP.out]; rfl, (CAs _).step C5 (fun i hi => .inr (by simp at hi; omega))⟩
end Go.Proofs.YtiffpjlmgeklkaaDoor
