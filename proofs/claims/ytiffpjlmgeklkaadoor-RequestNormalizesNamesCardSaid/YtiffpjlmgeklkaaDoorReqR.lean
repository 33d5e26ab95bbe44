/- ginnelref15.ParseRequest. -/
import Derived.Test.YtiffpjlmgeklkaaDoorReqP
import Derived.Test.YtiffpjlmgeklkaaDoorRefPn
namespace Go.Proofs.YtiffpjlmgeklkaaDoor
open Go.RowKit

set_option maxRecDepth 100000 in
set_option maxHeartbeats 16000000 in
theorem reqR (s : ByteArray) (hs : s.size ≤ 1000000000000000) (w : World) : Calls Tryd.prog 34 #[.string s] w fun e w' => e = .returned (rqV (parseQ (numsOf s))) ∧ Ch [] w w' := by
  have TI : Hid ((Tryd.prog.info? 26).map (·.size) = some (tgtC tgt0).length) := tgt_inf rfl
  have hcall := parseTR (s.extract 3 s.size) (by rw [ByteArray.size_extract]; omega)
  rw [nums_tail] at hcall
  have hl16 := parse_tgt16 ((numsOf s).drop 3)
  have hbd := parse_bound ((numsOf s).drop 3) (fun x hx => nums_bytes s x (List.mem_of_mem_drop hx))
  have hnm := parse_nm ((numsOf s).drop 3) (fun x hx => nums_bytes s x (List.mem_of_mem_drop hx))
  have HMAL0 := hid (rq_mal0 s)
  have HMAL2 := hid (rq_mal2 s)
  have HINC := hid (rq_inc s)
  have HKIND := hid (rq_kind s)
  have hno (h h5 h0 hk) := rq_no s h h5 h0 hk _ rfl
  have hcmd (h h5 h0 hk) := rq_cmd s h h5 h0 hk _ rfl
  have hname (h h5 h0 hk) := rq_name s h h5 h0 hk _ rfl
  have hport (h h5 h0 hk) := rq_port s h h5 h0 hk _ rfl
  have hok (h h5 h0 hk) := rq_ok s h h5 h0 hk _ rfl
  generalize parseT ((numsOf s).drop 3) = r at hcall hl16 hno hcmd hname hport hok hbd hnm
  obtain ⟨⟨nm, six, bs, port⟩, n, st⟩ := r
  have hbd1 : 0 ≤ n := hbd.1
  have hbd2 : n ≤ 259 := hbd.2
  clear hbd
  have hcall2 : ∀ w, Calls Tryd.prog 32 #[.string (s.extract 3 s.size)] w fun e w' => e = .returned (.tuple #[.agg (tgtC (nm, six, bs, port)).toArray, .int .i64 n, .int .i64 st]) ∧ Ch [] w w' := hcall
  have HC := hid hcall2
  have HI := hid (tgt_inf (t := (nm, six, bs, port)) hl16)
  have HL := hid hl16
  have HNO := hid hno
  have HCMD := hid hcmd
  have HNAME := hid hname
  have HPORT := hid hport
  have HOK := hid hok
  have hnm2 : nm.size ≤ 255 := hnm
  clear hnm hno hcmd hname hport hok hcall hcall2 hl16
  have B0 : Blk (w.alloc (.cells (tgtC tgt0).toArray 26)) w.heap.size 26 (tgtC tgt0) := Blk.new _ _ _
  have CC0 : Ch [] w (w.alloc (.cells (tgtC tgt0).toArray 26)) := (Ch.refl _ _).alloc _
  by_cases h0 : s.size = 0
  case pos =>
    have HP := hid (HINC.out (by omega) (fun h => absurd h (by omega)) (fun h => absurd h (by omega)))
    have h0' : (s.size : Int) = 0 := by omega
    clear h0
    go_enter Tryd.func34, Tryd.ntmps34
    go_wp2_with (first
      | (refine wpList_storeB rfl 26 _ _ rfl w.heap.size 26 (tgtC tgt0) (tgtC tgt0) rfl rfl B0 TI.out rfl rfl ?_; intro w5 B5 C5 Z5))
    try simp only [Exit.inBlock, Exit.then]
    refine bodyPost_ret (results_rowF4 rfl _ _ rfl B5 Tryd.underlying26 rfl TI.out) rfl ?_
    exact ⟨by rw [HP.out]; first | rfl | (rw [Int.add_comm 3 n]; rfl), CC0.step C5 (fun i hi => .inr (by simp at hi; omega))⟩
  have hp : 0 < s.size := by omega
  have hpi : (0 : Int) < s.size := by omega
  have e0 : ((s[0]'hp).toNat : Int) = byt s 0 := byt_get hp
  by_cases k5 : byt s 0 = 5
  case neg =>
    have HP := hid (HMAL0.out hp k5)
    have d5 : (byt s 0 == 5) = false := by simpa using k5
    have d5' : (byt s 0 != 5) = true := by simpa using k5
    clear k5
    generalize byt s 0 = x at e0 d5 d5'
    go_enter Tryd.func34, Tryd.ntmps34
    go_wp2_with (first
      | (refine wpList_storeB rfl 26 _ _ rfl w.heap.size 26 (tgtC tgt0) (tgtC tgt0) rfl rfl B0 TI.out rfl rfl ?_; intro w5 B5 C5 Z5))
    try simp only [Exit.inBlock, Exit.then]
    refine bodyPost_ret (results_rowF4 rfl _ _ rfl B5 Tryd.underlying26 rfl TI.out) rfl ?_
    exact ⟨by rw [HP.out]; first | rfl | (rw [Int.add_comm 3 n]; rfl), CC0.step C5 (fun i hi => .inr (by simp at hi; omega))⟩
  rw [k5] at e0
  have HK5 := hid k5
  clear k5
  by_cases h3 : 3 ≤ s.size
  case neg =>
    have HP := hid (HINC.out (by omega) (fun _ => HK5.out) (fun h => absurd h h3))
    have h3' : ¬ (2 : Int) < s.size := by omega
    have h4' : (s.size : Int) < 4 := by omega
    clear h3
    go_enter Tryd.func34, Tryd.ntmps34
    go_wp2_with (first
      | (refine wpList_storeB rfl 26 _ _ rfl w.heap.size 26 (tgtC tgt0) (tgtC tgt0) rfl rfl B0 TI.out rfl rfl ?_; intro w5 B5 C5 Z5))
    try simp only [Exit.inBlock, Exit.then]
    refine bodyPost_ret (results_rowF4 rfl _ _ rfl B5 Tryd.underlying26 rfl TI.out) rfl ?_
    exact ⟨by rw [HP.out]; first | rfl | (rw [Int.add_comm 3 n]; rfl), CC0.step C5 (fun i hi => .inr (by simp at hi; omega))⟩
  have hp2 : 2 < s.size := by omega
  have h3' : (2 : Int) < s.size := by omega
  have e2 : ((s[2]'hp2).toNat : Int) = byt s 2 := byt_get hp2
  by_cases k0 : byt s 2 = 0
  case neg =>
    have HP := hid (HMAL2.out h3 k0)
    have d5 : (byt s 2 == 0) = false := by simpa using k0
    have d5' : (byt s 2 != 0) = true := by simpa using k0
    clear k0
    generalize byt s 2 = x at e2 d5 d5'
    go_enter Tryd.func34, Tryd.ntmps34
    go_wp2_with (first
      | (refine wpList_storeB rfl 26 _ _ rfl w.heap.size 26 (tgtC tgt0) (tgtC tgt0) rfl rfl B0 TI.out rfl rfl ?_; intro w5 B5 C5 Z5))
    try simp only [Exit.inBlock, Exit.then]
    refine bodyPost_ret (results_rowF4 rfl _ _ rfl B5 Tryd.underlying26 rfl TI.out) rfl ?_
    exact ⟨by rw [HP.out]; first | rfl | (rw [Int.add_comm 3 n]; rfl), CC0.step C5 (fun i hi => .inr (by simp at hi; omega))⟩
  rw [k0] at e2
  have HK0 := hid k0
  clear k0
  by_cases h4 : 4 ≤ s.size
  case neg =>
    have HP := hid (HINC.out (by omega) (fun _ => HK5.out) (fun _ => HK0.out))
    have h4' : (s.size : Int) < 4 := by omega
    clear h4
    go_enter Tryd.func34, Tryd.ntmps34
    go_wp2_with (first
      | (refine wpList_storeB rfl 26 _ _ rfl w.heap.size 26 (tgtC tgt0) (tgtC tgt0) rfl rfl B0 TI.out rfl rfl ?_; intro w5 B5 C5 Z5))
    try simp only [Exit.inBlock, Exit.then]
    refine bodyPost_ret (results_rowF4 rfl _ _ rfl B5 Tryd.underlying26 rfl TI.out) rfl ?_
    exact ⟨by rw [HP.out]; first | rfl | (rw [Int.add_comm 3 n]; rfl), CC0.step C5 (fun i hi => .inr (by simp at hi; omega))⟩
  have h4' : ¬ (s.size : Int) < 4 := by omega
  have H4 := hid h4
  have hp3 : 3 < s.size := by omega
  have e3 : ((s[3]'hp3).toNat : Int) = byt s 3 := byt_get hp3
  have hp1 : 1 < s.size := by omega
  have e1 : ((s[1]'hp1).toNat : Int) = byt s 1 := byt_get hp1
  by_cases hk3 : byt s 3 = 1 ∨ byt s 3 = 3 ∨ byt s 3 = 4
  case neg =>
    have HP := hid (HKIND.out h4 HK5.out HK0.out (by omega) (by omega) (by omega))
    have q1 : (byt s 3 != 1) = true := by simp; omega
    have q3 : (byt s 3 != 3) = true := by simp; omega
    have q4 : (byt s 3 != 4) = true := by simp; omega
    have q1' : (byt s 3 == 1) = false := by simp; omega
    have q3' : (byt s 3 == 3) = false := by simp; omega
    have q4' : (byt s 3 == 4) = false := by simp; omega
    clear hk3 e1
    generalize byt s 3 = x at e3 q1 q3 q4 q1' q3' q4'
    go_enter Tryd.func34, Tryd.ntmps34
    go_wp2_with (first
      | (refine wpList_storeB rfl 26 _ _ rfl w.heap.size 26 (tgtC tgt0) (tgtC tgt0) rfl rfl B0 TI.out rfl rfl ?_; intro w5 B5 C5 Z5))
    try simp only [Exit.inBlock, Exit.then]
    refine bodyPost_ret (results_rowF4 rfl _ _ rfl B5 Tryd.underlying26 rfl TI.out) rfl ?_
    exact ⟨by rw [HP.out]; first | rfl | (rw [Int.add_comm 3 n]; rfl), CC0.step C5 (fun i hi => .inr (by simp at hi; omega))⟩
  have HK3 := hid hk3
  have HRES : (byt s 1 = byt s 1) := rfl
  clear HRES
  rcases hk3 with hk3 | hk3 | hk3
  all_goals
    rw [hk3] at e3
    clear hk3
    by_cases hst : st = 1
    case neg =>
      have HP := hid (HNO.out H4.out HK5.out HK0.out HK3.out hst)
      have HPT := hid (tgt_port nm six bs port HL.out)
      have d1 : (st == 1) = false := by simpa using hst
      have d2 : (st != 1) = true := by simpa using hst
      clear hst e1
      go_enter Tryd.func34, Tryd.ntmps34
      go_wp2_with (first
        | (refine wpList_storeB rfl 26 _ _ rfl w.heap.size 26 (tgtC tgt0) (tgtC tgt0) rfl rfl B3 TI.out rfl rfl ?_; intro w5 B5 C5 Z5)
        | (refine wpList_storeB rfl 26 _ _ rfl w2.heap.size 26 (tgtC tgt0) (tgtC (nm, six, bs, port)) rfl rfl (Blk.new _ _ _) HI.out ((tgt_len (t := tgt0) rfl).trans (tgt_len HL.out).symm) (tgt_one _) ?_; intro w3 B4 C3 Z3; have CA := (CB.alloc _).step C3 (fun i hi => .inr (by simp at hi; omega)); have B3 := (B1'.alloc _).ch C3 (by simp; omega); have c8 : w3.cell? ⟨w2.heap.size, 0, none⟩ = some (.string nm) := B4.cell 0; have cP : w3.cell? ⟨w2.heap.size, 18, none⟩ = some (.int .i64 port) := (B4.cell 18).trans HPT.out)
        | (go_at_call 32; (with_reducible refine (HC.out _).mono ?_); rintro e w2 ⟨rfl, C2⟩; have CB := CC0.trans C2; have B1' := B0.ch C2 (by simp); have lt2 := B1'.lt; have lt2n : w.heap.size ≠ w2.heap.size := by omega))
      try simp only [Exit.inBlock, Exit.then]
      refine bodyPost_ret (results_rowF4 rfl _ _ rfl B5 Tryd.underlying26 rfl TI.out) rfl ?_
      exact ⟨by rw [HP.out]; first | rfl | (rw [Int.add_comm 3 n]; rfl), CA.step C5 (fun i hi => .inr (by simp at hi; omega))⟩
    subst hst
    by_cases k1 : byt s 1 = 1
    case neg =>
      have HP := hid (HCMD.out H4.out HK5.out HK0.out HK3.out rfl k1)
      have HPT := hid (tgt_port nm six bs port HL.out)
      have d1 : (byt s 1 == 1) = false := by simpa using k1
      have d2 : (byt s 1 != 1) = true := by simpa using k1
      clear k1
      generalize byt s 1 = y at e1 d1 d2
      go_enter Tryd.func34, Tryd.ntmps34
      go_wp2_with (first
        | (refine wpList_storeB rfl 26 _ _ rfl w.heap.size 26 (tgtC tgt0) (tgtC tgt0) rfl rfl B3 TI.out rfl rfl ?_; intro w5 B5 C5 Z5)
        | (refine wpList_storeB rfl 26 _ _ rfl w2.heap.size 26 (tgtC tgt0) (tgtC (nm, six, bs, port)) rfl rfl (Blk.new _ _ _) HI.out ((tgt_len (t := tgt0) rfl).trans (tgt_len HL.out).symm) (tgt_one _) ?_; intro w3 B4 C3 Z3; have CA := (CB.alloc _).step C3 (fun i hi => .inr (by simp at hi; omega)); have B3 := (B1'.alloc _).ch C3 (by simp; omega); have c8 : w3.cell? ⟨w2.heap.size, 0, none⟩ = some (.string nm) := B4.cell 0; have cP : w3.cell? ⟨w2.heap.size, 18, none⟩ = some (.int .i64 port) := (B4.cell 18).trans HPT.out)
        | (go_at_call 32; (with_reducible refine (HC.out _).mono ?_); rintro e w2 ⟨rfl, C2⟩; have CB := CC0.trans C2; have B1' := B0.ch C2 (by simp); have lt2 := B1'.lt; have lt2n : w.heap.size ≠ w2.heap.size := by omega))
      try simp only [Exit.inBlock, Exit.then]
      refine bodyPost_ret (results_rowF4 rfl _ _ rfl B5 Tryd.underlying26 rfl TI.out) rfl ?_
      exact ⟨by rw [HP.out]; first | rfl | (rw [Int.add_comm 3 n]; rfl), CA.step C5 (fun i hi => .inr (by simp at hi; omega))⟩
    rw [k1] at e1
    have HK1 := hid k1
    clear k1
    by_cases hn0 : nm.size = 0
    case pos =>
      obtain rfl : nm = ⟨#[]⟩ := emp0 hn0
      by_cases hpo : port = 0
      case pos =>
        have HP := hid (HPORT.out H4.out HK5.out HK0.out HK3.out rfl HK1.out (.inl hn0) hpo)
        obtain rfl : port = 0 := hpo
        have HPT := hid (tgt_port ⟨#[]⟩ six bs 0 HL.out)
        clear hn0
        go_enter Tryd.func34, Tryd.ntmps34
        go_wp2_with (first
          | (refine wpList_storeB rfl 26 _ _ rfl w.heap.size 26 (tgtC tgt0) (tgtC tgt0) rfl rfl B3 TI.out rfl rfl ?_; intro w5 B5 C5 Z5)
          | (refine wpList_storeB rfl 26 _ _ rfl w2.heap.size 26 (tgtC tgt0) (tgtC (⟨#[]⟩, six, bs, 0)) rfl rfl (Blk.new _ _ _) HI.out ((tgt_len (t := tgt0) rfl).trans (tgt_len HL.out).symm) (tgt_one _) ?_; intro w3 B4 C3 Z3; have CA := (CB.alloc _).step C3 (fun i hi => .inr (by simp at hi; omega)); have B3 := (B1'.alloc _).ch C3 (by simp; omega); have c8 : w3.cell? ⟨w2.heap.size, 0, none⟩ = some (.string ⟨#[]⟩) := B4.cell 0; have cP : w3.cell? ⟨w2.heap.size, 18, none⟩ = some (.int .i64 0) := (B4.cell 18).trans HPT.out)
          | (go_at_call 32; (with_reducible refine (HC.out _).mono ?_); rintro e w2 ⟨rfl, C2⟩; have CB := CC0.trans C2; have B1' := B0.ch C2 (by simp); have lt2 := B1'.lt; have lt2n : w.heap.size ≠ w2.heap.size := by omega))
        try simp only [Exit.inBlock, Exit.then]
        refine bodyPost_ret (results_rowF4 rfl _ _ rfl B5 Tryd.underlying26 rfl TI.out) rfl ?_
        exact ⟨by rw [HP.out]; first | rfl | (rw [Int.add_comm 3 n]; rfl), CA.step C5 (fun i hi => .inr (by simp at hi; omega))⟩
      have HP := hid (HOK.out H4.out HK5.out HK0.out HK3.out rfl HK1.out (.inl hn0) hpo)
      have HPT := hid (tgt_port ⟨#[]⟩ six bs port HL.out)
      have dpo : (port == 0) = false := by simpa using hpo
      clear hn0 hpo
      go_enter Tryd.func34, Tryd.ntmps34
      go_wp2_with (first
        | (refine wpList_loadB rfl 26 _ rfl w2.heap.size 26 (tgtC (⟨#[]⟩, six, bs, port)) _ rfl B4 Tryd.underlying26 rfl HI.out ?_)
        | (refine wpList_storeB rfl 26 _ _ rfl w.heap.size 26 (tgtC tgt0) (tgtC (⟨#[]⟩, six, bs, port)) rfl rfl B3 HI.out ((tgt_len (t := tgt0) rfl).trans (tgt_len HL.out).symm) (tgt_one _) ?_; intro w5 B5 C5 Z5)
        | (refine wpList_storeB rfl 26 _ _ rfl w2.heap.size 26 (tgtC tgt0) (tgtC (⟨#[]⟩, six, bs, port)) rfl rfl (Blk.new _ _ _) HI.out ((tgt_len (t := tgt0) rfl).trans (tgt_len HL.out).symm) (tgt_one _) ?_; intro w3 B4 C3 Z3; have CA := (CB.alloc _).step C3 (fun i hi => .inr (by simp at hi; omega)); have B3 := (B1'.alloc _).ch C3 (by simp; omega); have c8 : w3.cell? ⟨w2.heap.size, 0, none⟩ = some (.string ⟨#[]⟩) := B4.cell 0; have cP : w3.cell? ⟨w2.heap.size, 18, none⟩ = some (.int .i64 port) := (B4.cell 18).trans HPT.out)
        | (go_at_call 32; (with_reducible refine (HC.out _).mono ?_); rintro e w2 ⟨rfl, C2⟩; have CB := CC0.trans C2; have B1' := B0.ch C2 (by simp); have lt2 := B1'.lt; have lt2n : w.heap.size ≠ w2.heap.size := by omega))
      try simp only [Exit.inBlock, Exit.then]
      refine bodyPost_ret (results_rowF4 rfl _ _ rfl B5 Tryd.underlying26 rfl HI.out) rfl ?_
      exact ⟨by rw [HP.out]; first | rfl | (rw [Int.add_comm 3 n]; rfl), CA.step C5 (fun i hi => .inr (by simp at hi; omega))⟩
    have hne : nm.toList.isEmpty = false := notEmp (by omega)
    have hpn := refPName nm (by omega)
    have HPT := hid (tgt_port nm six bs port HL.out)
    by_cases hb : namOk (numsOf (canS nm)) = true
    case neg =>
      have hb2 : namOk (numsOf (canS nm)) = false := by simpa using hb
      rw [hb2] at hpn
      have HPN : Hid (∀ w, Calls Tryd.prog 40 #[.string nm] w fun e w' => e = .returned (.tuple #[.string ⟨#[]⟩, .bool false]) ∧ Ch [] w w') := hpn
      have HP := hid (HNAME.out H4.out HK5.out HK0.out HK3.out rfl HK1.out (by show 0 < nm.size; omega) hb2)
      clear hpn hb hb2
      go_enter Tryd.func34, Tryd.ntmps34
      go_wp2_with (first
        | (refine wpList_storeB rfl 26 _ _ rfl w.heap.size 26 (tgtC tgt0) (tgtC tgt0) rfl rfl B3' TI.out rfl rfl ?_; intro w5 B5 C5 Z5)
        | (go_at_call 40; (with_reducible refine (HPN.out _).mono ?_); rintro e w4 ⟨rfl, C4⟩; have B4' := B4.ch C4 (by simp); have B3' := B3.ch C4 (by simp); have CA4 := CA.trans C4; have c8' : w4.cell? ⟨w2.heap.size, 0, none⟩ = some (.string nm) := B4'.cell 0; have F8 := B4'.frozen 0; have cP' : w4.cell? ⟨w2.heap.size, 18, none⟩ = some (.int .i64 port) := (B4'.cell 18).trans HPT.out; have lt4 := B4'.lt; have B3s := fun v => B3'.far (p := ⟨w2.heap.size, 0, none⟩) lt2n v; have B4s := fun v => B4'.set 0 v; have CAs := fun v => CA4.setCell (p := ⟨w2.heap.size, 0, none⟩) (.inr (by show _ ≤ w2.heap.size; omega)) v)
        | (refine wpList_storeB rfl 26 _ _ rfl w2.heap.size 26 (tgtC tgt0) (tgtC (nm, six, bs, port)) rfl rfl (Blk.new _ _ _) HI.out ((tgt_len (t := tgt0) rfl).trans (tgt_len HL.out).symm) (tgt_one _) ?_; intro w3 B4 C3 Z3; have CA := (CB.alloc _).step C3 (fun i hi => .inr (by simp at hi; omega)); have B3 := (B1'.alloc _).ch C3 (by simp; omega); have c8 : w3.cell? ⟨w2.heap.size, 0, none⟩ = some (.string nm) := B4.cell 0; have cP : w3.cell? ⟨w2.heap.size, 18, none⟩ = some (.int .i64 port) := (B4.cell 18).trans HPT.out)
        | (go_at_call 32; (with_reducible refine (HC.out _).mono ?_); rintro e w2 ⟨rfl, C2⟩; have CB := CC0.trans C2; have B1' := B0.ch C2 (by simp); have lt2 := B1'.lt; have lt2n : w.heap.size ≠ w2.heap.size := by omega))
      try simp only [Exit.inBlock, Exit.then]
      refine bodyPost_ret (results_rowF4 rfl _ _ rfl B5 Tryd.underlying26 rfl TI.out) rfl ?_
      exact ⟨by rw [HP.out]; first | rfl | (rw [Int.add_comm 3 n]; rfl), CA4.step C5 (fun i hi => .inr (by simp at hi; omega))⟩
    rw [hb] at hpn
    have hbn := nam_pos hb
    have HB := hid hb
    clear hb
    obtain ⟨R, hR⟩ : ∃ R, canS nm = R := ⟨_, rfl⟩
    have HR := hid hR
    rw [hR] at hpn hbn
    have HPN : Hid (∀ w, Calls Tryd.prog 40 #[.string nm] w fun e w' => e = .returned (.tuple #[.string R, .bool true]) ∧ Ch [] w w') := hpn
    have hre : R.toList.isEmpty = false := notEmp hbn
    have HI2 := hid (tgt_inf (t := (R, six, bs, port)) HL.out)
    clear hpn hR
    by_cases hpo : port = 0
    case pos =>
      have HP := hid (HPORT.out H4.out HK5.out HK0.out HK3.out rfl HK1.out (.inr HB.out) hpo)
      obtain rfl : port = 0 := hpo
      go_enter Tryd.func34, Tryd.ntmps34
      go_wp2_with (first
        | (refine wpList_storeB rfl 26 _ _ rfl w.heap.size 26 (tgtC tgt0) (tgtC tgt0) rfl rfl (B3s _) TI.out rfl rfl ?_; intro w5 B5 C5 Z5)
        | (go_at_call 40; (with_reducible refine (HPN.out _).mono ?_); rintro e w4 ⟨rfl, C4⟩; have B4' := B4.ch C4 (by simp); have B3' := B3.ch C4 (by simp); have CA4 := CA.trans C4; have c8' : w4.cell? ⟨w2.heap.size, 0, none⟩ = some (.string nm) := B4'.cell 0; have F8 := B4'.frozen 0; have cP' : w4.cell? ⟨w2.heap.size, 18, none⟩ = some (.int .i64 0) := (B4'.cell 18).trans HPT.out; have lt4 := B4'.lt; have B3s := fun v => B3'.far (p := ⟨w2.heap.size, 0, none⟩) lt2n v; have B4s := fun v => B4'.set 0 v; have CAs := fun v => CA4.setCell (p := ⟨w2.heap.size, 0, none⟩) (.inr (by show _ ≤ w2.heap.size; omega)) v)
        | (refine wpList_storeB rfl 26 _ _ rfl w2.heap.size 26 (tgtC tgt0) (tgtC (nm, six, bs, 0)) rfl rfl (Blk.new _ _ _) HI.out ((tgt_len (t := tgt0) rfl).trans (tgt_len HL.out).symm) (tgt_one _) ?_; intro w3 B4 C3 Z3; have CA := (CB.alloc _).step C3 (fun i hi => .inr (by simp at hi; omega)); have B3 := (B1'.alloc _).ch C3 (by simp; omega); have c8 : w3.cell? ⟨w2.heap.size, 0, none⟩ = some (.string nm) := B4.cell 0; have cP : w3.cell? ⟨w2.heap.size, 18, none⟩ = some (.int .i64 0) := (B4.cell 18).trans HPT.out)
        | (go_at_call 32; (with_reducible refine (HC.out _).mono ?_); rintro e w2 ⟨rfl, C2⟩; have CB := CC0.trans C2; have B1' := B0.ch C2 (by simp); have lt2 := B1'.lt; have lt2n : w.heap.size ≠ w2.heap.size := by omega))
      try simp only [Exit.inBlock, Exit.then]
      refine bodyPost_ret (results_rowF4 rfl _ _ rfl B5 Tryd.underlying26 rfl TI.out) rfl ?_
      exact ⟨by rw [HP.out]; first | rfl | (rw [Int.add_comm 3 n]; rfl), (CAs _).step C5 (fun i hi => .inr (by simp at hi; omega))⟩
    have HP : Hid (parseQ (numsOf s) = ((R, six, bs, port), 0, 3 + n, 1)) := by
      show _ = _
      rw [HOK.out H4.out HK5.out HK0.out HK3.out rfl HK1.out (.inr HB.out) hpo, if_pos hn0, ← HR.out]
    have dpo : (port == 0) = false := by simpa using hpo
    clear hpo hn0
    go_enter Tryd.func34, Tryd.ntmps34
    go_wp2_with (first
      | (refine wpList_loadB rfl 26 _ rfl w2.heap.size 26 (tgtC (R, six, bs, port)) _ rfl (B4s _) Tryd.underlying26 rfl HI2.out ?_)
      | (refine wpList_storeB rfl 26 _ _ rfl w.heap.size 26 (tgtC tgt0) (tgtC (R, six, bs, port)) rfl rfl (B3s _) HI2.out ((tgt_len (t := tgt0) rfl).trans (tgt_len HL.out).symm) (tgt_one _) ?_; intro w5 B5 C5 Z5)
      | (go_at_call 40; (with_reducible refine (HPN.out _).mono ?_); rintro e w4 ⟨rfl, C4⟩; have B4' := B4.ch C4 (by simp); have B3' := B3.ch C4 (by simp); have CA4 := CA.trans C4; have c8' : w4.cell? ⟨w2.heap.size, 0, none⟩ = some (.string nm) := B4'.cell 0; have F8 := B4'.frozen 0; have cP' : w4.cell? ⟨w2.heap.size, 18, none⟩ = some (.int .i64 port) := (B4'.cell 18).trans HPT.out; have lt4 := B4'.lt; have B3s := fun v => B3'.far (p := ⟨w2.heap.size, 0, none⟩) lt2n v; have B4s := fun v => B4'.set 0 v; have CAs := fun v => CA4.setCell (p := ⟨w2.heap.size, 0, none⟩) (.inr (by show _ ≤ w2.heap.size; omega)) v)
      | (refine wpList_storeB rfl 26 _ _ rfl w2.heap.size 26 (tgtC tgt0) (tgtC (nm, six, bs, port)) rfl rfl (Blk.new _ _ _) HI.out ((tgt_len (t := tgt0) rfl).trans (tgt_len HL.out).symm) (tgt_one _) ?_; intro w3 B4 C3 Z3; have CA := (CB.alloc _).step C3 (fun i hi => .inr (by simp at hi; omega)); have B3 := (B1'.alloc _).ch C3 (by simp; omega); have c8 : w3.cell? ⟨w2.heap.size, 0, none⟩ = some (.string nm) := B4.cell 0; have cP : w3.cell? ⟨w2.heap.size, 18, none⟩ = some (.int .i64 port) := (B4.cell 18).trans HPT.out)
      | (go_at_call 32; (with_reducible refine (HC.out _).mono ?_); rintro e w2 ⟨rfl, C2⟩; have CB := CC0.trans C2; have B1' := B0.ch C2 (by simp); have lt2 := B1'.lt; have lt2n : w.heap.size ≠ w2.heap.size := by omega))
    try simp only [Exit.inBlock, Exit.then]
    refine bodyPost_ret (results_rowF4 rfl _ _ rfl B5 Tryd.underlying26 rfl HI2.out) rfl ?_
    exact ⟨by rw [HP.out]; first | rfl | (rw [Int.add_comm 3 n]; rfl), (CAs _).step C5 (fun i hi => .inr (by simp at hi; omega))⟩
end Go.Proofs.YtiffpjlmgeklkaaDoor
