/- The walk of TrieMatchesModel (printed by mk_lawtr4.py). -/
import Derived.Test.YtjpiekljjhgmoaaDoorLawTr0
import Derived.Test.YtjpiekljjhgmoaaDoorTrAg
import Derived.Test.YtjpiekljjhgmoaaDoorTrApI
import Derived.Test.YtjpiekljjhgmoaaDoorTrGp
import Derived.Test.YtjpiekljjhgmoaaDoorMD
import Derived.Test.YtjpiekljjhgmoaaDoorRows
import Derived.Deep.DeepCutAuto
import Derived.Deep.CutRange
namespace Go.Proofs.YtjpiekljjhgmoaaDoor
open Go.ChangeShapes Go.WideShapes Go.ChangeAt Go.RowKit

theorem genModEx (v : Int) (n : Nat) (hn : 0 < n) (h1 : n ≤ 1000000) (w : World) : Calls Tryd.prog 9 #[.int .i64 v, .int .i64 n] w fun e w' => (∃ j : Nat, j < n ∧ e = .returned (.int .i64 j)) ∧ w = w' := by
  obtain ⟨k0, k1⟩ := modI_rng v (n : Int) (by omega)
  obtain ⟨j, hj⟩ := Int.eq_ofNat_of_zero_le k0
  refine (genMod v n w (by omega) (by omega)).mono fun e w' ⟨h1, h2⟩ => ⟨⟨j, by omega, by rw [h1, hj]⟩, h2⟩
abbrev OpT := Int × Pfx × Int
def opC (o : OpT) : List Value := .int .i64 o.1 :: (pfxC o.2.1 ++ [.int .i64 o.2.2])
theorem op_len {o : OpT} (h : o.2.1.2.1.length = 16) : (opC o).length = 20 := by unfold opC; rw [List.length_cons, List.length_append, pfx_len h]; rfl
theorem op_pfx {o : OpT} {j : Nat} {v : Value} (hj : (pfxC o.2.1)[j]? = some v) : (opC o)[1 + j]? = some v := by
  unfold opC
  rw [Nat.add_comm, List.getElem?_cons_succ, List.getElem?_append_left (List.getElem?_eq_some_iff.1 hj).1]
  exact hj
theorem op_x {o : OpT} (h : o.2.1.2.1.length = 16) : (opC o)[19]? = some (.int .i64 o.2.2) := by
  unfold opC
  rw [show (19 : Nat) = 18 + 1 from rfl, List.getElem?_cons_succ, List.getElem?_append_right (by rw [pfx_len h]; omega), pfx_len h]
  rfl
section
variable {H : Type} {enc : TypeId × Value → H} {W : World}
theorem Arg.addrs4 {v : Value} {d : DataW H} (h : Arg enc Tryd.prog W 61 v d) : ∃ A n cap, ∃ l : List (Bool × List Int), v = .slice A n cap ∧ n ≤ cap ∧ cap ≤ maxLen ∧ Rd W W.heap.size 17 A n (l.flatMap fun a => addrC a.1 a.2) ∧ l.length = n ∧ ∀ x ∈ l, GoodA x.2 := by
  obtain ⟨A, len, cap, l, h1, h2, h3, h4, h5, h6, h7⟩ := h.rows (f := fun a : Bool × List Int => addrC a.1 a.2) (G := fun x => GoodA x.2) (size := 17) Tryd.underlying61 (by kernel_rfl) (by omega) (fun c hc => by
    obtain ⟨six, bs, rfl, hg⟩ := hc.addr
    exact ⟨(six, bs), rfl, hg⟩) (fun x hx => addr_len hx.1)
  exact ⟨A, len, cap, l, h1, h2, h3, h5, h6, h7⟩
theorem Cl.op {cs : List Value} (h : Cl enc Tryd.prog W 64 cs) : ∃ o : OpT, cs = opC o ∧ GoodA o.2.1.2.1 := by
  have hl := (h.struct Tryd.underlying64).1
  rw [show Tryd.prog.cellsOf 64 = 20 by kernel_rfl] at hl
  obtain ⟨kd, k0, _⟩ := (h.field Tryd.underlying64 0 3 0 1 (by kernel_rfl) (by kernel_rfl)).i64 Tryd.underlying3
  obtain ⟨p, e1, hg, _⟩ := (h.field Tryd.underlying64 1 33 1 18 (by kernel_rfl) (by kernel_rfl)).pfx
  obtain ⟨x, x0, _⟩ := (h.field Tryd.underlying64 2 3 19 1 (by kernel_rfl) (by kernel_rfl)).i64 Tryd.underlying3
  refine ⟨(kd, p, x), ?_, hg⟩
  have s1 : cs = (cs.drop 0).take 1 ++ ((cs.drop 1).take 18 ++ (cs.drop 19).take 1) := by
    rw [List.drop_zero]
    conv => lhs; rw [← List.take_append_drop 1 cs, ← List.take_append_drop 18 (cs.drop 1), List.drop_drop]
    congr 2
    rw [List.take_of_length_le (l := cs.drop 19) (by rw [List.length_drop]; omega)]
  rw [s1, k0, e1, x0]; rfl
theorem Arg.ops {v : Value} {d : DataW H} (h : Arg enc Tryd.prog W 60 v d) : ∃ A n cap, ∃ l : List OpT, v = .slice A n cap ∧ n ≤ cap ∧ cap ≤ maxLen ∧ Rd W W.heap.size 20 A n (l.flatMap opC) ∧ l.length = n ∧ ∀ o ∈ l, GoodA o.2.1.2.1 := by
  obtain ⟨A, len, cap, l, h1, h2, h3, h4, h5, h6, h7⟩ := h.rows (f := opC) (G := fun o => GoodA o.2.1.2.1) (size := 20) Tryd.underlying60 (by kernel_rfl) (by omega) (fun c hc => hc.op) (fun o ho => op_len ho.1)
  exact ⟨A, len, cap, l, h1, h2, h3, h5, h6, h7⟩
end
theorem flatE_len {X : List Ent} (h : ∀ x ∈ X, x.1.2.1.length = 16) : (X.flatMap entC).length = X.length * 19 := by
  induction X with
  | nil => rfl
  | cons a l ih =>
    rw [List.flatMap_cons, List.length_append, ent_len (h a (List.mem_cons_self ..)), ih fun x hx => h x (List.mem_cons_of_mem _ hx), List.length_cons]
    omega
theorem entAll (X : List Ent) : ∀ u ∈ X.flatMap entC, u.oneCell' = true := fun u hu => by
  obtain ⟨e, _, he⟩ := List.mem_flatMap.1 hu
  exact ent_one e u he
theorem rdE_take {w : World} {B g o n : Nat} {X Y : List Ent} (h : Rd w B 19 (some ⟨g, o, none⟩) n ((X ++ Y).flatMap entC)) (hX : ∀ x ∈ X, x.1.2.1.length = 16) (hn : X.length ≤ n) : Rd w B 19 (some ⟨g, o, none⟩) X.length (X.flatMap entC) := by
  refine ⟨flatE_len hX, fun hp => ?_⟩
  obtain ⟨b, off, e, hb, hc⟩ := h.2 (by omega)
  refine ⟨b, off, e, hb, fun i v hi => hc i v ?_⟩
  rw [List.flatMap_append, List.getElem?_append_left (List.getElem?_eq_some_iff.1 hi).1]
  exact hi
theorem rdE_drop {w : World} {B g n j : Nat} {X Y : List Ent} (h : Rd w B 19 (some ⟨g, 0, none⟩) n ((X ++ Y).flatMap entC)) (hX : ∀ x ∈ X, x.1.2.1.length = 16) (hY : ∀ x ∈ Y, x.1.2.1.length = 16) (hj : X.length = j) (hn : 0 < n) (A : Option Addr) (hA : 0 < Y.length → A = some ⟨g, j * 19, none⟩) : Rd w B 19 A Y.length (Y.flatMap entC) := by
  refine ⟨flatE_len hY, fun hp => ?_⟩
  obtain ⟨b, off, e, hb, hc⟩ := h.2 hn
  obtain ⟨rfl, rfl⟩ : g = b ∧ 0 = off := by simpa using e
  refine ⟨g, j * 19, hA hp, hb, fun i v hi => ?_⟩
  have := hc (j * 19 + i) v (by
    rw [List.flatMap_append, List.getElem?_append_right (by rw [flatE_len hX, hj]; omega), flatE_len hX, hj, Nat.add_sub_cancel_left]
    exact hi)
  rwa [Nat.zero_add] at this
set_option maxRecDepth 100000 in
set_option maxHeartbeats 16000000 in
theorem trieMatchesModel_came {H : Type} {enc : TypeId × Value → H} (W : World) (args : Array Value) (ds : List (DataW H)) (_ : laidMetH Tryd.prog Rows.trieMatchesModelRow.laid W) (h : Came enc Tryd.prog Tryd.f6 W args ds) :
    Calls Tryd.prog 6 args W fun e W' => e = .returned (.bool true) ∧ Below W.heap.size W W' := by
  obtain ⟨v0, v1, d0, d1, rfl, a0, a1⟩ := h.args2 rfl
  obtain ⟨A, n, cap, l, rfl, hn1, hn2, hrl, hnl, hgl⟩ := a0.ops
  obtain ⟨Aa, na, capa, la, rfl, hna1, hna2, hrla, hnla, hgla⟩ := a1.addrs4
  clear h a0 a1
  unfold maxLen at hn2 hna2
  have hrE := hrl.rangeE (fun p hp => op_len (hgl p hp).1) (by decide)
  have hrEa := hrla.rangeE (fun p hp => addr_len (hgla p hp).1) (by decide)
  have HRE := hid hrE.2
  have HREA := hid hrEa.2
  have HGL := hid hgl
  have HGLA := hid hgla
  have HNL := hid hnl
  have HNLA := hid hnla
  clear hrl hgl hrE hrla hgla hrEa hnl hnla
  have CX := Ch.refl [] W
  go_enter Tryd.func6, Tryd.ntmps6
  go_upto_region 6 with (first
    | go_big_skip
    | (go_at_call 7; (with_reducible refine (trNewFI _).mono ?_); rintro e w1 ⟨rfl, TX, C9⟩; replace CX := CX.trans C9; have hlt1 := TX.glt; clear C9))
  generalize hg1 : W.heap.size = g1 at TX ⊢
  have HG1 : Hid (W.heap.size = g1) := hg1
  clear hg1 hlt1
  go_wp2_with fail
  go_loopw [6, 7] (fun x_ i wr => ∃ (k : Nat) (A2 : Option Addr) (c2 : Nat) (X : List Ent) (m : KM) (F : List Nat), x_ = .slice A2 X.length c2 ∧ i = .int .i64 k ∧ k ≤ n ∧ k ≤ 40 ∧ X.length ≤ k ∧ Hid (Ents m (X.map toV)) ∧ TrMI wr g1 m (X.length : Int) F ∧ Own wr g1 66 19 A2 X.length c2 (X.flatMap entC) ∧ Hid (∀ b ∈ F, g1 ≤ b ∧ b ∉ blkOf A2) ∧ Ch [] W wr) (fun _ i _ => 40 - (intOf i).toNat)
  case atStart => exact ⟨0, none, 0, [], _, [g1], rfl, rfl, by omega, by omega, by simp, Ents.nil, TX, Own.nil _ _ _ _, fun b hb => by rw [List.mem_singleton] at hb; exact ⟨by omega, by simp [blkOf]⟩, CX⟩
  case round =>
    clear TX CX
    obtain ⟨k, A2, c2, X, m, F, rfl, rfl, hk, hk4, hXk, HE, TX, own, HF, CX⟩ := hrel
    by_cases hlt : k < n
    · by_cases hl4 : k < 40
      · obtain ⟨b, off, rfl, hb, hr⟩ := HRE.out (by omega)
        obtain ⟨o, ho⟩ : ∃ o, l[k]? = some o := ⟨_, List.getElem?_eq_getElem (by rw [HNL.out]; exact hlt)⟩
        have hgo := HGL.out o (List.mem_of_getElem? ho)
        have HO : Hid (∀ w', Ch [] W w' → w'.cell? ⟨b, off + k * 20, none⟩ = some (.int .i64 o.1) ∧ w'.rangeAt b (off + k * 20 + 1) (pfxC o.2.1) ∧ w'.cell? ⟨b, off + k * 20 + 19, none⟩ = some (.int .i64 o.2.2)) := fun w' c => by
          have hr' := range_ch (hr k o ho) c hb (by simp)
          exact ⟨hr' 0 _ rfl, fun j v hj => by rw [Nat.add_assoc]; exact hr' (1 + j) v (op_pfx hj), hr' 19 _ (op_x hgo.1)⟩
        have HIP := hid (pfx_inf (p := o.2.1) hgo.1)
        have HGP := hid (genPfx o.2.1 hgo)
        have HOK := hid (genP_ok hgo)
        have HGO := hid hgo
        generalize genP o.2.1 = q at HGP HOK
        have HIQ := hid (pfx_inf (p := q) HOK.out.g.1)
        have HLQ : Hid ((pfxC (false, zeros, 0)).length = (pfxC q).length) := by show _ = _; rw [pfx_len HOK.out.g.1]; rfl
        have hi0 : (0 : Int) ≤ k := by omega
        have hi1 : (k : Int) < n := by omega
        have hi2 : (k : Int) < 40 := by omega
        clear ho hgo hr
        go_upto_if 35 with (first
          | go_big_skip
          | (refine wpList_load_want rfl 33 _ rfl b (off + k * 20 + 1) rfl (pfxC o.2.1) _ (HO.out _ CX).2.1 Tryd.underlying33 rfl HIP.out ?_)
          | (go_at_call 17; (with_reducible refine (HGP.out _).mono ?_); rintro e w3 ⟨rfl, C9⟩; replace TX := TX.nil C9; replace own := own.ch C9 (by simp); replace CX := CX.trans C9; clear C9; have ltT := TX.lt; have sz3 := CX.size; have ob3 := own.blks)
          | (refine wpList_storeB rfl 33 _ _ rfl w3.heap.size 33 (pfxC (false, zeros, 0)) (pfxC q) rfl rfl (Blk.new _ _ _) HIQ.out HLQ.out (pfx_one q) ?_; intro w4 PB D Z; clear Z; have D2 := ((Ch.refl [] w3).alloc _).step D (fun i hi => .inr (by simp at hi; omega)); replace TX := TX.nil D2; replace own := own.ch D2 (by simp); replace CX := CX.trans D2; clear D D2))
        have HD : Hid ((∀ b ∈ F, b ≠ w3.heap.size) ∧ w3.heap.size ∉ blkOf A2 ∧ g1 ≤ w3.heap.size) := ⟨fun b hb => by have := ltT b hb; omega, fun h => by have := (ob3 _ h).2; omega, by have := HG1.out; omega⟩
        generalize w3.heap.size = gp at PB HD ⊢
        clear ltT sz3 ob3
        have HGQ := hid HOK.out.g
        clear HOK HGP HIQ HLQ
        generalize hb9 : ((k : Int) % 9 == 8) = b9
        clear hb9
        go_cut [] from 17 to 179 (fun wx => ∃ q2 : Pfx, Hid (GoodA q2.2.1) ∧ Blk wx gp 33 (pfxC q2) ∧ TrMI wx g1 m (X.length : Int) F ∧ Own wx g1 66 19 A2 X.length c2 (X.flatMap entC) ∧ Ch [] W wx)
        case first => as_aux_lemma =>
          cases b9
          · go_wp2_with fail
            go_meet
            exact ⟨q, HGQ, PB, TX, own, CX⟩
          · have HLQ : Hid ((pfxC q).length = (pfxC o.2.1).length) := by show _ = _; rw [pfx_len HGQ.out.1, pfx_len HGO.out.1]
            go_wp2_with (first
              | (refine wpList_load_want rfl 33 _ rfl b (off + k * 20 + 1) rfl (pfxC o.2.1) _ (HO.out _ CX).2.1 Tryd.underlying33 rfl HIP.out ?_)
              | (refine wpList_storeB rfl 33 _ _ rfl gp 33 (pfxC q) (pfxC o.2.1) rfl rfl PB HIP.out HLQ.out (pfx_one _) ?_; intro w5 PB5 D Z; clear Z))
            go_meet
            exact ⟨o.2.1, HGO, PB5, TX.ch D (fun b hb h => HD.out.1 b hb (by simpa using h)), own.ch D (fun b hb h => HD.out.2.1 (by rw [List.mem_singleton] at h; exact h ▸ hb)), CX.step D (fun i hi => .inr (by rw [List.mem_singleton] at hi; have := HD.out.2.2; have := HG1.out; omega))⟩
        case rest =>
          obtain ⟨q2, HGQ2, PB2, TX2, own2, CX2⟩ := hcut
          clear PB TX own CX HGQ
          go_upto_region 11 with fail
          go_cut [52] from 17 to 179 (fun v wx => ∃ bb : Bool, v = .bool bb ∧ (bb = true → 0 < X.length) ∧ wx = wc)
          case first => as_aux_lemma =>
            have e19 := (HO.out _ CX2).2.2
            rcases Nat.eq_zero_or_pos X.length with h0 | hpos
            · have hXi : ¬ (X.length : Int) > 0 := by omega
              clear h0
              go_wp2_with go_big_skip
              go_meet
              exact ⟨false, rfl, by simp, rfl⟩
            · have hXi : (X.length : Int) > 0 := by omega
              go_wp2_with (first
                | go_big_skip
                | (go_at_call 9; (with_reducible refine (genMod _ _ _ ?_ ?_).mono ?_); omega; omega; rintro e w' ⟨rfl, rfl⟩))
              go_meet
              exact ⟨_, rfl, fun _ => hpos, rfl⟩
          case rest =>
            obtain ⟨bb, rfl, hbb, hw⟩ := hcut
            subst hw
            go_upto_if 52 with fail
            go_cut [] from 17 to 179 (fun wx => ∃ q2 : Pfx, Hid (GoodA q2.2.1) ∧ Blk wx gp 33 (pfxC q2) ∧ TrMI wx g1 m (X.length : Int) F ∧ Own wx g1 66 19 A2 X.length c2 (X.flatMap entC) ∧ Ch [] W wx)
            case first => as_aux_lemma =>
              cases bb
              · go_wp2_with fail
                go_meet
                exact ⟨q2, HGQ2, PB2, TX2, own2, CX2⟩
              · have hpos := hbb rfl
                have e19 := (HO.out _ CX2).2.2
                have hXi : (X.length : Int) > 0 := by omega
                have HXG : Hid (∀ x ∈ X, GoodA x.1.2.1) := fun x hx => (ents_ok HE.out x hx).g
                obtain ⟨_, hrX⟩ := own2.rd.rangeE (fun x hx => ent_len (HXG.out x hx).1) (by omega)
                obtain ⟨bX, oX, rfl, hbX, hrX⟩ := hrX hpos
                have HRX := hid hrX
                clear hrX hbX
                go_wp2_with (first
                  | (go_at_call 9; (with_reducible refine (genModEx _ X.length hpos (by omega) _).mono ?_); rintro e w' ⟨⟨j, hj, rfl⟩, rfl⟩; obtain ⟨ej, hej⟩ : ∃ ej, X[j]? = some ej := ⟨_, List.getElem?_eq_getElem hj⟩; have hji : (j : Int) < X.length := (by omega); have hgj := HXG.out ej (List.mem_of_getElem? hej); have HRJ : Hid (wc.rangeAt bX (oX + j * 19) (pfxC ej.1)) := (fun i v hi => HRX.out j ej hej i v (ent_pfx hi)); have HIJ := hid (pfx_inf (p := ej.1) hgj.1); have HLJ : Hid ((pfxC q2).length = (pfxC ej.1).length) := (by show _ = _; rw [pfx_len HGQ2.out.1, pfx_len hgj.1]))
                  | (refine wpList_load_want rfl 33 _ rfl bX (oX + j * 19) rfl (pfxC ej.1) _ HRJ.out Tryd.underlying33 rfl HIJ.out ?_)
                  | (refine wpList_storeB rfl 33 _ _ rfl gp 33 (pfxC q2) (pfxC ej.1) rfl rfl PB2 HIJ.out HLJ.out (pfx_one _) ?_; intro w5 PB5 D Z; clear Z))
                go_meet
                exact ⟨ej.1, hgj, PB5, TX2.ch D (fun b hb h => HD.out.1 b hb (by simpa using h)), own2.ch D (fun b hb h => HD.out.2.1 (by rw [List.mem_singleton] at h; exact h ▸ hb)), CX2.step D (fun i hi => .inr (by rw [List.mem_singleton] at hi; have := HD.out.2.2; have := HG1.out; omega))⟩
            case rest =>
              obtain ⟨q, HGQ, PB, TX, own, CX⟩ := hcut
              clear PB2 TX2 own2 CX2 HGQ2 hbb
              have HIQ := hid (pfx_inf (p := q) HGQ.out.1)
              have HX16 : Hid (∀ x ∈ X, x.1.2.1.length = 16) := fun x hx => (ents_ok HE.out x hx).g.1
              have HFN : Hid (∀ w B, Rd w B 19 A2 X.length (X.flatMap entC) → B ≤ w.heap.size → Calls Tryd.prog 30 #[.slice A2 X.length c2, .agg (pfxC q).toArray] w fun e w' => e = .returned (.int .i64 (idxE q X 0)) ∧ Ch [] w w') := fun w B r hB => lawFind q HGQ.out.1 w A2 X.length c2 B X r hB (by omega) HX16.out
              have ltP := PB.lt
              go_upto_if 75 with (first
                | go_big_skip
                | (refine wpList_load_want rfl 33 _ rfl gp 0 rfl (pfxC q) _ PB.range Tryd.underlying33 rfl HIQ.out ?_)
                | (go_at_call 30; (with_reducible refine (HFN.out _ _ own.rd (Nat.le_refl _)).mono ?_); rintro e w6 ⟨rfl, C9⟩; replace TX := TX.nil C9; replace own := own.ch C9 (by simp); replace PB := PB.ch C9 (by simp); replace CX := CX.trans C9; clear C9; have e0 := (HO.out _ CX).1)
                | (go_at_call 9; (with_reducible refine (genMod _ _ _ ?_ ?_).mono ?_); omega; omega; rintro e w' ⟨rfl, rfl⟩))
              generalize hkb : (decide (modI o.1 6 < 4)) = kb
              clear hkb
              have hx6 : 0 ≤ (X.length : Int) ∧ (X.length : Int) ≤ 1000000 := by omega
              have HVP := hid (refValidPfx q.1 q.2.1 q.2.2 HGQ.out)
              have lt6 := PB.lt
              go_cut [6, 9] from 17 to 179 (fun x_ _ wx => ∃ (A3 : Option Addr) (c3 : Nat) (Y : List Ent) (m3 : KM) (F3 : List Nat), x_ = .slice A3 Y.length c3 ∧ Y.length ≤ X.length + 1 ∧ Hid (Ents m3 (Y.map toV)) ∧ TrMI wx g1 m3 (Y.length : Int) F3 ∧ Own wx g1 66 19 A3 Y.length c3 (Y.flatMap entC) ∧ Hid (∀ b ∈ F3, g1 ≤ b ∧ b ∉ blkOf A3) ∧ Blk wx gp 33 (pfxC q) ∧ Ch [] W wx)
              case first => as_aux_lemma =>
                cases kb
                · rcases idxE_cases q X with ⟨hi, hno⟩ | ⟨j, ej, hi, hj, hje⟩
                  · simp only [hi]
                    have HMG : Hid (mget m q = none) := (HE.out.get_none HGQ.out).2 (fun e he => by
                      obtain ⟨e', he', rfl⟩ := List.mem_map.1 he
                      exact hno e' he')
                    clear hi hno HVP HFN
                    go_wp2_with (first
                      | (refine wpList_load_want rfl 33 _ rfl gp 0 rfl (pfxC q) _ PB.range Tryd.underlying33 rfl HIQ.out ?_)
                      | (go_at_call 33; (with_reducible refine (trDelNFI TX q HGQ.out HMG.out).mono ?_); rintro e w7 ⟨rfl, C9⟩; replace TX := TX.nil C9; replace own := own.ch C9 (by simp); replace PB := PB.ch C9 (by simp); replace CX := CX.trans C9; clear C9))
                    go_meet
                    exact ⟨A2, c2, X, m, F, rfl, by omega, HE, TX, own, HF, PB, CX⟩
                  · simp only [hi]
                    have hjl : j < X.length := (List.getElem?_eq_some_iff.1 hj).1
                    obtain ⟨X1, X2, hX12, hX1⟩ : ∃ X1 X2, X = X1 ++ ej :: X2 ∧ X1.length = j := ⟨X.take j, X.drop (j + 1), by
                      conv => lhs; rw [← List.take_append_drop j X, List.drop_eq_getElem_cons hjl, (List.getElem?_eq_some_iff.1 hj).2], by rw [List.length_take]; omega⟩
                    have hokq : OkP q := hje ▸ ents_ok HE.out ej (List.mem_of_getElem? hj)
                    have hmv : m (keyP q) = some (.int .i64 ej.2) := by
                      have := HE.out.mem (toV ej) (List.mem_map.2 ⟨ej, List.mem_of_getElem? hj, rfl⟩)
                      simp only [toV] at this
                      rw [hje] at this
                      exact this
                    have HOKQ := hid hokq
                    have HMV := hid hmv
                    have HEY : Hid (Ents (mdel m (keyP q)) ((X1 ++ X2).map toV)) := by
                      have h1 := HE.out
                      rw [hX12, List.map_append, List.map_cons] at h1
                      have := h1.del
                      rw [List.map_append]
                      simp only [toV] at this ⊢
                      rw [hje] at this
                      exact this
                    have hji0 : (0 : Int) ≤ j := by omega
                    have hji1 : (j : Int) < X.length := by omega
                    clear hokq hmv hi hj hje HVP HFN
                    go_upto_region 22 with (first
                      | (refine wpList_load_want rfl 33 _ rfl gp 0 rfl (pfxC q) _ PB.range Tryd.underlying33 rfl HIQ.out ?_)
                      | (go_at_call 33; (with_reducible refine (trDelFI TX hx6 q HOKQ.out HMV.out).mono ?_); rintro e w7 ⟨rfl, F7, T7, C7, G7⟩))
                    have HF7 : Hid (∀ b ∈ F7, g1 ≤ b) := fun b hb => by
                      rcases G7 b hb with h | h
                      · exact (HF.out b h).1
                      · have h2 : w6.heap.size ≤ b := h
                        have := HD.out.2.2
                        omega
                    clear G7
                    replace own := own.ch C7 (fun b hb h => (HF.out b h).2 hb)
                    replace PB := PB.ch C7 (fun h => HD.out.1 _ h rfl)
                    replace CX := CX.step C7 (fun i hi => .inr (by have := (HF.out i hi).1; have := HG1.out; omega))
                    replace TX := T7
                    clear T7 C7
                    obtain ⟨gA, rfl, hA1, hA2⟩ := own.form (by omega)
                    have hcap := own.cap
                    have hX2l : X.length = j + (X2.length + 1) := by rw [hX12, List.length_append, List.length_cons, hX1]
                    have hg16 : ∀ x ∈ X, x.1.2.1.length = 16 := HX16.out
                    have g1X : ∀ x ∈ X1, x.1.2.1.length = 16 := fun x hx => hg16 x (by rw [hX12]; exact List.mem_append_left _ hx)
                    have g2X : ∀ x ∈ X2, x.1.2.1.length = 16 := fun x hx => hg16 x (by rw [hX12]; exact List.mem_append_right _ (List.mem_cons_of_mem _ hx))
                    have gej : ej.1.2.1.length = 16 := hg16 ej (by rw [hX12]; simp)
                    have rdA : Rd w7 w7.heap.size 19 (some ⟨gA, 0, none⟩) j (X1.flatMap entC) := by
                      have := own.rd
                      rw [hX12] at this
                      have := rdE_take this g1X (by rw [← hX12]; omega)
                      rw [hX1] at this
                      exact this
                    obtain ⟨A5, hA5⟩ : ∃ A5, (if c2 = j + 1 then some (⟨gA, 0, none⟩ : Addr) else some ⟨gA, (j + 1) * 19, none⟩) = A5 := ⟨_, rfl⟩
                    have rdB : Rd w7 w7.heap.size 19 A5 X2.length (X2.flatMap entC) := by
                      have := own.rd
                      rw [hX12, show X1 ++ ej :: X2 = (X1 ++ [ej]) ++ X2 by simp] at this
                      refine rdE_drop this (fun x hx => ?_) g2X (j := j + 1) (by simp [hX1]) (by simp; omega) A5 (fun hp => ?_)
                      · rcases List.mem_append.1 hx with h | h
                        · exact g1X x h
                        · rw [List.mem_singleton] at h; subst h; exact gej
                      · rw [← hA5, if_neg (by omega)]
                    have hl5 : j + (X2.length + 1) - (j + 1) = X2.length := by omega
                    have hX40 : X.length ≤ 40 := by omega
                    clear hg16 g1X g2X gej
                    refine wp_region_stagesM [⟨0, 0, 40564819207303340847894502572032⟩, ⟨0, 64, 81129638414606681695789005144064⟩, ⟨0, 512, 162259276829213363391578010288128⟩, ⟨6, 243388915243820045087367015432192, 324518553658426726783156020576256⟩, ⟨9, 365083372865730067631050523148288, 649037107316853453566312041152512⟩, ⟨0, 64, 1298074214633706907132624082305024⟩, ⟨0, 512, 2596148429267413814265248164610048⟩, ⟨64, 2596148429267413814265248164610048, 5192296858534827628530496329220096⟩, ⟨160, 6490371073168534535663120411525120, 10384593717069655257060992658440192⟩, ⟨272, 11033630824386508710627304699592704, 20769187434139310514121985316880384⟩, ⟨1023, 20769187434139310514121985316880384, 64⟩] [([1, 2, 3, 5, 6, 7, 8], 0, [1, 2, 3, 5, 6, 7, 8]), ([], 4, [5, 6, 7, 8]), ([], 9, [])] [10] (by kernel_rfl) (by kernel_rfl) ?_
                    refine wpStages_step ?_
                    try simp only [pick, List.map_cons, List.map_nil, List.getD_cons_zero, List.getD_cons_succ]
                    repeat (go_big_quiet_step (fail))
                    try simp only [hl5, hA5]
                    refine wpQuiet_nil ?_
                    intro n3
                    try simp only [pick, List.map_cons, List.map_nil, List.getD_cons_zero]
                    go_wp2_with fail
                    have own0 : Own ((w7.drewN n3).alloc (.cells #[] 66)) w7.heap.size 66 19 (some ⟨w7.heap.size, 0, none⟩) 0 0 [] := Own.new (w7.drewN n3) w7.heap.size _ 19 [] 0 (Nat.le_refl _) (by unfold maxLen; omega) rfl
                    have D0 : Ch [] w7 ((w7.drewN n3).alloc (.cells #[] 66)) := ((Ch.refl [] w7).drewN n3).alloc _
                    generalize (w7.drewN n3).alloc (.cells #[] 66) = w8 at own0 D0 ⊢
                    have rdA0 := rdA.ch D0 (Nat.le_refl _) (by simp)
                    have sz8 := D0.size
                    refine stagePost_mk ?_ ?_
                    · intro o' ho'
                      simp only [pick, List.map_cons, List.map_nil, List.getD_cons_zero, List.getD_cons_succ, List.mem_cons, List.not_mem_nil, or_false] at ho'
                      rcases ho' with rfl | rfl | rfl | rfl | rfl | rfl | rfl
                      all_goals
                        refine float_any ?_
                        repeat (go_big_quiet_step (fail))
                        try simp only [hl5, hA5]
                        refine wpQuiet_nil ?_
                        rfl
                    refine wpStages_step ?_
                    try simp only [pick, List.map_nil]
                    refine wpQuiet_nil ?_
                    intro n4
                    try simp only [pick, List.map_cons, List.map_nil, List.getD_cons_zero, List.getD_cons_succ]
                    go_wp2_with (at_builtin; (refine wpList_app _ rfl (.tmp 105) (.tmp 108) _ rfl w7.heap.size 66 _ 19 40 Tryd.underlying62 ent_infoZ rfl (by omega) _ _ _ _ rfl (own0.drewN n4) _ _ _ _ (X1.flatMap entC) rfl (rdA0.drewN n4) (entAll X1) (by unfold maxLen; omega) (by omega) (show w7.heap.size ≤ w8.heap.size from sz8) ?_; intro A4 c4 w9 own4 ch4 at4))
                    simp only [Nat.zero_add, List.nil_append] at own4
                    have E9 : Ch [] w7 w9 := (D0.drewN n4).step ch4 (fun i hi => .inr (by simp [blkOf] at hi; omega))
                    have rdB4 := rdB.ch E9 (Nat.le_refl _) (by simp)
                    have ob4 := own4.blks
                    have sz9 := E9.size
                    refine stagePost_mk ?_ ?_
                    · intro o' ho'
                      simp only [pick, List.map_cons, List.map_nil, List.getD_cons_zero, List.getD_cons_succ, List.mem_cons, List.not_mem_nil, or_false] at ho'
                      rcases ho' with rfl | rfl | rfl | rfl
                      all_goals
                        refine float_any ?_
                        repeat (go_big_quiet_step (fail))
                        try simp only [hl5, hA5]
                        refine wpQuiet_nil ?_
                        rfl
                    refine wpStages_step ?_
                    try simp only [pick, List.map_nil]
                    refine wpQuiet_nil ?_
                    intro n5
                    try simp only [pick, List.map_cons, List.map_nil, List.getD_cons_zero, List.getD_cons_succ]
                    go_wp2_with (at_builtin; (refine wpList_app _ rfl (.tmp 109) (.tmp 113) _ rfl w7.heap.size 66 _ 19 40 Tryd.underlying62 ent_infoZ rfl (by omega) _ _ _ _ rfl (own4.drewN n5) _ _ _ _ (X2.flatMap entC) rfl (rdB4.drewN n5) (entAll X2) (by unfold maxLen; omega) (by omega) (show w7.heap.size ≤ w9.heap.size from sz9) ?_; intro A6 c6 wa own6 ch6 at6))
                    have Ea : Ch [] w7 wa := (E9.drewN n5).step ch6 (fun i hi => .inr (ob4 i hi).1)
                    refine stagePost_mk (by simp [pick]) ?_
                    refine wpStages_last ?_
                    try simp only [pick, List.map_cons, List.map_nil, List.getD_cons_zero, List.getD_cons_succ]
                    repeat (go_big_quiet_step (fail))
                    refine wpQuiet_nil ?_
                    intro n6
                    have lt7 := TX.lt
                    have sz7 : g1 ≤ w7.heap.size := by have := PB.lt; have := HD.out.2.2; omega
                    have ob6 : ∀ b ∈ blkOf A6, w7.heap.size ≤ b := fun b hb => (own6.blks b hb).1
                    have hyl : (X1 ++ X2).length = j + X2.length := by rw [List.length_append, hX1]
                    have TY : TrMI w7 g1 (mdel m (keyP q)) ((X1 ++ X2).length : Int) F7 := by
                      have : ((X1 ++ X2).length : Int) = (X.length : Int) - 1 := by omega
                      rw [this]
                      exact TX
                    have own7 : Own wa g1 66 19 A6 (X1 ++ X2).length c6 ((X1 ++ X2).flatMap entC) := by
                      rw [hyl, List.flatMap_append]
                      exact own6.base sz7
                    go_wp2_with fail
                    go_meet
                    exact ⟨A6, c6, X1 ++ X2, _, F7, by rw [hyl], by omega, HEY, (TY.nil Ea).drewN n6, own7.drewN n6, fun b hb => ⟨HF7.out b hb, fun h => by have := ob6 b h; have := lt7 b hb; omega⟩, (PB.ch Ea (by simp)).drewN n6, (CX.trans Ea).drewN n6⟩
                · cases hvq : validP q with
                  | false =>
                    replace HVP : Hid (∀ w, Calls Tryd.prog 31 #[.agg (pfxC q).toArray] w fun e w' => e = .returned (.bool false) ∧ Ch [] w w') := by
                      show ∀ w, _
                      rw [← hvq]
                      exact HVP.out
                    have HBAD := hid hvq
                    clear hvq
                    go_upto_region 15 with fail
                    have e19 := (HO.out _ CX).2.2
                    refine wp_region_stagesM [⟨0, 32, 75557863725914323419136⟩, ⟨0, 256, 151115727451828646838272⟩, ⟨0, 1, 302231454903657293676544⟩, ⟨0, 128, 604462909807314587353088⟩, ⟨12, 906694364710971881029632, 1208925819614629174706176⟩, ⟨16, 1208925819614629174706176, 2417851639229258349412352⟩, ⟨32, 2417851639229258349412352, 4835703278458516698824704⟩, ⟨67, 5062376869636259669082112, 9671406556917033397649408⟩, ⟨0, 256, 19342813113834066795298816⟩, ⟨384, 19342813113834066795298816, 38685626227668133590597632⟩, ⟨640, 48357032784585166988247040, 77371252455336267181195264⟩] [([0, 1, 2, 3, 4, 5, 6, 8], 7, [8]), ([], 9, [])] [10] (by kernel_rfl) (by kernel_rfl) ?_
                    refine wpStages_step ?_
                    try simp only [pick, List.map_cons, List.map_nil, List.getD_cons_zero, List.getD_cons_succ]
                    repeat (first
                      | (refine wpQuiet_row rfl 33 _ rfl gp 0 rfl (pfxC q) _ (fun w' ⟨q, hq⟩ => hq ▸ (PB.drewN q).range) Tryd.underlying33 rfl HIQ.out ?_; simp only [Act.put, List.setIfInBounds_toArray, List.set_cons_succ, List.set_cons_zero])
                      | go_big_quiet_step (fail))
                    refine wpQuiet_nil ?_
                    intro n0
                    try simp only [pick, List.map_cons, List.map_nil, List.getD_cons_zero, List.getD_cons_succ]
                    go_wp2_with (go_at_call 12; (with_reducible refine (trInsBadFI q HGQ.out HBAD.out o.2.2).mono ?_); rintro e w7 ⟨rfl, C7⟩)
                    have C7' := ((Ch.refl [] w6).drewN n0).trans C7
                    replace TX := TX.nil C7'
                    replace own := own.ch C7' (by simp)
                    replace PB := PB.ch C7' (by simp)
                    replace CX := CX.trans C7'
                    refine stagePost_mk ?_ ?_
                    · intro o' ho'
                      simp only [pick, List.map_cons, List.map_nil, List.getD_cons_zero, List.getD_cons_succ, List.mem_cons, List.not_mem_nil, or_false] at ho'
                      subst ho'
                      refine float_any ?_
                      repeat (first
                        | (refine wpQuiet_row rfl 33 _ rfl gp 0 rfl (pfxC q) _ (fun w' ⟨q, hq⟩ => hq ▸ (PB.drewN q).range) Tryd.underlying33 rfl HIQ.out ?_; simp only [Act.put, List.setIfInBounds_toArray, List.set_cons_succ, List.set_cons_zero])
                        | go_big_quiet_step (fail))
                      refine wpQuiet_nil ?_
                      rfl
                    refine wpStages_step ?_
                    try simp only [pick, List.map_nil]
                    repeat (first
                      | (refine wpQuiet_row rfl 33 _ rfl gp 0 rfl (pfxC q) _ (fun w' ⟨q, hq⟩ => hq ▸ (PB.drewN q).range) Tryd.underlying33 rfl HIQ.out ?_; simp only [Act.put, List.setIfInBounds_toArray, List.set_cons_succ, List.set_cons_zero])
                      | go_big_quiet_step (fail))
                    refine wpQuiet_nil ?_
                    intro n1
                    try simp only [pick, List.map_cons, List.map_nil, List.getD_cons_zero, List.getD_cons_succ]
                    go_wp2_with (go_at_call 31; (with_reducible refine (HVP.out _).mono ?_); rintro e w8 ⟨rfl, C8⟩)
                    have C8' := ((Ch.refl [] w7).drewN n1).trans C8
                    replace TX := TX.nil C8'
                    replace own := own.ch C8' (by simp)
                    replace PB := PB.ch C8' (by simp)
                    replace CX := CX.trans C8'
                    refine stagePost_mk (by simp [pick]) ?_
                    refine wpStages_last ?_
                    try simp only [pick, List.map_cons, List.map_nil, List.getD_cons_zero, List.getD_cons_succ]
                    repeat (first
                      | (refine wpQuiet_row rfl 33 _ rfl gp 0 rfl (pfxC q) _ (fun w' ⟨q, hq⟩ => hq ▸ (PB.drewN q).range) Tryd.underlying33 rfl HIQ.out ?_; simp only [Act.put, List.setIfInBounds_toArray, List.set_cons_succ, List.set_cons_zero])
                      | go_big_quiet_step (fail))
                    refine wpQuiet_nil ?_
                    intro n2
                    have D2 := (Ch.refl [] w8).drewN n2
                    replace TX := TX.nil D2
                    replace own := own.ch D2 (by simp)
                    replace PB := PB.ch D2 (by simp)
                    replace CX := CX.trans D2
                    go_wp2_with (first
                      | (refine wpList_load_want rfl 33 _ rfl gp 0 rfl (pfxC q) _ PB.range Tryd.underlying33 rfl HIQ.out ?_)
                      | (go_at_call 31; (with_reducible refine (HVP.out _).mono ?_); rintro e w9 ⟨rfl, C9⟩; replace TX := TX.nil C9; replace own := own.ch C9 (by simp); replace PB := PB.ch C9 (by simp); replace CX := CX.trans C9; clear C9))
                    go_meet
                    exact ⟨A2, c2, X, m, F, rfl, by omega, HE, TX, own, HF, PB, CX⟩
                  | true =>
                    replace HVP : Hid (∀ w, Calls Tryd.prog 31 #[.agg (pfxC q).toArray] w fun e w' => e = .returned (.bool true) ∧ Ch [] w w') := by
                      show ∀ w, _
                      rw [← hvq]
                      exact HVP.out
                    have HOKQ : Hid (OkP q) := ⟨HGQ.out, hvq⟩
                    have HPT : Hid (∀ w B, Rd w B 19 A2 X.length (X.flatMap entC) → B ≤ w.heap.size → Calls Tryd.prog 32 #[.slice A2 X.length c2, .agg (pfxC q).toArray, .int .i64 o.2.2] w fun e w' => ∃ A' c', e = .returned (.slice A' (putX X q o.2.2).length c') ∧ Own w' w.heap.size 66 19 A' (putX X q o.2.2).length c' ((putX X q o.2.2).flatMap entC) ∧ Ch [] w w') := fun w B r hB => lawPut q HGQ.out o.2.2 w A2 X.length c2 B X r hB (by omega) (fun x hx => (ents_ok HE.out x hx).g)
                    clear hvq
                    go_upto_region 15 with fail
                    have e19 := (HO.out _ CX).2.2
                    refine wp_region_stagesM [⟨0, 32, 75557863725914323419136⟩, ⟨0, 256, 151115727451828646838272⟩, ⟨0, 1, 302231454903657293676544⟩, ⟨0, 128, 604462909807314587353088⟩, ⟨12, 906694364710971881029632, 1208925819614629174706176⟩, ⟨16, 1208925819614629174706176, 2417851639229258349412352⟩, ⟨32, 2417851639229258349412352, 4835703278458516698824704⟩, ⟨67, 5062376869636259669082112, 9671406556917033397649408⟩, ⟨0, 256, 19342813113834066795298816⟩, ⟨384, 19342813113834066795298816, 38685626227668133590597632⟩, ⟨640, 48357032784585166988247040, 77371252455336267181195264⟩] [([0, 1, 2, 3, 4, 5, 6, 8], 7, [8]), ([], 9, [])] [10] (by kernel_rfl) (by kernel_rfl) ?_
                    refine wpStages_step ?_
                    try simp only [pick, List.map_cons, List.map_nil, List.getD_cons_zero, List.getD_cons_succ]
                    repeat (first
                      | (refine wpQuiet_row rfl 33 _ rfl gp 0 rfl (pfxC q) _ (fun w' ⟨q, hq⟩ => hq ▸ (PB.drewN q).range) Tryd.underlying33 rfl HIQ.out ?_; simp only [Act.put, List.setIfInBounds_toArray, List.set_cons_succ, List.set_cons_zero])
                      | go_big_quiet_step (fail))
                    refine wpQuiet_nil ?_
                    intro n0
                    try simp only [pick, List.map_cons, List.map_nil, List.getD_cons_zero, List.getD_cons_succ]
                    have TXd := TX.drewN n0
                    go_wp2_with (go_at_call 12; (with_reducible refine (trInsFI TXd hx6 q HOKQ.out o.2.2).mono ?_); rintro e w7 ⟨rfl, F7, T7, C7, G7⟩)
                    have C7' := ((Ch.refl F w6).drewN n0).trans C7
                    have hpl := HE.out.put_len HOKQ.out (.int .i64 o.2.2) (n := (X.length : Int)) (by rw [List.length_map])
                    have hpm : (putX X q o.2.2).map toV = putE (X.map toV) q (.int .i64 o.2.2) := putX_map X q o.2.2
                    have hyl : (putE (X.map toV) q (.int .i64 o.2.2)).length = (putX X q o.2.2).length := by rw [← hpm, List.length_map]
                    rw [hyl] at hpl
                    have hy1 : (putX X q o.2.2).length ≤ X.length + 1 := by split at hpl <;> omega
                    rw [hpl] at T7
                    have HE7 : Hid (Ents (mset m (keyP q) (.int .i64 o.2.2)) ((putX X q o.2.2).map toV)) := by
                      show Ents _ _
                      rw [hpm]
                      exact HE.out.put HOKQ.out _
                    have HF7 : Hid (∀ b ∈ F7, g1 ≤ b) := fun b hb => by
                      rcases G7 b hb with h | h
                      · exact (HF.out b h).1
                      · have h2 : w6.heap.size ≤ b := h
                        have := HD.out.2.2
                        omega
                    clear TXd hpl hpm hyl G7
                    replace own := own.ch C7' (fun b hb h => (HF.out b h).2 hb)
                    replace PB := PB.ch C7' (fun h => HD.out.1 _ h rfl)
                    replace CX := CX.step C7' (fun i hi => .inr (by have := (HF.out i hi).1; have := HG1.out; omega))
                    replace TX := T7
                    clear T7 C7 C7'
                    refine stagePost_mk ?_ ?_
                    · intro o' ho'
                      simp only [pick, List.map_cons, List.map_nil, List.getD_cons_zero, List.getD_cons_succ, List.mem_cons, List.not_mem_nil, or_false] at ho'
                      subst ho'
                      refine float_any ?_
                      repeat (first
                        | (refine wpQuiet_row rfl 33 _ rfl gp 0 rfl (pfxC q) _ (fun w' ⟨q, hq⟩ => hq ▸ (PB.drewN q).range) Tryd.underlying33 rfl HIQ.out ?_; simp only [Act.put, List.setIfInBounds_toArray, List.set_cons_succ, List.set_cons_zero])
                        | go_big_quiet_step (fail))
                      refine wpQuiet_nil ?_
                      rfl
                    refine wpStages_step ?_
                    try simp only [pick, List.map_nil]
                    repeat (first
                      | (refine wpQuiet_row rfl 33 _ rfl gp 0 rfl (pfxC q) _ (fun w' ⟨q, hq⟩ => hq ▸ (PB.drewN q).range) Tryd.underlying33 rfl HIQ.out ?_; simp only [Act.put, List.setIfInBounds_toArray, List.set_cons_succ, List.set_cons_zero])
                      | go_big_quiet_step (fail))
                    refine wpQuiet_nil ?_
                    intro n1
                    try simp only [pick, List.map_cons, List.map_nil, List.getD_cons_zero, List.getD_cons_succ]
                    go_wp2_with (go_at_call 31; (with_reducible refine (HVP.out _).mono ?_); rintro e w8 ⟨rfl, C8⟩)
                    have C8' := ((Ch.refl [] w7).drewN n1).trans C8
                    replace TX := TX.nil C8'
                    replace own := own.ch C8' (by simp)
                    replace PB := PB.ch C8' (by simp)
                    replace CX := CX.trans C8'
                    refine stagePost_mk (by simp [pick]) ?_
                    refine wpStages_last ?_
                    try simp only [pick, List.map_cons, List.map_nil, List.getD_cons_zero, List.getD_cons_succ]
                    repeat (first
                      | (refine wpQuiet_row rfl 33 _ rfl gp 0 rfl (pfxC q) _ (fun w' ⟨q, hq⟩ => hq ▸ (PB.drewN q).range) Tryd.underlying33 rfl HIQ.out ?_; simp only [Act.put, List.setIfInBounds_toArray, List.set_cons_succ, List.set_cons_zero])
                      | go_big_quiet_step (fail))
                    refine wpQuiet_nil ?_
                    intro n2
                    have D2 := (Ch.refl [] w8).drewN n2
                    replace TX := TX.nil D2
                    replace own := own.ch D2 (by simp)
                    replace PB := PB.ch D2 (by simp)
                    replace CX := CX.trans D2
                    go_upto_region 18 with (first
                      | (refine wpList_load_want rfl 33 _ rfl gp 0 rfl (pfxC q) _ PB.range Tryd.underlying33 rfl HIQ.out ?_)
                      | (go_at_call 31; (with_reducible refine (HVP.out _).mono ?_); rintro e w9 ⟨rfl, C9⟩; replace TX := TX.nil C9; replace own := own.ch C9 (by simp); replace PB := PB.ch C9 (by simp); replace CX := CX.trans C9; clear C9))
                    have e19' := (HO.out _ CX).2.2
                    refine wp_region_stagesM [⟨0, 64, 618970019642690137449562112⟩, ⟨0, 256, 1237940039285380274899124224⟩, ⟨0, 1, 2475880078570760549798248448⟩, ⟨0, 128, 4951760157141521099596496896⟩, ⟨12, 7427640235712281649394745344, 9903520314283042199192993792⟩, ⟨16, 9903520314283042199192993792, 19807040628566084398385987584⟩, ⟨32, 19807040628566084398385987584, 39614081257132168796771975168⟩, ⟨67, 41470991316060239209120661504, 79228162514264337593543950336⟩, ⟨255, 79228162514264337593543950336, 64⟩] [([0, 1, 2, 3, 4, 5, 6], 7, [])] [8] (by kernel_rfl) (by kernel_rfl) ?_
                    refine wpStages_step ?_
                    try simp only [pick, List.map_cons, List.map_nil, List.getD_cons_zero, List.getD_cons_succ]
                    repeat (first
                      | (refine wpQuiet_row rfl 33 _ rfl gp 0 rfl (pfxC q) _ (fun w' ⟨q, hq⟩ => hq ▸ (PB.drewN q).range) Tryd.underlying33 rfl HIQ.out ?_; simp only [Act.put, List.setIfInBounds_toArray, List.set_cons_succ, List.set_cons_zero])
                      | go_big_quiet_step (fail))
                    refine wpQuiet_nil ?_
                    intro n3
                    try simp only [pick, List.map_cons, List.map_nil, List.getD_cons_zero, List.getD_cons_succ]
                    have ownd := own.drewN n3
                    go_wp2_with (go_at_call 32; (with_reducible refine (HPT.out _ _ ownd.rd (Nat.le_refl _)).mono ?_); rintro e wa ⟨A8, c8, rfl, own8, C9⟩)
                    have D9 := ((Ch.refl [] w9).drewN n3).trans C9
                    have lt9 := TX.lt
                    have sz9 : g1 ≤ w9.heap.size := by have := PB.lt; have := HD.out.2.2; omega
                    have ob8 : ∀ b ∈ blkOf A8, w9.heap.size ≤ b := fun b hb => (own8.blks b hb).1
                    replace own8 := own8.base (B' := g1) (show g1 ≤ w9.heap.size from sz9)
                    replace TX := TX.nil D9
                    replace PB := PB.ch D9 (by simp)
                    replace CX := CX.trans D9
                    refine stagePost_mk (by simp [pick]) ?_
                    refine wpStages_last ?_
                    try simp only [pick, List.map_cons, List.map_nil, List.getD_cons_zero, List.getD_cons_succ]
                    repeat (first
                      | (refine wpQuiet_row rfl 33 _ rfl gp 0 rfl (pfxC q) _ (fun w' ⟨q, hq⟩ => hq ▸ (PB.drewN q).range) Tryd.underlying33 rfl HIQ.out ?_; simp only [Act.put, List.setIfInBounds_toArray, List.set_cons_succ, List.set_cons_zero])
                      | go_big_quiet_step (fail))
                    refine wpQuiet_nil ?_
                    intro n4
                    go_wp2_with fail
                    go_meet
                    exact ⟨A8, c8, putX X q o.2.2, _, F7, rfl, hy1, HE7, TX.drewN n4, own8.drewN n4, fun b hb => ⟨HF7.out b hb, fun h => by have := ob8 b h; have := lt9 b hb; omega⟩, PB.drewN n4, CX.drewN n4⟩
              case rest =>
                obtain ⟨A3, c3, Y, m3, F3, rfl, hYl, HE3, TY, ownY, HF3, PBY, CY⟩ := hcut
                clear TX own PB CX HVP HFN HX16 HE HF lt6 ltP
                have HAG : Hid (∀ w B (s : Bool) (a : List Int), TrMI w g1 m3 (Y.length : Int) F3 → Rd w B 19 A3 Y.length (Y.flatMap entC) → B ≤ w.heap.size → GoodA a → Calls Tryd.prog 35 #[.pointer (some ⟨g1, 0, none⟩), .slice A3 Y.length c3, .agg (addrC s a).toArray] w fun e w' => e = .returned (.bool true) ∧ Ch [] w w') := fun w B s a h r hB ha => lawAgrees h HE3.out A3 Y.length c3 B r hB (by omega) s a ha
                have HAQ : Hid (∀ j v, (addrC q.1 q.2.1)[j]? = some v → (pfxC q)[0 + j]? = some v) := fun j v hj => pfx_addr (p := q) hj
                have HIAQ := hid (addr_inf (six := q.1) HGQ.out.1)
                have HY16 : Hid (∀ x ∈ Y, x.1.2.1.length = 16) := fun x hx => (ents_ok HE3.out x hx).g.1
                have HAGQ : Hid (∀ w B, TrMI w g1 m3 (Y.length : Int) F3 → Rd w B 19 A3 Y.length (Y.flatMap entC) → B ≤ w.heap.size → Calls Tryd.prog 35 #[.pointer (some ⟨g1, 0, none⟩), .slice A3 Y.length c3, .agg (addrC q.1 q.2.1).toArray] w fun e w' => e = .returned (.bool true) ∧ Ch [] w w') := fun w B h r hB => HAG.out w B q.1 q.2.1 h r hB HGQ.out
                generalize addrC q.1 q.2.1 = aq at HAQ HIAQ HAGQ
                have HFN0 : Hid (∀ w B, Rd w B 19 A3 Y.length (Y.flatMap entC) → B ≤ w.heap.size → Calls Tryd.prog 30 #[.slice A3 Y.length c3, .agg (pfxC q).toArray] w fun e w' => e = .returned (.int .i64 (idxE q Y 0)) ∧ Ch [] w w') := fun w B r hB => lawFind q HGQ.out.1 w A3 Y.length c3 B Y r hB (by omega) HY16.out
                rcases idxE_cases q Y with ⟨hi, hno⟩ | ⟨j, ej, hi, hj, hje⟩
                · as_aux_lemma =>
                  have HMG : Hid (mget m3 q = none) := (HE3.out.get_none HGQ.out).2 (fun e he => by
                    obtain ⟨e', he', rfl⟩ := List.mem_map.1 he
                    exact hno e' he')
                  have HFN3 : Hid (∀ w B, Rd w B 19 A3 Y.length (Y.flatMap entC) → B ≤ w.heap.size → Calls Tryd.prog 30 #[.slice A3 Y.length c3, .agg (pfxC q).toArray] w fun e w' => e = .returned (.int .i64 (-1)) ∧ Ch [] w w') := by
                    show ∀ w B, _
                    rw [← hi]
                    exact HFN0.out
                  clear hi hno HFN0
                  go_upto_region 27 with (first
                    | go_big_skip
                    | (refine wpList_load_want rfl 33 _ rfl gp 0 rfl (pfxC q) _ PBY.range Tryd.underlying33 rfl HIQ.out ?_)
                    | (refine wpList_load_want rfl 24 _ rfl gp 0 rfl aq _ (PBY.rangeMid 0 _ HAQ.out) Tryd.underlying24 rfl HIAQ.out ?_)
                    | (go_at_call 34; (with_reducible refine (trGetFI TY q HGQ.out HMG.out).mono ?_); rintro e x1 ⟨rfl, C9⟩; replace TY := TY.nil C9; replace ownY := ownY.ch C9 (by simp); replace PBY := PBY.ch C9 (by simp); replace CY := CY.trans C9; clear C9)
                    | (go_at_call 30; (with_reducible refine (HFN3.out _ _ ownY.rd (Nat.le_refl _)).mono ?_); rintro e x2 ⟨rfl, C9⟩; replace TY := TY.nil C9; replace ownY := ownY.ch C9 (by simp); replace PBY := PBY.ch C9 (by simp); replace CY := CY.trans C9; clear C9)
                    | (go_at_call 19; (with_reducible refine (trLenFI TY).mono ?_); rintro e x3 ⟨rfl, rfl⟩)
                    | (go_at_call 35; (with_reducible refine (HAGQ.out _ _ TY ownY.rd (Nat.le_refl _)).mono ?_); rintro e x4 ⟨rfl, C9⟩; replace TY := TY.nil C9; replace ownY := ownY.ch C9 (by simp); replace PBY := PBY.ch C9 (by simp); replace CY := CY.trans C9; clear C9))
                  rcases Nat.eq_zero_or_pos na with hz | hpa
                  · have hnn : ¬ (na : Int) > 0 := by omega
                    clear hz
                    go_wp2_with go_big_skip
                    go_roundw
                    case rel => exact ⟨k + 1, _, c3, Y, m3, F3, rfl, by go_num, by omega, by omega, by omega, HE3, TY, ownY, HF3, CY⟩
                    case measure => simp [intOf]; omega
                  · have hnn : (na : Int) > 0 := by omega
                    obtain ⟨ba, oa, rfl, hba, hra⟩ := HREA.out hpa
                    have hkm : k % na < na := Nat.mod_lt _ hpa
                    obtain ⟨xa, hxa⟩ : ∃ xa, la[k % na]? = some xa := ⟨_, List.getElem?_eq_getElem (by rw [HNLA.out]; exact hkm)⟩
                    have hgxa := HGLA.out xa (List.mem_of_getElem? hxa)
                    have HAA : Hid (∀ w', Ch [] W w' → w'.rangeAt ba (oa + k % na * 17) (addrC xa.1 xa.2)) := fun w' c => range_ch (hra (k % na) xa hxa) c hba (by simp)
                    have HIXA := hid (addr_inf (six := xa.1) hgxa.1)
                    have HSA : Hid (∀ w, Calls Tryd.prog 24 #[.agg (addrC xa.1 xa.2).toArray] w fun e w' => e = .returned (.agg (addrC (someA xa.1 xa.2).1 (someA xa.1 xa.2).2).toArray) ∧ Ch [] w w') := genSome xa.1 xa.2 hgxa
                    have HSG := hid (someA_good (six := xa.1) hgxa)
                    generalize someA xa.1 xa.2 = sa at HSA HSG
                    generalize addrC xa.1 xa.2 = ca at HAA HIXA HSA
                    have hmd : (k : Int) % (na : Int) = ((k % na : Nat) : Int) := by rw [Int.natCast_emod]
                    generalize k % na = km at hmd HAA hkm
                    have hm0 : (0 : Int) ≤ km := by omega
                    have hm1 : (km : Int) < na := by omega
                    have hnz : ((na : Int) == 0) = false := by simp; omega
                    clear hxa hgxa hra hkm
                    go_wp2_with (first
                      | go_big_skip
                      | (refine wpList_load_want rfl 24 _ rfl ba (oa + km * 17) rfl ca _ (HAA.out _ CY) Tryd.underlying24 rfl HIXA.out ?_)
                      | (go_at_call 24; (with_reducible refine (HSA.out _).mono ?_); rintro e x5 ⟨rfl, C9⟩; replace TY := TY.nil C9; replace ownY := ownY.ch C9 (by simp); replace CY := CY.trans C9; clear C9)
                      | (go_at_call 35; (with_reducible refine (HAG.out _ _ _ _ TY ownY.rd (Nat.le_refl _) HSG.out).mono ?_); rintro e x6 ⟨rfl, C9⟩; replace TY := TY.nil C9; replace ownY := ownY.ch C9 (by simp); replace CY := CY.trans C9; clear C9))
                    go_roundw
                    case rel => exact ⟨k + 1, _, c3, Y, m3, F3, rfl, by go_num, by omega, by omega, by omega, HE3, TY, ownY, HF3, CY⟩
                    case measure => simp [intOf]; omega
                · as_aux_lemma =>
                  have hjl : j < Y.length := (List.getElem?_eq_some_iff.1 hj).1
                  have HMG : Hid (mget m3 q = some (.int .i64 ej.2)) := by
                    have := HE3.out.get (e := toV ej) (List.mem_map.2 ⟨ej, List.mem_of_getElem? hj, rfl⟩)
                    simp only [toV] at this
                    rw [hje] at this
                    exact this
                  have HFN3 : Hid (∀ w B, Rd w B 19 A3 Y.length (Y.flatMap entC) → B ≤ w.heap.size → Calls Tryd.prog 30 #[.slice A3 Y.length c3, .agg (pfxC q).toArray] w fun e w' => e = .returned (.int .i64 j) ∧ Ch [] w w') := by
                    show ∀ w B, _
                    rw [← hi]
                    exact HFN0.out
                  obtain ⟨_, hrY⟩ := ownY.rd.rangeE (fun x hx => ent_len (HY16.out x hx)) (by omega)
                  obtain ⟨gY, rfl, hY1, hY2⟩ := ownY.form (by omega)
                  have HCY : Hid (∀ w, Own w g1 66 19 (some ⟨gY, 0, none⟩) Y.length c3 (Y.flatMap entC) → w.cell? ⟨gY, j * 19 + 18, none⟩ = some (.int .i64 ej.2)) := fun w o' => by
                    obtain ⟨_, h2⟩ := o'.rd.rangeE (fun x hx => ent_len (HY16.out x hx)) (by omega)
                    obtain ⟨b', o'', h3, _, h4⟩ := h2 (by omega)
                    obtain ⟨rfl, rfl⟩ : gY = b' ∧ 0 = o'' := by simpa using h3
                    have := h4 j ej hj 18 _ (ent_val (HY16.out ej (List.mem_of_getElem? hj)))
                    rwa [Nat.zero_add] at this
                  have hji0 : (0 : Int) ≤ j := by omega
                  have hji1 : (j : Int) < Y.length := by omega
                  clear hi hj hje HFN0 hrY
                  go_upto_region 27 with (first
                    | go_big_skip
                    | (refine wpList_load_want rfl 33 _ rfl gp 0 rfl (pfxC q) _ PBY.range Tryd.underlying33 rfl HIQ.out ?_)
                    | (refine wpList_load_want rfl 24 _ rfl gp 0 rfl aq _ (PBY.rangeMid 0 _ HAQ.out) Tryd.underlying24 rfl HIAQ.out ?_)
                    | (go_at_call 34; (with_reducible refine (trGetFI TY q HGQ.out HMG.out).mono ?_); rintro e x1 ⟨rfl, C9⟩; replace TY := TY.nil C9; replace ownY := ownY.ch C9 (by simp); replace PBY := PBY.ch C9 (by simp); replace CY := CY.trans C9; clear C9)
                    | (go_at_call 30; (with_reducible refine (HFN3.out _ _ ownY.rd (Nat.le_refl _)).mono ?_); rintro e x2 ⟨rfl, C9⟩; replace TY := TY.nil C9; replace ownY := ownY.ch C9 (by simp); replace PBY := PBY.ch C9 (by simp); replace CY := CY.trans C9; clear C9; have eY := HCY.out _ ownY)
                    | (go_at_call 19; (with_reducible refine (trLenFI TY).mono ?_); rintro e x3 ⟨rfl, rfl⟩)
                    | (go_at_call 35; (with_reducible refine (HAGQ.out _ _ TY ownY.rd (Nat.le_refl _)).mono ?_); rintro e x4 ⟨rfl, C9⟩; replace TY := TY.nil C9; replace ownY := ownY.ch C9 (by simp); replace PBY := PBY.ch C9 (by simp); replace CY := CY.trans C9; clear C9))
                  rcases Nat.eq_zero_or_pos na with hz | hpa
                  · have hnn : ¬ (na : Int) > 0 := by omega
                    clear hz
                    go_wp2_with go_big_skip
                    go_roundw
                    case rel => exact ⟨k + 1, _, c3, Y, m3, F3, rfl, by go_num, by omega, by omega, by omega, HE3, TY, ownY, HF3, CY⟩
                    case measure => simp [intOf]; omega
                  · have hnn : (na : Int) > 0 := by omega
                    obtain ⟨ba, oa, rfl, hba, hra⟩ := HREA.out hpa
                    have hkm : k % na < na := Nat.mod_lt _ hpa
                    obtain ⟨xa, hxa⟩ : ∃ xa, la[k % na]? = some xa := ⟨_, List.getElem?_eq_getElem (by rw [HNLA.out]; exact hkm)⟩
                    have hgxa := HGLA.out xa (List.mem_of_getElem? hxa)
                    have HAA : Hid (∀ w', Ch [] W w' → w'.rangeAt ba (oa + k % na * 17) (addrC xa.1 xa.2)) := fun w' c => range_ch (hra (k % na) xa hxa) c hba (by simp)
                    have HIXA := hid (addr_inf (six := xa.1) hgxa.1)
                    have HSA : Hid (∀ w, Calls Tryd.prog 24 #[.agg (addrC xa.1 xa.2).toArray] w fun e w' => e = .returned (.agg (addrC (someA xa.1 xa.2).1 (someA xa.1 xa.2).2).toArray) ∧ Ch [] w w') := genSome xa.1 xa.2 hgxa
                    have HSG := hid (someA_good (six := xa.1) hgxa)
                    generalize someA xa.1 xa.2 = sa at HSA HSG
                    generalize addrC xa.1 xa.2 = ca at HAA HIXA HSA
                    have hmd : (k : Int) % (na : Int) = ((k % na : Nat) : Int) := by rw [Int.natCast_emod]
                    generalize k % na = km at hmd HAA hkm
                    have hm0 : (0 : Int) ≤ km := by omega
                    have hm1 : (km : Int) < na := by omega
                    have hnz : ((na : Int) == 0) = false := by simp; omega
                    clear hxa hgxa hra hkm
                    go_wp2_with (first
                      | go_big_skip
                      | (refine wpList_load_want rfl 24 _ rfl ba (oa + km * 17) rfl ca _ (HAA.out _ CY) Tryd.underlying24 rfl HIXA.out ?_)
                      | (go_at_call 24; (with_reducible refine (HSA.out _).mono ?_); rintro e x5 ⟨rfl, C9⟩; replace TY := TY.nil C9; replace ownY := ownY.ch C9 (by simp); replace CY := CY.trans C9; clear C9)
                      | (go_at_call 35; (with_reducible refine (HAG.out _ _ _ _ TY ownY.rd (Nat.le_refl _) HSG.out).mono ?_); rintro e x6 ⟨rfl, C9⟩; replace TY := TY.nil C9; replace ownY := ownY.ch C9 (by simp); replace CY := CY.trans C9; clear C9))
                    go_roundw
                    case rel => exact ⟨k + 1, _, c3, Y, m3, F3, rfl, by go_num, by omega, by omega, by omega, HE3, TY, ownY, HF3, CY⟩
                    case measure => simp [intOf]; omega
      · as_aux_lemma =>
        have hl4i : ¬ (k : Int) < 40 := by omega
        have hlti : (k : Int) < n := by omega
        have HPX : Hid (∀ w, TrMI w g1 m (X.length : Int) F → Calls Tryd.prog 18 #[.pointer (some ⟨g1, 0, none⟩)] w fun e w' => ∃ A' c', e = .returned (.slice A' X.length c') ∧ Own w' w.heap.size 33 18 A' X.length c' ((X.map (·.1)).flatMap pfxC) ∧ Ch [] w w') := fun w h => by
          have := trPreFI h HE.out (by rw [List.length_map]; omega)
          rw [List.length_map, List.flatMap_map] at this
          rw [List.flatMap_map]
          exact this
        have HXG : Hid (∀ x ∈ X, x.1.2.1.length = 16) := fun x hx => (ents_ok HE.out x hx).g.1
        clear HE HF
        go_upto_region 30 with (first
          | go_big_skip
          | (go_at_call 18; (with_reducible refine (HPX.out _ TX).mono ?_); rintro e w3 ⟨A8, c8, rfl, own8, C9⟩; replace own := own.ch C9 (by simp); replace CX := CX.trans C9; clear C9))
        clear TX HPX
        generalize wr.heap.size = s8 at own8
        go_wp2_with fail
        go_loopw [13] (fun i wx => ∃ j : Nat, i = .int .i64 j ∧ j ≤ X.length ∧ Own wx s8 33 18 A8 X.length c8 ((X.map (·.1)).flatMap pfxC) ∧ Own wx g1 66 19 A2 X.length c2 (X.flatMap entC) ∧ Ch [] W wx) (fun i _ => X.length - (intOf i).toNat)
        case atStart => exact ⟨0, rfl, by omega, own8, own, CX⟩
        case round =>
          clear own8 own CX
          obtain ⟨j, rfl, hj, own8, own, CX⟩ := hrel
          by_cases hlj : j < X.length
          · obtain ⟨x, hx⟩ : ∃ x, X[j]? = some x := ⟨_, List.getElem?_eq_getElem hlj⟩
            have hgx := HXG.out x (List.mem_of_getElem? hx)
            obtain ⟨_, h8⟩ := own8.rd.rangeE (T := X.map (·.1)) (f := pfxC) (fun p hp => by
              obtain ⟨e, he, rfl⟩ := List.mem_map.1 hp
              exact pfx_len (HXG.out e he)) (by omega)
            obtain ⟨b8, o8, rfl, hb8, h8⟩ := h8 (by omega)
            obtain ⟨_, hX⟩ := own.rd.rangeE (fun x hx => ent_len (HXG.out x hx)) (by omega)
            obtain ⟨bX, oX, rfl, hbX, hX⟩ := hX (by omega)
            have HR8 : Hid (∀ w', Ch [] wr w' → w'.rangeAt b8 (o8 + j * 18) (pfxC x.1)) := fun w' c => range_ch (h8 j x.1 (by rw [List.getElem?_map, hx]; rfl)) c hb8 (by simp)
            have HRX : Hid (∀ w', Ch [] wr w' → w'.rangeAt bX (oX + j * 19) (pfxC x.1)) := fun w' c => range_ch (fun i v hi => hX j x hx i v (ent_pfx hi)) c hbX (by simp)
            have hq : ∀ w, (Op.equalIn 10000 33 (.agg (pfxC x.1).toArray) (.agg (pfxC x.1).toArray)).run Tryd.prog w = .ok true w := fun w => pfx_same x.1 hgx w
            have HI := hid (pfx_inf (p := x.1) hgx)
            generalize pfxC x.1 = cs at HR8 HRX HI hq
            have hj0 : (0 : Int) ≤ j := by omega
            have hj1 : (j : Int) < X.length := by omega
            have hj2 : ¬ (j : Int) ≥ X.length := by omega
            have hj3 : decide (X.length ≤ j) = false := by simpa using hlj
            have hj4 : decide ((X.length : Int) ≤ (j : Int)) = false := by simpa using hlj
            clear hx hgx h8 hX
            go_wp2_with fail
            refine wp_region_quietA (wr) (by kernel_rfl) (by kernel_rfl) (Ch.refl _ _) ?_
            repeat (first
              | (go_big_quiet_want; refine quiet_rowA 33 _ rfl b8 (o8 + j * 18) rfl cs _ HR8.out Tryd.underlying33 rfl HI.out ?_; simp only [Act.put, List.setIfInBounds_toArray, List.set_cons_succ, List.set_cons_zero]; go_big_quiet_on)
              | (go_big_quiet_want; refine quiet_rowA 33 _ rfl bX (oX + j * 19) rfl cs _ HRX.out Tryd.underlying33 rfl HI.out ?_; simp only [Act.put, List.setIfInBounds_toArray, List.set_cons_succ, List.set_cons_zero]; go_big_quiet_on)
              | go_big_quiet_step (fail))
            refine wpQuiet_nil ?_
            intro wq hwq
            have C9 := hwq
            go_wp2_with fail
            go_roundw
            case rel => exact ⟨j + 1, by go_num, by omega, own8.ch C9 (by simp), own.ch C9 (by simp), CX.trans C9⟩
            case measure => simp [intOf]; omega
          · have hj1 : ¬ (j : Int) < X.length := by omega
            go_wp2_with (first
              | go_big_skip
              | (go_at_call 15; (with_reducible refine (awake10 _).mono ?_); rintro e w5 ⟨rfl, C9⟩; replace CX := CX.trans C9; clear C9))
            go_ret
            exact ⟨rfl, CX.nil_below⟩
    · as_aux_lemma =>
      have hlti : ¬ (k : Int) < n := by omega
      have HPX : Hid (∀ w, TrMI w g1 m (X.length : Int) F → Calls Tryd.prog 18 #[.pointer (some ⟨g1, 0, none⟩)] w fun e w' => ∃ A' c', e = .returned (.slice A' X.length c') ∧ Own w' w.heap.size 33 18 A' X.length c' ((X.map (·.1)).flatMap pfxC) ∧ Ch [] w w') := fun w h => by
        have := trPreFI h HE.out (by rw [List.length_map]; omega)
        rw [List.length_map, List.flatMap_map] at this
        rw [List.flatMap_map]
        exact this
      have HXG : Hid (∀ x ∈ X, x.1.2.1.length = 16) := fun x hx => (ents_ok HE.out x hx).g.1
      clear HE HF
      go_upto_region 30 with (first
        | go_big_skip
        | (go_at_call 18; (with_reducible refine (HPX.out _ TX).mono ?_); rintro e w3 ⟨A8, c8, rfl, own8, C9⟩; replace own := own.ch C9 (by simp); replace CX := CX.trans C9; clear C9))
      clear TX HPX
      generalize wr.heap.size = s8 at own8
      go_wp2_with fail
      go_loopw [13] (fun i wx => ∃ j : Nat, i = .int .i64 j ∧ j ≤ X.length ∧ Own wx s8 33 18 A8 X.length c8 ((X.map (·.1)).flatMap pfxC) ∧ Own wx g1 66 19 A2 X.length c2 (X.flatMap entC) ∧ Ch [] W wx) (fun i _ => X.length - (intOf i).toNat)
      case atStart => exact ⟨0, rfl, by omega, own8, own, CX⟩
      case round =>
        clear own8 own CX
        obtain ⟨j, rfl, hj, own8, own, CX⟩ := hrel
        by_cases hlj : j < X.length
        · obtain ⟨x, hx⟩ : ∃ x, X[j]? = some x := ⟨_, List.getElem?_eq_getElem hlj⟩
          have hgx := HXG.out x (List.mem_of_getElem? hx)
          obtain ⟨_, h8⟩ := own8.rd.rangeE (T := X.map (·.1)) (f := pfxC) (fun p hp => by
            obtain ⟨e, he, rfl⟩ := List.mem_map.1 hp
            exact pfx_len (HXG.out e he)) (by omega)
          obtain ⟨b8, o8, rfl, hb8, h8⟩ := h8 (by omega)
          obtain ⟨_, hX⟩ := own.rd.rangeE (fun x hx => ent_len (HXG.out x hx)) (by omega)
          obtain ⟨bX, oX, rfl, hbX, hX⟩ := hX (by omega)
          have HR8 : Hid (∀ w', Ch [] wr w' → w'.rangeAt b8 (o8 + j * 18) (pfxC x.1)) := fun w' c => range_ch (h8 j x.1 (by rw [List.getElem?_map, hx]; rfl)) c hb8 (by simp)
          have HRX : Hid (∀ w', Ch [] wr w' → w'.rangeAt bX (oX + j * 19) (pfxC x.1)) := fun w' c => range_ch (fun i v hi => hX j x hx i v (ent_pfx hi)) c hbX (by simp)
          have hq : ∀ w, (Op.equalIn 10000 33 (.agg (pfxC x.1).toArray) (.agg (pfxC x.1).toArray)).run Tryd.prog w = .ok true w := fun w => pfx_same x.1 hgx w
          have HI := hid (pfx_inf (p := x.1) hgx)
          generalize pfxC x.1 = cs at HR8 HRX HI hq
          have hj0 : (0 : Int) ≤ j := by omega
          have hj1 : (j : Int) < X.length := by omega
          have hj2 : ¬ (j : Int) ≥ X.length := by omega
          have hj3 : decide (X.length ≤ j) = false := by simpa using hlj
          have hj4 : decide ((X.length : Int) ≤ (j : Int)) = false := by simpa using hlj
          clear hx hgx h8 hX
          go_wp2_with fail
          refine wp_region_quietA (wr) (by kernel_rfl) (by kernel_rfl) (Ch.refl _ _) ?_
          repeat (first
            | (go_big_quiet_want; refine quiet_rowA 33 _ rfl b8 (o8 + j * 18) rfl cs _ HR8.out Tryd.underlying33 rfl HI.out ?_; simp only [Act.put, List.setIfInBounds_toArray, List.set_cons_succ, List.set_cons_zero]; go_big_quiet_on)
            | (go_big_quiet_want; refine quiet_rowA 33 _ rfl bX (oX + j * 19) rfl cs _ HRX.out Tryd.underlying33 rfl HI.out ?_; simp only [Act.put, List.setIfInBounds_toArray, List.set_cons_succ, List.set_cons_zero]; go_big_quiet_on)
            | go_big_quiet_step (fail))
          refine wpQuiet_nil ?_
          intro wq hwq
          have C9 := hwq
          go_wp2_with fail
          go_roundw
          case rel => exact ⟨j + 1, by go_num, by omega, own8.ch C9 (by simp), own.ch C9 (by simp), CX.trans C9⟩
          case measure => simp [intOf]; omega
        · have hj1 : ¬ (j : Int) < X.length := by omega
          go_wp2_with (first
            | go_big_skip
            | (go_at_call 15; (with_reducible refine (awake10 _).mono ?_); rintro e w5 ⟨rfl, C9⟩; replace CX := CX.trans C9; clear C9))
          go_ret
          exact ⟨rfl, CX.nil_below⟩
end Go.Proofs.YtjpiekljjhgmoaaDoor
