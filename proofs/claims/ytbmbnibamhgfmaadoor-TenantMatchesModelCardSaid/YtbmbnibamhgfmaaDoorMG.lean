/- Several texts in one: TrieL, TrMaL, TrLkL, TrFnL, TrGtL, TrFgL. -/
import Derived.Test.YtbmbnibamhgfmaaDoorMF
import Derived.Test.YtbmbnibamhgfmaaDoorMD
import Derived.Deep.DeepCutAuto
import Derived.Deep.CutRange
/- trie.Trie[[]int]: New, rootOf, Insert (printed by mk_trie.py). -/
namespace Go.Proofs.YtbmbnibamhgfmaaDoor
open Go.RowKit

theorem trNewL (w : World) : Calls Tryd.prog 43 #[] w fun e w' => e = .returned (.pointer (some ⟨w.heap.size, 0, none⟩)) ∧ TrI 125 122 w' w.heap.size (fun _ => none) 0 ∧ Ch [] w w' := by
  go_enter Tryd.func43, Tryd.ntmps43
  go_wp2_with fail
  go_ret
  exact ⟨rfl, ⟨Blk.new _ _ _, fun _ _ h => (by cases h), fun _ _ _ _ h => (by cases h), fun _ _ h => (by cases h), fun _ _ _ h => absurd rfl h⟩, (Ch.refl _ _).alloc _⟩
theorem trRootL (g : Nat) (six : Bool) (bs : List Int) (ro : Nat) (hro : (if six then 1 else 0) = ro) (w : World) : Calls Tryd.prog 70 #[.pointer (some ⟨g, 0, none⟩), .agg (addrC six bs).toArray] w fun e w' => e = .returned (.pointer (some ⟨g, ro, none⟩)) ∧ Ch [] w w' := by
  subst hro
  have hB : Blk (w.alloc (.cells (addrC six bs).toArray 57)) w.heap.size 57 (addrC six bs) := Blk.new w _ _
  have c0 : (w.alloc (.cells (addrC six bs).toArray 57)).cell? ⟨w.heap.size, 0, none⟩ = some (.bool six) := hB.cell 0
  generalize (addrC six bs).toArray = cs at c0 ⊢
  clear hB
  cases six
  all_goals
    go_enter Tryd.func70, Tryd.ntmps70
    go_wp2_with fail
    go_ret
    exact ⟨rfl, (Ch.refl _ _).alloc _⟩
set_option maxRecDepth 20000 in
set_option maxHeartbeats 8000000 in
theorem trInsertL (w : World) (g : Nat) (nd : Tri) (n : Int) (F : List Nat) (hT : TrI 125 122 w g nd n) (hgF : g ∈ F) (hF : ∀ κ d, nd κ = some d → d.b ∈ F) (hFl : ∀ b ∈ F, b < w.heap.size) (hn : 0 ≤ n ∧ n ≤ 1000000) (p : Pfx) (hp : OkP p) (xa : Option Addr) (xn xc : Nat) :
    Calls Tryd.prog 45 #[.pointer (some ⟨g, 0, none⟩), .agg (pfxC p).toArray, .slice xa xn xc] w fun e w' => e = .returned (.bool true) ∧ ∃ nd' n', TrI 125 122 w' g nd' n' ∧ (∀ κ, nd'.val κ = if κ = keyP p then some (.slice xa xn xc) else nd.val κ) ∧ (if nd.val (keyP p) = none then n + 1 else n) = n' ∧ Ch F w w' ∧ ∀ κ d, nd' κ = some d → d.b ∈ F ∨ w.heap.size ≤ d.b := by
  have hva := hp.va
  have hgd := hp.g
  have hrng := hp.rng
  have HVP := hid (validPfx p.1 p.2.1 p.2.2 hp.g)
  rw [show (p.1, p.2.1, p.2.2) = p from rfl, hp.v] at HVP
  obtain ⟨m, hm⟩ : ∃ m : Nat, p.2.2 = m := ⟨p.2.2.toNat, by have := hp.nat.1; omega⟩
  have hkey : keyP p = keyA p.1 p.2.1 m := by unfold keyP; rw [hm, Int.toNat_natCast]
  have BP0 : Blk (w.alloc (.cells (pfxC p).toArray 59)) w.heap.size 59 (pfxC p) := Blk.new w _ _
  have HIP := hid (pfx_inf (p := p) hp.g.1)
  have h17 := pfx_bits (p := p) hp.g.1
  have haddr : ∀ j v, (addrC p.1 p.2.1)[j]? = some v → (pfxC p)[0 + j]? = some v := fun j v hj => pfx_addr (p := p) hj
  have C0 : Ch F w (w.alloc (.cells (pfxC p).toArray 59)) := (Ch.refl _ _).alloc _
  rw [hkey]
  obtain ⟨nx, hnx⟩ : ∃ nx, (if nd.val (keyA p.1 p.2.1 m) = none then n + 1 else n) = nx := ⟨_, rfl⟩
  rw [hnx]
  have HNX := hid hnx
  clear hnx
  rw [hm] at hrng h17
  obtain ⟨six, bs, pn⟩ := p
  simp only at HNX hm hva hgd hrng h17 haddr hkey
  have hL := bitL_le six
  have HI := hid (addr_inf (six := six) hgd.1)
  generalize pfxC (six, bs, pn) = cs at BP0 HIP h17 haddr C0 HVP ⊢
  have HA := hid haddr
  have H17 := hid h17
  have HNF := hid hF
  have HFL := hid hFl
  clear hp hm hkey haddr h17 hF hFl
  have T0 := hT.nil ((Ch.refl [] w).alloc (.cells cs.toArray 59))
  have HVA := hid hva
  have HGD := hid hgd
  have HPO : Hid (∀ k : Nat, k ≤ m → ∃ (y0 y1 y2 y3 y4 y5 y6 y7 y8 y9 y10 y11 y12 y13 y14 y15 : Int), GoodA [y0, y1, y2, y3, y4, y5, y6, y7, y8, y9, y10, y11, y12, y13, y14, y15] ∧ OkP (six, [y0, y1, y2, y3, y4, y5, y6, y7, y8, y9, y10, y11, y12, y13, y14, y15], (k : Int)) ∧ keyP (six, [y0, y1, y2, y3, y4, y5, y6, y7, y8, y9, y10, y11, y12, y13, y14, y15], (k : Int)) = keyA six bs k ∧ ∀ w, Calls Tryd.prog 71 #[.agg (addrC six bs).toArray, .int .i64 k] w fun e w' => e = .returned (.tuple #[.agg #[.bool six, .int .u8 y0, .int .u8 y1, .int .u8 y2, .int .u8 y3, .int .u8 y4, .int .u8 y5, .int .u8 y6, .int .u8 y7, .int .u8 y8, .int .u8 y9, .int .u8 y10, .int .u8 y11, .int .u8 y12, .int .u8 y13, .int .u8 y14, .int .u8 y15, .int .i64 k], .bool true]) ∧ Ch [] w w') := fun k hk => by
    obtain ⟨y0, y1, y2, y3, y4, y5, y6, y7, y8, y9, y10, y11, y12, y13, y14, y15, hy⟩ := len16 (trunc_good hgd k).1
    have h1 := pfxOfP six bs hgd hva k (by omega)
    have h2 := okP_of hgd hva (k := k) (by omega)
    have h3 := keyP_of (six := six) hgd (k := k) (by omega)
    rw [hy] at h1 h2 h3
    exact ⟨y0, y1, y2, y3, y4, y5, y6, y7, y8, y9, y10, y11, y12, y13, y14, y15, h2.g, h2, h3, h1⟩
  have HBT : Hid (∀ k : Nat, k < m → ∀ w, Calls Tryd.prog 72 #[.agg (addrC six bs).toArray, .int .i64 k] w fun e w' => e = .returned (.int .i64 (bitA bs k)) ∧ Ch [] w w') := fun k hk w => bitP six bs hgd k (by omega) w
  clear hva hgd
  have hrt := LinkAt.root (nd := nd) (g := g) six
  obtain ⟨ro, hro⟩ : ∃ ro : Nat, (if six then 1 else 0) = ro := ⟨_, rfl⟩
  rw [hro] at hrt
  have HRT := hid (fun w => trRootL g six bs ro hro w)
  clear hro
  generalize addrC six bs = ac at HI HA HPO HBT HRT
  go_enter Tryd.func45, Tryd.ntmps45
  go_wp2_with (first
    | (refine wpList_load_want rfl 59 _ rfl w.heap.size 0 rfl cs _ BP0.range Tryd.underlying59 rfl HIP.out ?_)
    | (refine wpList_load_want rfl 57 _ rfl w.heap.size 0 rfl ac _ (BP0.rangeMid 0 _ HA.out) Tryd.underlying57 rfl HI.out ?_)
    | (go_at_call 36; (with_reducible refine (HVP.out _).mono ?_); rintro e wn ⟨rfl, Cn⟩; replace BP0 := BP0.ch Cn (by simp); replace T0 := T0.nil Cn; replace C0 := C0.step Cn (by simp); clear Cn)
    | (go_at_call 70; (with_reducible refine (HRT.out _).mono ?_); rintro e wn ⟨rfl, Cn⟩; replace BP0 := BP0.ch Cn (by simp); replace T0 := T0.nil Cn; replace C0 := C0.step Cn (by simp); clear Cn))
  go_loopw [7, 8] (fun at_ i wr => ∃ (k lb lo : Nat) (nd' : Tri), at_ = .pointer (some ⟨lb, lo, none⟩) ∧ i = .int .i64 k ∧ k ≤ m ∧ LinkAt nd' g (keyA six bs k) ⟨lb, lo, none⟩ ∧ TrI 125 122 wr g nd' n ∧ Hid (∀ κ, nd'.val κ = nd.val κ) ∧ Hid (∀ κ d, nd' κ = some d → d.b ∈ F ∨ w.heap.size < d.b) ∧ Ch F w wr ∧ Blk wr w.heap.size 59 cs) (fun _ i _ => m - (intOf i).toNat)
  case atStart => exact ⟨0, g, _, nd, rfl, rfl, by omega, hrt, T0, fun _ => rfl, fun κ d h => .inl (HNF.out κ d h), C0, BP0⟩
  case round =>
    clear T0 C0 BP0 hrt HRT
    obtain ⟨k, lb, lo, nd', rfl, rfl, hk, hl, hT', HV, HB, CC, BP⟩ := hrel
    have e_la : wr.cell? ⟨lb, lo, none⟩ = some (ptrV (nd' (keyA six bs k))) := hl.cell hT'
    have f_la : wr.frozen? ⟨lb, lo, none⟩ = false := hl.frozen hT'
    cases hnode : nd' (keyA six bs k) with
    | none =>
      rw [hnode] at e_la
      replace e_la : wr.cell? ⟨lb, lo, none⟩ = some (.pointer none) := e_la
      have HLC : Hid (∀ w', Ch [] wr w' → w'.cell? ⟨lb, lo, none⟩ = some (.pointer none) ∧ w'.frozen? ⟨lb, lo, none⟩ = false) := fun w' c => ⟨by have := hl.cell (hT'.nil c); rw [hnode] at this; exact this, hl.frozen (hT'.nil c)⟩
      obtain ⟨y0, y1, y2, y3, y4, y5, y6, y7, y8, y9, y10, y11, y12, y13, y14, y15, hgq, hokq, hkeyq, HPF⟩ := HPO.out k hk
      replace HPF := hid HPF
      have hpar : ∀ c, nd' (keyA six bs k ++ [c]) = none := fun c => by
        cases hc : nd' (keyA six bs k ++ [c]) with
        | none => rfl
        | some d => exact absurd hnode (hT'.par _ c (keyA_ne _ _ _) (by rw [hc]; simp))
      have szr := CC.size
      have HIQ : Hid ((Tryd.prog.info? 59).map (·.size) = some (List.length ([.bool six, .int .u8 y0, .int .u8 y1, .int .u8 y2, .int .u8 y3, .int .u8 y4, .int .u8 y5, .int .u8 y6, .int .u8 y7, .int .u8 y8, .int .u8 y9, .int .u8 y10, .int .u8 y11, .int .u8 y12, .int .u8 y13, .int .u8 y14, .int .u8 y15, .int .i64 k] : List Value))) := pfx_inf (p := (six, [y0, y1, y2, y3, y4, y5, y6, y7, y8, y9, y10, y11, y12, y13, y14, y15], (k : Int))) rfl
      go_upto_region 9 with (first
        | (refine wpList_load_want rfl 57 _ rfl w.heap.size 0 rfl ac _ (BP.rangeMid 0 _ HA.out) Tryd.underlying57 rfl HI.out ?_)
        | (go_at_call 71; (with_reducible refine (HPF.out _).mono ?_); rintro e w1 ⟨rfl, C1⟩; have sz1 := C1.size)
        | (refine wpList_storeB rfl 59 _ _ rfl w1.heap.size 59 (pfxC (false, zeros, 0)) [.bool six, .int .u8 y0, .int .u8 y1, .int .u8 y2, .int .u8 y3, .int .u8 y4, .int .u8 y5, .int .u8 y6, .int .u8 y7, .int .u8 y8, .int .u8 y9, .int .u8 y10, .int .u8 y11, .int .u8 y12, .int .u8 y13, .int .u8 y14, .int .u8 y15, .int .i64 k] rfl rfl (Blk.new _ _ _) HIQ.out rfl (pfx_one (six, [y0, y1, y2, y3, y4, y5, y6, y7, y8, y9, y10, y11, y12, y13, y14, y15], (k : Int))) ?_; intro w3 B3 C3 Z3; have C3' := (C1.alloc _).step C3 (fun i hi => .inr (by simp at hi; omega)); have e_la2 := (HLC.out _ (C3'.alloc (.cells #[.bool six, .int .u8 y0, .int .u8 y1, .int .u8 y2, .int .u8 y3, .int .u8 y4, .int .u8 y5, .int .u8 y6, .int .u8 y7, .int .u8 y8, .int .u8 y9, .int .u8 y10, .int .u8 y11, .int .u8 y12, .int .u8 y13, .int .u8 y14, .int .u8 y15, .int .i64 k, .bool false, .slice none 0 0, .pointer none, .pointer none] 125))).1; have f_la2 := (HLC.out _ (C3'.alloc (.cells #[.bool six, .int .u8 y0, .int .u8 y1, .int .u8 y2, .int .u8 y3, .int .u8 y4, .int .u8 y5, .int .u8 y6, .int .u8 y7, .int .u8 y8, .int .u8 y9, .int .u8 y10, .int .u8 y11, .int .u8 y12, .int .u8 y13, .int .u8 y14, .int .u8 y15, .int .i64 k, .bool false, .slice none 0 0, .pointer none, .pointer none] 125))).2)
        | (refine wpList_load_want rfl 59 _ rfl w1.heap.size 0 rfl [.bool six, .int .u8 y0, .int .u8 y1, .int .u8 y2, .int .u8 y3, .int .u8 y4, .int .u8 y5, .int .u8 y6, .int .u8 y7, .int .u8 y8, .int .u8 y9, .int .u8 y10, .int .u8 y11, .int .u8 y12, .int .u8 y13, .int .u8 y14, .int .u8 y15, .int .i64 k] _ B3.range Tryd.underlying59 rfl HIQ.out ?_))
      have hz3 : w3.heap.size = w1.heap.size + 1 := by rw [Z3]; simp
      have TG := (hT'.nil C3').grow (by decide) hl hnode (six, [y0, y1, y2, y3, y4, y5, y6, y7, y8, y9, y10, y11, y12, y13, y14, y15], (k : Int)) (.slice none 0 0) hokq hkeyq [.bool six, .int .u8 y0, .int .u8 y1, .int .u8 y2, .int .u8 y3, .int .u8 y4, .int .u8 y5, .int .u8 y6, .int .u8 y7, .int .u8 y8, .int .u8 y9, .int .u8 y10, .int .u8 y11, .int .u8 y12, .int .u8 y13, .int .u8 y14, .int .u8 y15, .int .i64 k, .bool false, .slice none 0 0, .pointer none, .pointer none] rfl (w1.heap.size + 1) hz3
      have HVG : Hid _ := val_grow HV.out hnode (w1.heap.size + 1) (six, [y0, y1, y2, y3, y4, y5, y6, y7, y8, y9, y10, y11, y12, y13, y14, y15], (k : Int)) (.slice none 0 0)
      have ltp := BP.lt
      have szw := C3'.size
      have HBG : Hid _ := blk_set (Q := fun z => z ∈ F ∨ w.heap.size < z) (κ := keyA six bs k) HB.out ⟨w1.heap.size + 1, (six, [y0, y1, y2, y3, y4, y5, y6, y7, y8, y9, y10, y11, y12, y13, y14, y15], (k : Int)), false, .slice none 0 0⟩ (.inr (by simp only; omega))
      have hlb := hl.blk hgF HB.out
      have CG : Ch F w ((w3.alloc (.cells #[.bool six, .int .u8 y0, .int .u8 y1, .int .u8 y2, .int .u8 y3, .int .u8 y4, .int .u8 y5, .int .u8 y6, .int .u8 y7, .int .u8 y8, .int .u8 y9, .int .u8 y10, .int .u8 y11, .int .u8 y12, .int .u8 y13, .int .u8 y14, .int .u8 y15, .int .i64 k, .bool false, .slice none 0 0, .pointer none, .pointer none] 125)).setCell ⟨lb, lo, none⟩ (.pointer (some ⟨w1.heap.size + 1, 0, none⟩))) := ((CC.step C3' (by simp)).alloc _).setCell (hlb.imp id (fun h => by simp only at h ⊢; omega)) _
      have BG : Blk ((w3.alloc (.cells #[.bool six, .int .u8 y0, .int .u8 y1, .int .u8 y2, .int .u8 y3, .int .u8 y4, .int .u8 y5, .int .u8 y6, .int .u8 y7, .int .u8 y8, .int .u8 y9, .int .u8 y10, .int .u8 y11, .int .u8 y12, .int .u8 y13, .int .u8 y14, .int .u8 y15, .int .i64 k, .bool false, .slice none 0 0, .pointer none, .pointer none] 125)).setCell ⟨lb, lo, none⟩ (.pointer (some ⟨w1.heap.size + 1, 0, none⟩))) w.heap.size 59 cs := ((BP.ch C3' (by simp)).alloc _).far (by
        rcases hlb with h | h
        · have := HFL.out _ h; simp only at this ⊢; omega
        · simp only at h ⊢; omega) _
      have hlG := hl.set (some ⟨w1.heap.size + 1, (six, [y0, y1, y2, y3, y4, y5, y6, y7, y8, y9, y10, y11, y12, y13, y14, y15], (k : Int)), false, .slice none 0 0⟩)
      have hdG := Tri.set_same nd' (keyA six bs k) (some ⟨w1.heap.size + 1, (six, [y0, y1, y2, y3, y4, y5, y6, y7, y8, y9, y10, y11, y12, y13, y14, y15], (k : Int)), false, .slice none 0 0⟩)
      generalize hdx : (⟨w1.heap.size + 1, (six, [y0, y1, y2, y3, y4, y5, y6, y7, y8, y9, y10, y11, y12, y13, y14, y15], (k : Int)), false, .slice none 0 0⟩ : ND) = d at TG HVG HBG hlG hdG
      generalize nd'.set (keyA six bs k) (some d) = nd2 at TG HVG HBG hlG hdG
      generalize (w3.alloc (.cells #[.bool six, .int .u8 y0, .int .u8 y1, .int .u8 y2, .int .u8 y3, .int .u8 y4, .int .u8 y5, .int .u8 y6, .int .u8 y7, .int .u8 y8, .int .u8 y9, .int .u8 y10, .int .u8 y11, .int .u8 y12, .int .u8 y13, .int .u8 y14, .int .u8 y15, .int .i64 k, .bool false, .slice none 0 0, .pointer none, .pointer none] 125)).setCell ⟨lb, lo, none⟩ (.pointer (some ⟨w1.heap.size + 1, 0, none⟩)) = wx at TG CG BG ⊢
      clear hdx hl hT' HV HB CC BP e_la f_la hnode hpar HLC
      have e_la : wx.cell? ⟨lb, lo, none⟩ = some (.pointer (some ⟨d.b, 0, none⟩)) := by have := hlG.cell TG; rw [hdG] at this; exact this
      have e17 : wx.cell? ⟨w.heap.size, 17, none⟩ = some (.int .i64 m) := (BG.cell 17).trans H17.out
      by_cases km : k = m
      · subst km
        have hBn := TG.node _ _ hdG
        have hl16 := TG.l16 hdG
        have e18 : wx.cell? ⟨d.b, 18, none⟩ = some (.bool d.pr) := (hBn.cell 18).trans (nodeC_at hl16 _ _ 0)
        have e19 : wx.cell? ⟨d.b, 19, none⟩ = some d.x := (hBn.cell 19).trans (nodeC_at hl16 _ _ 1)
        have f18 := hBn.frozen 18
        have f19 := hBn.frozen 19
        have eg2 : wx.cell? ⟨g, 2, none⟩ = some (.int .i64 n) := TG.root.cell 2
        have fg2 := TG.root.frozen 2
        have hbn : d.b ≠ g := TG.ne (by decide) hdG
        have hbF := HBG.out _ _ hdG
        have HVK := hid (HVG.out (keyA six bs k))
        obtain ⟨b, q, pr, x0⟩ := d
        simp only at e_la e18 e19 f18 f19 hbn hbF
        cases pr
        · have hvn : nd.val (keyA six bs k) = none := by rw [← HVK.out, Tri.val, hdG]
          have HVN := hid hvn
          clear hvn hBn hl16
          go_wp2_with fail
          go_ret
          refine ⟨rfl, nd2.set (keyA six bs k) (some ⟨b, q, true, .slice xa xn xc⟩), n + 1, (TG.count (by decide) (n + 1)).put (by decide) hdG true (.slice xa xn xc), val_put HVG.out b q (.slice xa xn xc), by rw [← HNX.out, if_pos HVN.out], ((CG.setCell (.inl hgF) _).setCell (hbF.imp id (fun h => by simp only; omega)) _).setCell (hbF.imp id (fun h => by simp only; omega)) _, fun κ d hd => (blk_set (Q := fun z => z ∈ F ∨ w.heap.size < z) HBG.out ⟨b, q, true, .slice xa xn xc⟩ hbF κ d hd).imp id Nat.le_of_lt⟩
        · have hvn : nd.val (keyA six bs k) = some x0 := by rw [← HVK.out, Tri.val, hdG]
          have HVN := hid hvn
          clear hvn hBn hl16
          go_wp2_with fail
          go_ret
          refine ⟨rfl, nd2.set (keyA six bs k) (some ⟨b, q, true, .slice xa xn xc⟩), n, TG.put (by decide) hdG true (.slice xa xn xc), val_put HVG.out b q (.slice xa xn xc), by (rw [← HNX.out, if_neg]; rw [HVN.out]; simp), (CG.setCell (hbF.imp id (fun h => by simp only; omega)) _).setCell (hbF.imp id (fun h => by simp only; omega)) _, fun κ d hd => (blk_set (Q := fun z => z ∈ F ∨ w.heap.size < z) HBG.out ⟨b, q, true, .slice xa xn xc⟩ hbF κ d hd).imp id Nat.le_of_lt⟩
      · have hkm : k < m := by omega
        have hkmi : ¬ (k : Int) = m := by omega
        have HBIT := hid (HBT.out k hkm)
        have HRA : Hid (∀ w', Ch [] wx w' → w'.rangeAt w.heap.size 0 ac) := fun w' c => (BG.ch c (by simp)).rangeMid 0 _ HA.out
        have k_la : ∀ y : After wx, y.w.cell? ⟨lb, lo, none⟩ = some (.pointer (some ⟨d.b, 0, none⟩)) := fun y => by have := hlG.cell (TG.nil y.ch); rw [hdG] at this; exact this
        have hnx := LinkAt.next (g := g) hdG
        rcases bit_rng bs k with h0 | h0
        · rw [h0] at HBIT hnx
          go_upto_region 10 with fail
          refine wp_region_quietA (wx) (by kernel_rfl) (by kernel_rfl) (Ch.refl _ _) ?_
          repeat (first
            | (go_big_quiet_want; refine quiet_rowA 57 _ rfl w.heap.size 0 rfl ac _ HRA.out Tryd.underlying57 rfl HI.out ?_; simp only [Act.put, List.setIfInBounds_toArray, List.set_cons_succ, List.set_cons_zero]; go_big_quiet_on)
            | go_big_quiet_step (first
              | (go_at_call 72; with_reducible exact after_of (HBIT.out _))))
          refine wpQuiet_nil ?_
          intro wq hwq
          go_wp2_with fail
          go_roundw
          case rel => exact ⟨k + 1, d.b, 20, nd2, rfl, by go_num, by omega, hnx, TG.nil hwq, HVG, HBG, CG.step hwq (by simp), BG.ch hwq (by simp)⟩
          case measure => simp [intOf]; omega
        · rw [h0] at HBIT hnx
          go_upto_region 10 with fail
          refine wp_region_quietA (wx) (by kernel_rfl) (by kernel_rfl) (Ch.refl _ _) ?_
          repeat (first
            | (go_big_quiet_want; refine quiet_rowA 57 _ rfl w.heap.size 0 rfl ac _ HRA.out Tryd.underlying57 rfl HI.out ?_; simp only [Act.put, List.setIfInBounds_toArray, List.set_cons_succ, List.set_cons_zero]; go_big_quiet_on)
            | go_big_quiet_step (first
              | (go_at_call 72; with_reducible exact after_of (HBIT.out _))))
          refine wpQuiet_nil ?_
          intro wq hwq
          go_wp2_with fail
          go_roundw
          case rel => exact ⟨k + 1, d.b, 21, nd2, rfl, by go_num, by omega, hnx, TG.nil hwq, HVG, HBG, CG.step hwq (by simp), BG.ch hwq (by simp)⟩
          case measure => simp [intOf]; omega

    | some d =>
      have hlG := hl
      have hdG := hnode
      have TG := hT'
      have HVG := HV
      have HBG := HB
      have CG := CC
      have BG := BP
      have e_q : wr.cell? ⟨lb, lo, none⟩ = some (.pointer (some ⟨d.b, 0, none⟩)) := by have := hl.cell hT'; rw [hnode] at this; exact this
      clear hl hT' HV HB CC BP e_la f_la
      go_upto_region 9 with fail
      clear e_q
      have e_la : wr.cell? ⟨lb, lo, none⟩ = some (.pointer (some ⟨d.b, 0, none⟩)) := by have := hlG.cell TG; rw [hdG] at this; exact this
      have e17 : wr.cell? ⟨w.heap.size, 17, none⟩ = some (.int .i64 m) := (BG.cell 17).trans H17.out
      by_cases km : k = m
      · subst km
        have hBn := TG.node _ _ hdG
        have hl16 := TG.l16 hdG
        have e18 : wr.cell? ⟨d.b, 18, none⟩ = some (.bool d.pr) := (hBn.cell 18).trans (nodeC_at hl16 _ _ 0)
        have e19 : wr.cell? ⟨d.b, 19, none⟩ = some d.x := (hBn.cell 19).trans (nodeC_at hl16 _ _ 1)
        have f18 := hBn.frozen 18
        have f19 := hBn.frozen 19
        have eg2 : wr.cell? ⟨g, 2, none⟩ = some (.int .i64 n) := TG.root.cell 2
        have fg2 := TG.root.frozen 2
        have hbn : d.b ≠ g := TG.ne (by decide) hdG
        have hbF := HBG.out _ _ hdG
        have HVK := hid (HVG.out (keyA six bs k))
        obtain ⟨b, q, pr, x0⟩ := d
        simp only at e_la e18 e19 f18 f19 hbn hbF
        cases pr
        · have hvn : nd.val (keyA six bs k) = none := by rw [← HVK.out, Tri.val, hdG]
          have HVN := hid hvn
          clear hvn hBn hl16
          go_wp2_with fail
          go_ret
          refine ⟨rfl, nd'.set (keyA six bs k) (some ⟨b, q, true, .slice xa xn xc⟩), n + 1, (TG.count (by decide) (n + 1)).put (by decide) hdG true (.slice xa xn xc), val_put HVG.out b q (.slice xa xn xc), by rw [← HNX.out, if_pos HVN.out], ((CG.setCell (.inl hgF) _).setCell (hbF.imp id (fun h => by simp only; omega)) _).setCell (hbF.imp id (fun h => by simp only; omega)) _, fun κ d hd => (blk_set (Q := fun z => z ∈ F ∨ w.heap.size < z) HBG.out ⟨b, q, true, .slice xa xn xc⟩ hbF κ d hd).imp id Nat.le_of_lt⟩
        · have hvn : nd.val (keyA six bs k) = some x0 := by rw [← HVK.out, Tri.val, hdG]
          have HVN := hid hvn
          clear hvn hBn hl16
          go_wp2_with fail
          go_ret
          refine ⟨rfl, nd'.set (keyA six bs k) (some ⟨b, q, true, .slice xa xn xc⟩), n, TG.put (by decide) hdG true (.slice xa xn xc), val_put HVG.out b q (.slice xa xn xc), by (rw [← HNX.out, if_neg]; rw [HVN.out]; simp), (CG.setCell (hbF.imp id (fun h => by simp only; omega)) _).setCell (hbF.imp id (fun h => by simp only; omega)) _, fun κ d hd => (blk_set (Q := fun z => z ∈ F ∨ w.heap.size < z) HBG.out ⟨b, q, true, .slice xa xn xc⟩ hbF κ d hd).imp id Nat.le_of_lt⟩
      · have hkm : k < m := by omega
        have hkmi : ¬ (k : Int) = m := by omega
        have HBIT := hid (HBT.out k hkm)
        have HRA : Hid (∀ w', Ch [] wr w' → w'.rangeAt w.heap.size 0 ac) := fun w' c => (BG.ch c (by simp)).rangeMid 0 _ HA.out
        have k_la : ∀ y : After wr, y.w.cell? ⟨lb, lo, none⟩ = some (.pointer (some ⟨d.b, 0, none⟩)) := fun y => by have := hlG.cell (TG.nil y.ch); rw [hdG] at this; exact this
        have hnx := LinkAt.next (g := g) hdG
        rcases bit_rng bs k with h0 | h0
        · rw [h0] at HBIT hnx
          go_upto_region 10 with fail
          refine wp_region_quietA (wr) (by kernel_rfl) (by kernel_rfl) (Ch.refl _ _) ?_
          repeat (first
            | (go_big_quiet_want; refine quiet_rowA 57 _ rfl w.heap.size 0 rfl ac _ HRA.out Tryd.underlying57 rfl HI.out ?_; simp only [Act.put, List.setIfInBounds_toArray, List.set_cons_succ, List.set_cons_zero]; go_big_quiet_on)
            | go_big_quiet_step (first
              | (go_at_call 72; with_reducible exact after_of (HBIT.out _))))
          refine wpQuiet_nil ?_
          intro wq hwq
          go_wp2_with fail
          go_roundw
          case rel => exact ⟨k + 1, d.b, 20, nd', rfl, by go_num, by omega, hnx, TG.nil hwq, HVG, HBG, CG.step hwq (by simp), BG.ch hwq (by simp)⟩
          case measure => simp [intOf]; omega
        · rw [h0] at HBIT hnx
          go_upto_region 10 with fail
          refine wp_region_quietA (wr) (by kernel_rfl) (by kernel_rfl) (Ch.refl _ _) ?_
          repeat (first
            | (go_big_quiet_want; refine quiet_rowA 57 _ rfl w.heap.size 0 rfl ac _ HRA.out Tryd.underlying57 rfl HI.out ?_; simp only [Act.put, List.setIfInBounds_toArray, List.set_cons_succ, List.set_cons_zero]; go_big_quiet_on)
            | go_big_quiet_step (first
              | (go_at_call 72; with_reducible exact after_of (HBIT.out _))))
          refine wpQuiet_nil ?_
          intro wq hwq
          go_wp2_with fail
          go_roundw
          case rel => exact ⟨k + 1, d.b, 21, nd', rfl, by go_num, by omega, hnx, TG.nil hwq, HVG, HBG, CG.step hwq (by simp), BG.ch hwq (by simp)⟩
          case measure => simp [intOf]; omega

end Go.Proofs.YtbmbnibamhgfmaaDoor

/- trie.Trie[[]int]: matches, Lookup, Matches, Len (printed by mk_trie2.py). -/
namespace Go.Proofs.YtbmbnibamhgfmaaDoor
open Go.RowKit

theorem ptr_infoZL : (Tryd.prog.info? 119).map (fun i => (i.zero, i.size, i.bytes)) = some (some (.pointer none), 1, 8) := by kernel_rfl
set_option maxRecDepth 20000 in
set_option maxHeartbeats 8000000 in
theorem trMatL (w : World) (g : Nat) (nd : Tri) (n : Int) (hT : TrI 125 122 w g nd n) (six : Bool) (bs : List Int) (hg : GoodA bs) :
    Calls Tryd.prog 94 #[.pointer (some ⟨g, 0, none⟩), .agg (addrC six bs).toArray] w fun e w' => ∃ A c, e = .returned (.slice A (mchL nd six bs).length c) ∧ Own w' w.heap.size 119 1 A (mchL nd six bs).length c ((mchL nd six bs).map ndPtr) ∧ Ch [] w w' := by
  have hL := bitL_le six
  have hLe := bitN_eq six
  have B0 : Blk (w.alloc (.cells (addrC six bs).toArray 57)) w.heap.size 57 (addrC six bs) := Blk.new w _ _
  have T0 := hT.nil ((Ch.refl [] w).alloc (.cells (addrC six bs).toArray 57))
  have C0 : Ch [] w (w.alloc (.cells (addrC six bs).toArray 57)) := (Ch.refl _ _).alloc _
  have HI := hid (addr_inf (six := six) hg.1)
  have HV := hid (ipValid six bs hg.1 hg.2)
  have HBL := hid (bitLenP six bs)
  have HBT : Hid (∀ k : Nat, k < bitN six → ∀ w, Calls Tryd.prog 72 #[.agg (addrC six bs).toArray, .int .i64 k] w fun e w' => e = .returned (.int .i64 (bitA bs k)) ∧ Ch [] w w') := fun k hk w => bitP six bs hg k (by omega) w
  obtain ⟨ro, hro⟩ : ∃ ro : Nat, (if six then 1 else 0) = ro := ⟨_, rfl⟩
  have hrt := LinkAt.root (nd := nd) (g := g) six
  rw [hro] at hrt
  have HRT := hid (fun w => trRootL g six bs ro hro w)
  have HLT : Hid (∀ κ d, nd κ = some d → d.b < w.heap.size) := fun κ d h => (hT.node κ d h).lt
  have hgl := hT.root.lt
  unfold mchL
  rw [hLe] at HBL hL
  generalize bitN six = L at HBT HBL hL ⊢
  clear hLe hro hg
  generalize addrC six bs = ac at *
  cases hva : validA six bs with
  | false =>
    rw [hva] at HV
    simp only [Bool.false_eq_true, if_false]
    go_enter Tryd.func94, Tryd.ntmps94
    go_wp2_with (first
      | (refine wpList_load_want rfl 57 _ rfl w.heap.size 0 rfl ac _ B0.range Tryd.underlying57 rfl HI.out ?_)
      | (go_at_call 57; (with_reducible refine (HV.out _).mono ?_); rintro e wn ⟨rfl, Cn⟩))
    go_ret
    exact ⟨none, 0, rfl, Own.nil _ _ _ _, C0.trans Cn⟩
  | true =>
    rw [hva] at HV
    simp only [if_true]
    obtain ⟨po0, hpo0⟩ := ptrV_form (nd (keyA six bs 0))
    have HPO0 := hid hpo0
    have HLK : Hid (∀ w', Ch [] w w' → w'.cell? ⟨g, ro, none⟩ = some (.pointer po0)) := fun w' c => by
      have := hrt.cell (hT.nil c)
      rw [← hpo0]
      exact this
    clear hpo0 hrt hva
    go_enter Tryd.func94, Tryd.ntmps94
    go_wp2_with (first
      | (refine wpList_load_want rfl 57 _ rfl w.heap.size 0 rfl ac _ B0.range Tryd.underlying57 rfl HI.out ?_)
      | (go_at_call 57; (with_reducible refine (HV.out _).mono ?_); rintro e wn ⟨rfl, Cn⟩; replace B0 := B0.ch Cn (by simp); replace T0 := T0.nil Cn; replace C0 := C0.trans Cn; clear Cn)
      | (go_at_call 70; (with_reducible refine (HRT.out _).mono ?_); rintro e wn ⟨rfl, Cn⟩; replace B0 := B0.ch Cn (by simp); replace T0 := T0.nil Cn; replace C0 := C0.trans Cn; clear Cn; have hlk := HLK.out _ C0))
    go_loopw [5, 6, 7] (fun l_ n_ i wr => ∃ (k ln : Nat) (A : Option Addr) (c : Nat) (po : Option Addr), l_ = .slice A ln c ∧ n_ = .pointer po ∧ i = .int .i64 k ∧ k ≤ L ∧ Hid (ptrV (nd (keyA six bs k)) = .pointer po) ∧ Own wr (w.heap.size + 1) 119 1 A ln c ((pathL nd six bs k).map ndPtr) ∧ Blk wr w.heap.size 57 ac ∧ TrI 125 122 wr g nd n ∧ Ch [] w wr) (fun _ _ i _ => L - (intOf i).toNat)
    case atStart => exact ⟨0, 0, none, 0, po0, rfl, rfl, rfl, by omega, HPO0, Own.nil _ _ _ _, B0, T0, C0⟩
    case round =>
      clear B0 T0 C0 hlk
      obtain ⟨k, ln, A, c, po, rfl, rfl, rfl, hk, HPO, own, BX, TX, CX⟩ := hrel
      have hln : ln ≤ 129 := by
        have h1 := own.len
        have h2 := pathL_len nd six bs k
        rw [List.length_map] at h1
        omega
      cases hnode : nd (keyA six bs k) with
      | none =>
        have hpo := HPO.out
        rw [hnode] at hpo
        obtain rfl : none = po := by simpa [ptrV] using hpo
        have HFN : Hid (pathL nd six bs (L + 1) = pathL nd six bs k) := pathL_stop (by omega) (TX.past hnode)
        have hl2 : (pathL nd six bs k).length = ln := by have := own.len; rw [List.length_map] at this; omega
        have HL2 := hid hl2
        clear hpo hl2
        go_wp2_with fail
        go_ret
        exact ⟨A, c, by (rw [HFN.out, HL2.out]) <;> rfl, by rw [HFN.out, HL2.out]; exact own.base (by omega), CX⟩
      | some d =>
        have hpo := HPO.out
        rw [hnode] at hpo
        obtain rfl : some ⟨d.b, 0, none⟩ = po := by simpa [ptrV] using hpo
        clear hpo HPO
        have e18 : wr.cell? ⟨d.b, 18, none⟩ = some (.bool d.pr) := ((TX.node _ _ hnode).cell 18).trans (nodeC_at (TX.l16 hnode) _ _ 0)
        cases hpr : d.pr with
        | false =>
          rw [hpr] at e18
          have HLL : Hid (pathL nd six bs (k + 1) = pathL nd six bs k) := by show _ = _; rw [pathL_succ, hnode]; simp [ndOn, hpr]
          have hl2 : (pathL nd six bs k).length = ln := by have := own.len; rw [List.length_map] at this; omega
          have HL2 := hid hl2
          clear hl2 hpr
          have OX := own
          go_upto_region 10 with fail
          by_cases km : k = L
          · subst km
            have HFN : Hid (pathL nd six bs (k + 1) = pathL nd six bs k) := by show _ = _; rw [HLL.out]
            go_wp2_with (first
              | (refine wpList_load_want rfl 57 _ rfl w.heap.size 0 rfl ac _ BX.range Tryd.underlying57 rfl HI.out ?_)
              | (go_at_call 58; (with_reducible refine (HBL.out _).mono ?_); rintro e wb ⟨rfl, Cb⟩))
            go_ret
            exact ⟨A, c, by (rw [HFN.out, HL2.out]) <;> rfl, by rw [HFN.out, HL2.out]; exact (OX.ch Cb (by simp)).base (by omega), CX.trans Cb⟩
          · have hkL : k < L := by omega
            have hkLi : ¬ (k : Int) = L := by omega
            have HBIT := hid (HBT.out k hkL)
            go_upto_region 11 with (first
              | (refine wpList_load_want rfl 57 _ rfl w.heap.size 0 rfl ac _ BX.range Tryd.underlying57 rfl HI.out ?_)
              | (go_at_call 58; (with_reducible refine (HBL.out _).mono ?_); rintro e wb ⟨rfl, Cb⟩))
            have BB := BX.ch Cb (by simp)
            have TB := TX.nil Cb
            have OB := OX.ch Cb (by simp)
            have CB := CX.trans Cb
            have HRA : Hid (∀ w', Ch [] wb w' → w'.rangeAt w.heap.size 0 ac) := fun w' c => (BB.ch c (by simp)).range
            obtain ⟨po2, hpo2⟩ := ptrV_form (nd (keyA six bs (k + 1)))
            have HPO2 := hid hpo2
            clear hpo2
            rcases bit_rng bs k with h0 | h0
            · rw [h0] at HBIT
              have k20 : ∀ y : After wb, y.w.cell? ⟨d.b, 20, none⟩ = some (.pointer po2) := fun y => by
                have := (LinkAt.next (g := g) hnode).cell (TB.nil y.ch)
                rw [h0, HPO2.out] at this
                exact this
              refine wp_region_quietA (wb) (by kernel_rfl) (by kernel_rfl) (Ch.refl _ _) ?_
              repeat (first
                | (go_big_quiet_want; refine quiet_rowA 57 _ rfl w.heap.size 0 rfl ac _ HRA.out Tryd.underlying57 rfl HI.out ?_; simp only [Act.put, List.setIfInBounds_toArray, List.set_cons_succ, List.set_cons_zero]; go_big_quiet_on)
                | go_big_quiet_step (first
                  | (go_at_call 72; with_reducible exact after_of (HBIT.out _))))
              refine wpQuiet_nil ?_
              intro wq hwq
              go_wp2_with fail
              go_roundw
              case rel => exact ⟨k + 1, _, A, c, po2, rfl, rfl, by go_num, by omega, HPO2, by rw [HLL.out]; exact OB.ch hwq (by simp), BB.ch hwq (by simp), TB.nil hwq, CB.trans hwq⟩
              case measure => simp [intOf]; omega
            · rw [h0] at HBIT
              have k21 : ∀ y : After wb, y.w.cell? ⟨d.b, 21, none⟩ = some (.pointer po2) := fun y => by
                have := (LinkAt.next (g := g) hnode).cell (TB.nil y.ch)
                rw [h0, HPO2.out] at this
                exact this
              refine wp_region_quietA (wb) (by kernel_rfl) (by kernel_rfl) (Ch.refl _ _) ?_
              repeat (first
                | (go_big_quiet_want; refine quiet_rowA 57 _ rfl w.heap.size 0 rfl ac _ HRA.out Tryd.underlying57 rfl HI.out ?_; simp only [Act.put, List.setIfInBounds_toArray, List.set_cons_succ, List.set_cons_zero]; go_big_quiet_on)
                | go_big_quiet_step (first
                  | (go_at_call 72; with_reducible exact after_of (HBIT.out _))))
              refine wpQuiet_nil ?_
              intro wq hwq
              go_wp2_with fail
              go_roundw
              case rel => exact ⟨k + 1, _, A, c, po2, rfl, rfl, by go_num, by omega, HPO2, by rw [HLL.out]; exact OB.ch hwq (by simp), BB.ch hwq (by simp), TB.nil hwq, CB.trans hwq⟩
              case measure => simp [intOf]; omega

        | true =>
          rw [hpr] at e18
          have HLL : Hid (pathL nd six bs (k + 1) = pathL nd six bs k ++ [d]) := by show _ = _; rw [pathL_succ, hnode]; simp [ndOn, hpr]
          have hl2 : (pathL nd six bs k ++ [d]).length = ln + 1 := by have := own.len; rw [List.length_map] at this; simp; omega
          have HL2 := hid hl2
          clear hl2 hpr
          go_upto_region 10 with (at_builtin; (refine wpList_app _ rfl (.tmp 24) (.tmp 26) _ rfl (w.heap.size + 1) 119 _ 1 8 Tryd.underlying149 ptr_infoZL rfl (by omega) _ _ _ _ rfl (own.alloc _) _ _ _ _ [ndPtr d] rfl (Rd.new wr 1 [ndPtr d] 1 rfl 119) (by simp [ndPtr, Value.oneCell']) (by unfold maxLen; omega) (by omega) (by have := BX.lt; simp only [World.size_alloc]; omega) ?_; intro A4 c4 w4 own4 ch4 at4))
          have CA : Ch (blkOf A) wr w4 := ((Ch.refl (blkOf A) wr).alloc (.cells [ndPtr d].toArray 119)).trans ch4
          have hob := own.blks
          have C4 := CX.step CA (fun i hi => .inr (by have := (hob i hi).1; omega))
          have B4 := BX.ch CA (fun h => by have := (hob _ h).1; omega)
          have T4 := TX.ch CA (fun h => by have := (hob _ h).1; omega) (fun κ' d' h' h => by have := (hob _ h).1; have := HLT.out κ' d' h'; omega)
          have OX : Own w4 (w.heap.size + 1) 119 1 A4 (ln + 1) c4 ((pathL nd six bs k ++ [d]).map ndPtr) := by rw [List.map_append]; exact own4
          clear own BX TX CX CA own4 ch4 at4 hob
          have BX := B4
          have TX := T4
          have CX := C4
          clear B4 T4 C4
          by_cases km : k = L
          · subst km
            have HFN : Hid (pathL nd six bs (k + 1) = pathL nd six bs k ++ [d]) := by show _ = _; rw [HLL.out]
            go_wp2_with (first
              | (refine wpList_load_want rfl 57 _ rfl w.heap.size 0 rfl ac _ BX.range Tryd.underlying57 rfl HI.out ?_)
              | (go_at_call 58; (with_reducible refine (HBL.out _).mono ?_); rintro e wb ⟨rfl, Cb⟩))
            go_ret
            exact ⟨A4, c4, by (rw [HFN.out, HL2.out]) <;> rfl, by rw [HFN.out, HL2.out]; exact (OX.ch Cb (by simp)).base (by omega), CX.trans Cb⟩
          · have hkL : k < L := by omega
            have hkLi : ¬ (k : Int) = L := by omega
            have HBIT := hid (HBT.out k hkL)
            go_upto_region 11 with (first
              | (refine wpList_load_want rfl 57 _ rfl w.heap.size 0 rfl ac _ BX.range Tryd.underlying57 rfl HI.out ?_)
              | (go_at_call 58; (with_reducible refine (HBL.out _).mono ?_); rintro e wb ⟨rfl, Cb⟩))
            have BB := BX.ch Cb (by simp)
            have TB := TX.nil Cb
            have OB := OX.ch Cb (by simp)
            have CB := CX.trans Cb
            have HRA : Hid (∀ w', Ch [] wb w' → w'.rangeAt w.heap.size 0 ac) := fun w' c => (BB.ch c (by simp)).range
            obtain ⟨po2, hpo2⟩ := ptrV_form (nd (keyA six bs (k + 1)))
            have HPO2 := hid hpo2
            clear hpo2
            rcases bit_rng bs k with h0 | h0
            · rw [h0] at HBIT
              have k20 : ∀ y : After wb, y.w.cell? ⟨d.b, 20, none⟩ = some (.pointer po2) := fun y => by
                have := (LinkAt.next (g := g) hnode).cell (TB.nil y.ch)
                rw [h0, HPO2.out] at this
                exact this
              refine wp_region_quietA (wb) (by kernel_rfl) (by kernel_rfl) (Ch.refl _ _) ?_
              repeat (first
                | (go_big_quiet_want; refine quiet_rowA 57 _ rfl w.heap.size 0 rfl ac _ HRA.out Tryd.underlying57 rfl HI.out ?_; simp only [Act.put, List.setIfInBounds_toArray, List.set_cons_succ, List.set_cons_zero]; go_big_quiet_on)
                | go_big_quiet_step (first
                  | (go_at_call 72; with_reducible exact after_of (HBIT.out _))))
              refine wpQuiet_nil ?_
              intro wq hwq
              go_wp2_with fail
              go_roundw
              case rel => exact ⟨k + 1, _, A4, c4, po2, rfl, rfl, by go_num, by omega, HPO2, by rw [HLL.out]; exact OB.ch hwq (by simp), BB.ch hwq (by simp), TB.nil hwq, CB.trans hwq⟩
              case measure => simp [intOf]; omega
            · rw [h0] at HBIT
              have k21 : ∀ y : After wb, y.w.cell? ⟨d.b, 21, none⟩ = some (.pointer po2) := fun y => by
                have := (LinkAt.next (g := g) hnode).cell (TB.nil y.ch)
                rw [h0, HPO2.out] at this
                exact this
              refine wp_region_quietA (wb) (by kernel_rfl) (by kernel_rfl) (Ch.refl _ _) ?_
              repeat (first
                | (go_big_quiet_want; refine quiet_rowA 57 _ rfl w.heap.size 0 rfl ac _ HRA.out Tryd.underlying57 rfl HI.out ?_; simp only [Act.put, List.setIfInBounds_toArray, List.set_cons_succ, List.set_cons_zero]; go_big_quiet_on)
                | go_big_quiet_step (first
                  | (go_at_call 72; with_reducible exact after_of (HBIT.out _))))
              refine wpQuiet_nil ?_
              intro wq hwq
              go_wp2_with fail
              go_roundw
              case rel => exact ⟨k + 1, _, A4, c4, po2, rfl, rfl, by go_num, by omega, HPO2, by rw [HLL.out]; exact OB.ch hwq (by simp), BB.ch hwq (by simp), TB.nil hwq, CB.trans hwq⟩
              case measure => simp [intOf]; omega

end Go.Proofs.YtbmbnibamhgfmaaDoor

/- trie.Trie[[]int]: Lookup, Matches, Len (printed by mk_trie3.py). -/
namespace Go.Proofs.YtbmbnibamhgfmaaDoor
open Go.RowKit

set_option maxRecDepth 20000 in
set_option maxHeartbeats 8000000 in
theorem trMtsL (w : World) (g : Nat) (nd : Tri) (n : Int) (hT : TrI 125 122 w g nd n) (six : Bool) (bs : List Int) (hg : GoodA bs) :
    Calls Tryd.prog 77 #[.pointer (some ⟨g, 0, none⟩), .agg (addrC six bs).toArray] w fun e w' => ∃ A c, e = .returned (.slice A (mchL nd six bs).length c) ∧ Own w' w.heap.size 59 18 A (mchL nd six bs).length c ((mchL nd six bs).flatMap fun d => pfxC d.q) ∧ Ch [] w w' := by
  have B0 : Blk (w.alloc (.cells (addrC six bs).toArray 57)) w.heap.size 57 (addrC six bs) := Blk.new w _ _
  have C0 : Ch [] w (w.alloc (.cells (addrC six bs).toArray 57)) := (Ch.refl _ _).alloc _
  have HI := hid (addr_inf (six := six) hg.1)
  have HM := hid (trMatL _ g nd n (hT.nil C0) six bs hg)
  have HMEM : Hid (∀ d ∈ mchL nd six bs, d.q.2.1.length = 16 ∧ ∃ κ, nd κ = some d) := fun d hd => by
    obtain ⟨k, _, hn, _⟩ := mchL_mem hd
    exact ⟨hT.l16 hn, _, hn⟩
  have hlen := pathL_len nd six bs (bitN six + 1)
  have hlm : (mchL nd six bs).length ≤ bitN six + 1 := by unfold mchL; split <;> simp [hlen]
  have hb : bitN six ≤ 128 := by cases six <;> decide
  have HT := hid (fun (w' : World) (c : Ch [] w w') => hT.nil c)
  obtain ⟨N, hN⟩ : ∃ N, (mchL nd six bs).length = N := ⟨_, rfl⟩
  rw [hN] at HM hlm ⊢
  generalize mchL nd six bs = LL at HM HMEM hN ⊢
  have HLN := hid hN
  generalize addrC six bs = ac at *
  clear hT hg hlen hN
  go_enter Tryd.func77, Tryd.ntmps77
  go_wp2_with (first
    | (refine wpList_load_want rfl 57 _ rfl w.heap.size 0 rfl ac _ B0.range Tryd.underlying57 rfl HI.out ?_)
    | (go_at_call 94; (with_reducible refine (HM.out).mono ?_); rintro e w1 ⟨A, c, rfl, own, C1⟩))
  have CC := C0.trans C1
  go_loopw [5, 12] (fun l_ i wr => ∃ (j : Nat) (A2 : Option Addr) (c2 : Nat), l_ = .slice A2 j c2 ∧ i = .int .i64 j ∧ j ≤ N ∧ Own wr w1.heap.size 59 18 A2 j c2 ((LL.take j).flatMap fun d => pfxC d.q) ∧ Ch [] w1 wr) (fun _ i _ => N - (intOf i).toNat)
  case atStart => exact ⟨0, none, 0, rfl, rfl, by omega, Own.nil _ _ _ _, Ch.refl _ _⟩
  case round =>
    obtain ⟨j, A2, c2, rfl, rfl, hj, own2, CX⟩ := hrel
    by_cases hlt : j < N
    · obtain ⟨b1, o1, v1, rfl, hb1, hv1, hc1⟩ := own.rd.at_ hlt
      obtain ⟨d, hd⟩ : ∃ d, LL[j]? = some d := ⟨_, List.getElem?_eq_getElem (by rw [HLN.out]; exact hlt)⟩
      rw [List.getElem?_map, hd] at hv1
      obtain rfl := Option.some.inj hv1
      have hc2 : wr.cell? ⟨b1, o1 + j, none⟩ = some (.pointer (some ⟨d.b, 0, none⟩)) := (CX.cell (p := ⟨b1, o1 + j, none⟩) hb1 (by simp)).trans hc1
      obtain ⟨h16, κ, hκ⟩ := HMEM.out d (List.mem_of_getElem? hd)
      have BN := (HT.out wr (CC.trans CX)).node κ d hκ
      have HTK : Hid (LL.take (j + 1) = LL.take j ++ [d]) := take_one hd
      obtain ⟨bd, ⟨qs, qb, qn⟩, pr, x⟩ := d
      obtain ⟨y0, y1, y2, y3, y4, y5, y6, y7, y8, y9, y10, y11, y12, y13, y14, y15, rfl⟩ := len16 h16
      have HRN : Hid (wr.rangeAt bd 0 [.bool qs, .int .u8 y0, .int .u8 y1, .int .u8 y2, .int .u8 y3, .int .u8 y4, .int .u8 y5, .int .u8 y6, .int .u8 y7, .int .u8 y8, .int .u8 y9, .int .u8 y10, .int .u8 y11, .int .u8 y12, .int .u8 y13, .int .u8 y14, .int .u8 y15, .int .i64 qn]) := BN.rangeMid 0 _ (nodeC_pfx (d := ⟨bd, (qs, [y0, y1, y2, y3, y4, y5, y6, y7, y8, y9, y10, y11, y12, y13, y14, y15], qn), pr, x⟩) _ _)
      have HIP : Hid ((Tryd.prog.info? 59).map (·.size) = some (List.length ([.bool qs, .int .u8 y0, .int .u8 y1, .int .u8 y2, .int .u8 y3, .int .u8 y4, .int .u8 y5, .int .u8 y6, .int .u8 y7, .int .u8 y8, .int .u8 y9, .int .u8 y10, .int .u8 y11, .int .u8 y12, .int .u8 y13, .int .u8 y14, .int .u8 y15, .int .i64 qn] : List Value))) := pfx_inf (p := (qs, [y0, y1, y2, y3, y4, y5, y6, y7, y8, y9, y10, y11, y12, y13, y14, y15], qn)) rfl
      have hi0 : (0 : Int) ≤ j := by omega
      have hi1 : (j : Int) < N := by omega
      have szx := CX.size
      simp only at hc2
      clear hd hv1 hc1 BN h16 hκ
      go_wp2_with (first
        | (at_builtin; (refine wpList_app _ rfl (.tmp 16) (.tmp 21) _ rfl w1.heap.size 59 _ 18 32 Tryd.underlying133 pfx_infoZ rfl (by omega) _ _ _ _ rfl (own2.alloc _) _ _ _ _ (pfxC (qs, [y0, y1, y2, y3, y4, y5, y6, y7, y8, y9, y10, y11, y12, y13, y14, y15], qn)) rfl (Rd.new wr 18 (pfxC (qs, [y0, y1, y2, y3, y4, y5, y6, y7, y8, y9, y10, y11, y12, y13, y14, y15], qn)) 1 rfl _) (List.all_eq_true.1 (pfx_one _)) (by unfold maxLen; omega) (by omega) (by simp only [World.size_alloc]; omega) ?_; intro A4 c4 w4 own4 ch4 at4))
        | (refine wpList_buildRows rfl 133 59 1 _ rfl [.bool qs, .int .u8 y0, .int .u8 y1, .int .u8 y2, .int .u8 y3, .int .u8 y4, .int .u8 y5, .int .u8 y6, .int .u8 y7, .int .u8 y8, .int .u8 y9, .int .u8 y10, .int .u8 y11, .int .u8 y12, .int .u8 y13, .int .u8 y14, .int .u8 y15, .int .i64 qn] _ 18 _ Tryd.underlying133 pfx_infoZ (by decide) (by decide) (by kernel_rfl) ?_)
        | (refine wpList_load_want rfl 59 _ rfl bd 0 rfl [.bool qs, .int .u8 y0, .int .u8 y1, .int .u8 y2, .int .u8 y3, .int .u8 y4, .int .u8 y5, .int .u8 y6, .int .u8 y7, .int .u8 y8, .int .u8 y9, .int .u8 y10, .int .u8 y11, .int .u8 y12, .int .u8 y13, .int .u8 y14, .int .u8 y15, .int .i64 qn] _ HRN.out Tryd.underlying59 rfl HIP.out ?_))
      go_roundw
      case rel =>
        refine ⟨j + 1, A4, c4, rfl, by go_num, by omega, ?_, (CX.alloc _).step ch4 (fun g' hg' => .inr (own2.blks g' hg').1)⟩
        rw [HTK.out, List.flatMap_append]
        simpa using own4
      case measure => simp [intOf]; omega
    · obtain rfl : j = N := by omega
      have HTA : Hid (LL.take j = LL) := List.take_of_length_le (by rw [HLN.out]; omega)
      go_wp2_with fail
      go_ret
      exact ⟨A2, c2, rfl, by rw [HTA.out] at own2; exact own2.base CC.size, CC.trans CX⟩
end Go.Proofs.YtbmbnibamhgfmaaDoor

/- trie.Trie[[]int] by the map that it stores (printed by mk_trie4.py). -/
namespace Go.Proofs.YtbmbnibamhgfmaaDoor
open Go.RowKit

abbrev TrML := TrF 125 122
theorem trNewFL (w : World) : Calls Tryd.prog 43 #[] w fun e w' => e = .returned (.pointer (some ⟨w.heap.size, 0, none⟩)) ∧ TrML w' w.heap.size (fun _ => none) 0 [w.heap.size] ∧ Ch [] w w' :=
  (trNewL w).mono fun _ _ ⟨h1, h2, h3⟩ => ⟨h1, ⟨_, h2, by simp, fun _ _ h => (by cases h), fun b hb => by rw [List.mem_singleton.1 hb]; exact h2.root.lt, fun _ => rfl⟩, h3⟩
section
variable {w : World} {g : Nat} {m : KM} {n : Int} {F : List Nat}
theorem trInsFL (h : TrML w g m n F) (hn : 0 ≤ n ∧ n ≤ 1000000) (p : Pfx) (hp : OkP p) (xa : Option Addr) (xn xc : Nat) :
    Calls Tryd.prog 45 #[.pointer (some ⟨g, 0, none⟩), .agg (pfxC p).toArray, .slice xa xn xc] w fun e w' => e = .returned (.bool true) ∧ ∃ F', TrML w' g (mset m (keyP p) (.slice xa xn xc)) (if m (keyP p) = none then n + 1 else n) F' ∧ Ch F w w' ∧ ∀ b ∈ F', b ∈ F ∨ w.heap.size ≤ b := by
  obtain ⟨nd, W⟩ := id h
  refine (trInsertL w g nd n F W.t W.g_in W.b_in W.lt hn p hp xa xn xc).mono ?_
  rintro e w' ⟨h1, nd', n', ht, hv, hn', hc, hb⟩
  rw [W.val] at hn'
  rw [hn']
  refine ⟨h1, _, h.mk' ht (fun κ => ?_) hc hb, hc, fun b hb => ?_⟩
  · rw [hv, mset, W.val]
  · rcases List.mem_append.1 hb with h | h
    · exact .inl h
    · exact .inr (newB_ge h).1
theorem trMtsFL (h : TrML w g m n F) {six : Bool} {bs : List Int} (hg : GoodA bs) {l : List (Nat × Value)} (hm : mK m six bs = l) : Calls Tryd.prog 77 #[.pointer (some ⟨g, 0, none⟩), .agg (addrC six bs).toArray] w fun e w' => ∃ A c, e = .returned (.slice A l.length c) ∧ Own w' w.heap.size 59 18 A l.length c (l.flatMap fun e => pfxC (kPfx six bs e)) ∧ Ch [] w w' := by
  obtain ⟨nd, W⟩ := h
  have := trMtsL w g nd n W.t six bs hg
  rw [W.len hg, W.flat hg, hm] at this
  exact this
end
end Go.Proofs.YtbmbnibamhgfmaaDoor

/- trie.Trie[[]int]: find, lookup, Get; Insert at an invalid prefix (printed by mk_trie5.py). -/
namespace Go.Proofs.YtbmbnibamhgfmaaDoor
open Go.RowKit

set_option maxRecDepth 20000 in
set_option maxHeartbeats 8000000 in
theorem trFindL (w : World) (g : Nat) (nd : Tri) (n : Int) (hT : TrI 125 122 w g nd n) (p : Pfx) (hp : OkP p) :
    Calls Tryd.prog 88 #[.pointer (some ⟨g, 0, none⟩), .agg (pfxC p).toArray] w fun e w' => (∃ k lb lo : Nat, e = .returned (.pointer (some ⟨lb, lo, none⟩)) ∧ LinkAt nd g (keyA p.1 p.2.1 k) ⟨lb, lo, none⟩ ∧ k ≤ p.2.2.toNat ∧ (k = p.2.2.toNat ∨ nd (keyA p.1 p.2.1 k) = none)) ∧ Ch [] w w' := by
  have hva := hp.va
  have hgd := hp.g
  have hrng := hp.rng
  obtain ⟨m, hm⟩ : ∃ m : Nat, p.2.2 = m := ⟨p.2.2.toNat, by have := hp.nat.1; omega⟩
  have hkey : keyP p = keyA p.1 p.2.1 m := by unfold keyP; rw [hm, Int.toNat_natCast]
  have hmn : p.2.2.toNat = m := by rw [hm, Int.toNat_natCast]
  rw [hmn]
  have BP0 : Blk (w.alloc (.cells (pfxC p).toArray 59)) w.heap.size 59 (pfxC p) := Blk.new w _ _
  have h17 := pfx_bits (p := p) hp.g.1
  have haddr : ∀ j v, (addrC p.1 p.2.1)[j]? = some v → (pfxC p)[0 + j]? = some v := fun j v hj => pfx_addr (p := p) hj
  have C0 : Ch [] w (w.alloc (.cells (pfxC p).toArray 59)) := (Ch.refl _ _).alloc _
  rw [hm] at hrng h17
  obtain ⟨six, bs, pn⟩ := p
  simp only at hm hva hgd hrng h17 haddr hkey hmn ⊢
  have hL := bitL_le six
  have HI := hid (addr_inf (six := six) hgd.1)
  generalize pfxC (six, bs, pn) = cs at BP0 h17 haddr C0 ⊢
  have HA := hid haddr
  have H17 := hid h17
  clear hp hm hkey hmn haddr h17 hva
  have T0 := hT.nil C0
  have HBT : Hid (∀ k : Nat, k < m → ∀ w, Calls Tryd.prog 72 #[.agg (addrC six bs).toArray, .int .i64 k] w fun e w' => e = .returned (.int .i64 (bitA bs k)) ∧ Ch [] w w') := fun k hk w => bitP six bs hgd k (by omega) w
  clear hgd hT
  have hrt := LinkAt.root (nd := nd) (g := g) six
  obtain ⟨ro, hro⟩ : ∃ ro : Nat, (if six then 1 else 0) = ro := ⟨_, rfl⟩
  rw [hro] at hrt
  have HRT := hid (fun w => trRootL g six bs ro hro w)
  clear hro
  generalize addrC six bs = ac at HI HA HBT HRT
  go_enter Tryd.func88, Tryd.ntmps88
  go_wp2_with (first
    | (refine wpList_load_want rfl 57 _ rfl w.heap.size 0 rfl ac _ (BP0.rangeMid 0 _ HA.out) Tryd.underlying57 rfl HI.out ?_)
    | (go_at_call 70; (with_reducible refine (HRT.out _).mono ?_); rintro e wn ⟨rfl, Cn⟩; replace BP0 := BP0.ch Cn (by simp); replace T0 := T0.nil Cn; replace C0 := C0.trans Cn; clear Cn))
  go_loopw [5, 6] (fun at_ i wr => ∃ (k lb lo : Nat), at_ = .pointer (some ⟨lb, lo, none⟩) ∧ i = .int .i64 k ∧ k ≤ m ∧ LinkAt nd g (keyA six bs k) ⟨lb, lo, none⟩ ∧ TrI 125 122 wr g nd n ∧ Ch [] w wr ∧ Blk wr w.heap.size 59 cs) (fun _ i _ => m - (intOf i).toNat)
  case atStart => exact ⟨0, g, _, rfl, rfl, by omega, hrt, T0, C0, BP0⟩
  case round =>
    clear T0 C0 BP0 hrt HRT
    obtain ⟨k, lb, lo, rfl, rfl, hk, hl, TX, CX, BX⟩ := hrel
    have e17 : wr.cell? ⟨w.heap.size, 17, none⟩ = some (.int .i64 m) := (BX.cell 17).trans H17.out
    by_cases km : k = m
    · subst km
      go_wp2_with fail
      go_ret
      exact ⟨⟨k, lb, lo, rfl, hl, Nat.le_refl _, .inl rfl⟩, CX⟩
    · have hkm : k < m := by omega
      have hkmi : (k : Int) < m := by omega
      cases hnode : nd (keyA six bs k) with
      | none =>
        have e_la : wr.cell? ⟨lb, lo, none⟩ = some (.pointer none) := by have := hl.cell TX; rw [hnode] at this; exact this
        go_wp2_with fail
        go_ret
        exact ⟨⟨k, lb, lo, rfl, hl, by omega, .inr hnode⟩, CX⟩
      | some d =>
        have e_la : wr.cell? ⟨lb, lo, none⟩ = some (.pointer (some ⟨d.b, 0, none⟩)) := by have := hl.cell TX; rw [hnode] at this; exact this
        have HBIT := hid (HBT.out k hkm)
        have HRA : Hid (∀ w', Ch [] wr w' → w'.rangeAt w.heap.size 0 ac) := fun w' c => (BX.ch c (by simp)).rangeMid 0 _ HA.out
        have k_la : ∀ y : After wr, y.w.cell? ⟨lb, lo, none⟩ = some (.pointer (some ⟨d.b, 0, none⟩)) := fun y => by have := hl.cell (TX.nil y.ch); rw [hnode] at this; exact this
        have hnx := LinkAt.next (g := g) hnode
        rcases bit_rng bs k with h0 | h0
        · rw [h0] at HBIT hnx
          go_upto_region 5 with fail
          refine wp_region_quietA (wr) (by kernel_rfl) (by kernel_rfl) (Ch.refl _ _) ?_
          repeat (first
            | (go_big_quiet_want; refine quiet_rowA 57 _ rfl w.heap.size 0 rfl ac _ HRA.out Tryd.underlying57 rfl HI.out ?_; simp only [Act.put, List.setIfInBounds_toArray, List.set_cons_succ, List.set_cons_zero]; go_big_quiet_on)
            | go_big_quiet_step (first
              | (go_at_call 72; with_reducible exact after_of (HBIT.out _))))
          refine wpQuiet_nil ?_
          intro wq hwq
          go_wp2_with fail
          go_roundw
          case rel => exact ⟨k + 1, d.b, 20, rfl, by go_num, by omega, hnx, TX.nil hwq, CX.trans hwq, BX.ch hwq (by simp)⟩
          case measure => simp [intOf]; omega
        · rw [h0] at HBIT hnx
          go_upto_region 5 with fail
          refine wp_region_quietA (wr) (by kernel_rfl) (by kernel_rfl) (Ch.refl _ _) ?_
          repeat (first
            | (go_big_quiet_want; refine quiet_rowA 57 _ rfl w.heap.size 0 rfl ac _ HRA.out Tryd.underlying57 rfl HI.out ?_; simp only [Act.put, List.setIfInBounds_toArray, List.set_cons_succ, List.set_cons_zero]; go_big_quiet_on)
            | go_big_quiet_step (first
              | (go_at_call 72; with_reducible exact after_of (HBIT.out _))))
          refine wpQuiet_nil ?_
          intro wq hwq
          go_wp2_with fail
          go_roundw
          case rel => exact ⟨k + 1, d.b, 21, rfl, by go_num, by omega, hnx, TX.nil hwq, CX.trans hwq, BX.ch hwq (by simp)⟩
          case measure => simp [intOf]; omega

theorem trLinkCL {w : World} {g : Nat} {nd : Tri} {n : Int} (hT : TrI 125 122 w g nd n) {six : Bool} {bs : List Int} {k m : Nat} {la : Addr} (hl : LinkAt nd g (keyA six bs k) la) (hk : k ≤ m) (h : k = m ∨ nd (keyA six bs k) = none) : w.cell? la = some (ptrV (nd (keyA six bs m))) := by
  rcases h with rfl | h
  · exact hl.cell hT
  · rw [hl.cell hT, h, hT.past h m hk]
set_option maxRecDepth 20000 in
set_option maxHeartbeats 8000000 in
theorem trLkpL (w : World) (g : Nat) (nd : Tri) (n : Int) (hT : TrI 125 122 w g nd n) (p : Pfx) (hg : GoodA p.2.1) (o : Option ND) (ho : (if validP p then ndOn (nd (keyP p)) else none) = o) :
    Calls Tryd.prog 69 #[.pointer (some ⟨g, 0, none⟩), .agg (pfxC p).toArray] w fun e w' => e = .returned (ptrV o) ∧ Ch [] w w' := by
  have B0 : Blk (w.alloc (.cells (pfxC p).toArray 59)) w.heap.size 59 (pfxC p) := Blk.new w _ _
  have C0 : Ch [] w (w.alloc (.cells (pfxC p).toArray 59)) := (Ch.refl _ _).alloc _
  have HIP := hid (pfx_inf (p := p) hg.1)
  have HV := hid (validPfx p.1 p.2.1 p.2.2 hg)
  rw [show (p.1, p.2.1, p.2.2) = p from rfl] at HV
  cases hv : validP p with
  | false =>
    rw [hv] at HV ho
    simp only [Bool.false_eq_true, if_false] at ho
    subst ho
    generalize pfxC p = cs at *
    clear hT hv
    go_enter Tryd.func69, Tryd.ntmps69
    go_wp2_with (first
      | (refine wpList_load_want rfl 59 _ rfl w.heap.size 0 rfl cs _ B0.range Tryd.underlying59 rfl HIP.out ?_)
      | (go_at_call 36; (with_reducible refine (HV.out _).mono ?_); rintro e wn ⟨rfl, Cn⟩))
    go_ret
    exact ⟨rfl, C0.trans Cn⟩
  | true =>
    rw [hv] at HV ho
    simp only [if_true] at ho
    have hp : OkP p := ⟨hg, hv⟩
    have HT := hid (fun (w' : World) (c : Ch [] w w') => hT.nil c)
    have HFN : Hid (∀ w', Ch [] w w' → Calls Tryd.prog 88 #[.pointer (some ⟨g, 0, none⟩), .agg (pfxC p).toArray] w' fun e w'' => (∃ lb lo : Nat, e = .returned (.pointer (some ⟨lb, lo, none⟩)) ∧ w''.cell? ⟨lb, lo, none⟩ = some (ptrV (nd (keyP p)))) ∧ Ch [] w' w'') := fun w' c => by
      refine (trFindL w' g nd n (hT.nil c) p hp).mono ?_
      rintro e w'' ⟨⟨k, lb, lo, rfl, hl, hk, h⟩, c'⟩
      exact ⟨⟨lb, lo, rfl, trLinkCL ((hT.nil c).nil c') hl hk h⟩, c'⟩
    clear hp hv
    cases hn : nd (keyP p) with
    | none =>
      rw [hn] at HFN ho
      obtain rfl : none = o := ho
      replace HFN : Hid (∀ w', Ch [] w w' → Calls Tryd.prog 88 #[.pointer (some ⟨g, 0, none⟩), .agg (pfxC p).toArray] w' fun e w'' => (∃ lb lo : Nat, e = .returned (.pointer (some ⟨lb, lo, none⟩)) ∧ w''.cell? ⟨lb, lo, none⟩ = some (.pointer none)) ∧ Ch [] w' w'') := HFN
      generalize pfxC p = cs at *
      clear hT hn
      go_enter Tryd.func69, Tryd.ntmps69
      go_wp2_with (first
        | (refine wpList_load_want rfl 59 _ rfl w.heap.size 0 rfl cs _ B0.range Tryd.underlying59 rfl HIP.out ?_)
        | (go_at_call 36; (with_reducible refine (HV.out _).mono ?_); rintro e wn ⟨rfl, Cn⟩; replace B0 := B0.ch Cn (by simp); replace C0 := C0.trans Cn)
        | (go_at_call 88; (with_reducible refine (HFN.out _ C0).mono ?_); rintro e w2 ⟨⟨lb, lo, rfl, e_la⟩, C2⟩))
      go_ret
      exact ⟨rfl, C0.trans C2⟩
    | some d =>
      rw [hn] at HFN ho
      replace HFN : Hid (∀ w', Ch [] w w' → Calls Tryd.prog 88 #[.pointer (some ⟨g, 0, none⟩), .agg (pfxC p).toArray] w' fun e w'' => (∃ lb lo : Nat, e = .returned (.pointer (some ⟨lb, lo, none⟩)) ∧ w''.cell? ⟨lb, lo, none⟩ = some (.pointer (some ⟨d.b, 0, none⟩))) ∧ Ch [] w' w'') := HFN
      have H18 : Hid (∀ w', Ch [] w w' → w'.cell? ⟨d.b, 18, none⟩ = some (.bool d.pr)) := fun w' c => (((hT.nil c).node _ d hn).cell 18).trans (nodeC_at (hT.l16 hn) _ _ 0)
      cases hpr : d.pr with
      | false =>
        obtain rfl : none = o := by rw [← ho]; simp [ndOn, hpr]
        rw [hpr] at H18
        generalize pfxC p = cs at *
        clear hT hn hpr ho
        go_enter Tryd.func69, Tryd.ntmps69
        go_wp2_with (first
          | (refine wpList_load_want rfl 59 _ rfl w.heap.size 0 rfl cs _ B0.range Tryd.underlying59 rfl HIP.out ?_)
          | (go_at_call 36; (with_reducible refine (HV.out _).mono ?_); rintro e wn ⟨rfl, Cn⟩; replace B0 := B0.ch Cn (by simp); replace C0 := C0.trans Cn)
          | (go_at_call 88; (with_reducible refine (HFN.out _ C0).mono ?_); rintro e w2 ⟨⟨lb, lo, rfl, e_la⟩, C2⟩; have e18 := H18.out _ (C0.trans C2)))
        go_ret
        exact ⟨rfl, C0.trans C2⟩
      | true =>
        obtain rfl : some d = o := by rw [← ho]; simp [ndOn, hpr]
        rw [hpr] at H18
        generalize pfxC p = cs at *
        clear hT hn hpr ho
        go_enter Tryd.func69, Tryd.ntmps69
        go_wp2_with (first
          | (refine wpList_load_want rfl 59 _ rfl w.heap.size 0 rfl cs _ B0.range Tryd.underlying59 rfl HIP.out ?_)
          | (go_at_call 36; (with_reducible refine (HV.out _).mono ?_); rintro e wn ⟨rfl, Cn⟩; replace B0 := B0.ch Cn (by simp); replace C0 := C0.trans Cn)
          | (go_at_call 88; (with_reducible refine (HFN.out _ C0).mono ?_); rintro e w2 ⟨⟨lb, lo, rfl, e_la⟩, C2⟩; have e18 := H18.out _ (C0.trans C2)))
        go_ret
        exact ⟨rfl, C0.trans C2⟩
set_option maxRecDepth 20000 in
set_option maxHeartbeats 8000000 in
theorem trGetL (w : World) (g : Nat) (nd : Tri) (n : Int) (hT : TrI 125 122 w g nd n) (p : Pfx) (hg : GoodA p.2.1) (o : Option Value) (ho : (if validP p then nd.val (keyP p) else none) = o) :
    Calls Tryd.prog 44 #[.pointer (some ⟨g, 0, none⟩), .agg (pfxC p).toArray] w fun e w' => e = .returned (.tuple #[o.getD (.slice none 0 0), .bool o.isSome]) ∧ Ch [] w w' := by
  have B0 : Blk (w.alloc (.cells (pfxC p).toArray 59)) w.heap.size 59 (pfxC p) := Blk.new w _ _
  have C0 : Ch [] w (w.alloc (.cells (pfxC p).toArray 59)) := (Ch.refl _ _).alloc _
  have HIP := hid (pfx_inf (p := p) hg.1)
  obtain ⟨od, hod⟩ : ∃ od, (if validP p then ndOn (nd (keyP p)) else none) = od := ⟨_, rfl⟩
  have HLK := hid (trLkpL _ g nd n (hT.nil C0) p hg od hod)
  cases od with
  | none =>
    have : o = none := by
      rw [← ho]
      cases hv : validP p
      · rfl
      · rw [hv] at hod
        simp only [if_true] at hod ⊢
        unfold Tri.val
        cases hn : nd (keyP p) with
        | none => rfl
        | some d =>
          rw [hn] at hod
          obtain ⟨b, q, pr, x⟩ := d
          cases pr
          · rfl
          · simp [ndOn] at hod
    subst this
    replace HLK : Hid (Calls Tryd.prog 69 #[.pointer (some ⟨g, 0, none⟩), .agg (pfxC p).toArray] _ fun e w' => e = .returned (.pointer none) ∧ Ch [] _ w') := HLK
    generalize pfxC p = cs at *
    clear hT hod ho
    go_enter Tryd.func44, Tryd.ntmps44
    go_wp2_with (first
      | (refine wpList_load_want rfl 59 _ rfl w.heap.size 0 rfl cs _ B0.range Tryd.underlying59 rfl HIP.out ?_)
      | (go_at_call 69; (with_reducible refine HLK.out.mono ?_); rintro e wn ⟨rfl, Cn⟩))
    go_ret2
    exact ⟨rfl, C0.trans Cn⟩
  | some d =>
    have hv : validP p = true := by
      cases hv : validP p
      · rw [hv] at hod; simp at hod
      · rfl
    rw [hv] at hod ho
    simp only [if_true] at hod ho
    cases hn : nd (keyP p) with
    | none => rw [hn] at hod; simp [ndOn] at hod
    | some d' =>
      rw [hn] at hod
      have hpr : d'.pr = true ∧ d' = d := by
        unfold ndOn at hod
        simp only [Option.bind_some] at hod
        split at hod
        · rename_i h
          exact ⟨h, Option.some.inj hod⟩
        · cases hod
      obtain ⟨hpr, rfl⟩ := hpr
      obtain rfl : o = some d'.x := by
        rw [← ho, Tri.val, hn]
        obtain ⟨b, q, pr, x⟩ := d'
        simp only at hpr
        subst hpr
        rfl
      have H19 : Hid (∀ w', Ch [] w w' → w'.cell? ⟨d'.b, 19, none⟩ = some d'.x) := fun w' c => (((hT.nil c).node _ d' hn).cell 19).trans (nodeC_at (hT.l16 hn) _ _ 1)
      replace HLK : Hid (Calls Tryd.prog 69 #[.pointer (some ⟨g, 0, none⟩), .agg (pfxC p).toArray] _ fun e w' => e = .returned (.pointer (some ⟨d'.b, 0, none⟩)) ∧ Ch [] _ w') := HLK
      generalize pfxC p = cs at *
      clear hT hod ho hn hpr
      go_enter Tryd.func44, Tryd.ntmps44
      go_wp2_with (first
        | (refine wpList_load_want rfl 59 _ rfl w.heap.size 0 rfl cs _ B0.range Tryd.underlying59 rfl HIP.out ?_)
        | (go_at_call 69; (with_reducible refine HLK.out.mono ?_); rintro e wn ⟨rfl, Cn⟩; have e19 := H19.out _ (C0.trans Cn)))
      go_ret2
      exact ⟨rfl, C0.trans Cn⟩
set_option maxRecDepth 20000 in
set_option maxHeartbeats 8000000 in
theorem trInsBadL (w : World) (g : Nat) (p : Pfx) (hg : GoodA p.2.1) (hv : validP p = false) (xa : Option Addr) (xn xc : Nat) :
    Calls Tryd.prog 45 #[.pointer (some ⟨g, 0, none⟩), .agg (pfxC p).toArray, .slice xa xn xc] w fun e w' => e = .returned (.bool false) ∧ Ch [] w w' := by
  have B0 : Blk (w.alloc (.cells (pfxC p).toArray 59)) w.heap.size 59 (pfxC p) := Blk.new w _ _
  have C0 : Ch [] w (w.alloc (.cells (pfxC p).toArray 59)) := (Ch.refl _ _).alloc _
  have HIP := hid (pfx_inf (p := p) hg.1)
  have HV := hid (validPfx p.1 p.2.1 p.2.2 hg)
  rw [show (p.1, p.2.1, p.2.2) = p from rfl, hv] at HV
  generalize pfxC p = cs at *
  clear hv
  go_enter Tryd.func45, Tryd.ntmps45
  go_wp2_with (first
    | (refine wpList_load_want rfl 59 _ rfl w.heap.size 0 rfl cs _ B0.range Tryd.underlying59 rfl HIP.out ?_)
    | (go_at_call 36; (with_reducible refine (HV.out _).mono ?_); rintro e wn ⟨rfl, Cn⟩))
  go_ret
  exact ⟨rfl, C0.trans Cn⟩
end Go.Proofs.YtbmbnibamhgfmaaDoor

/- trie.Trie[[]int]: Get by the map (printed by mk_trie8.py). -/
namespace Go.Proofs.YtbmbnibamhgfmaaDoor
open Go.RowKit
section
variable {w : World} {g : Nat} {m : KM} {n : Int} {F : List Nat}
theorem trGetFL (h : TrML w g m n F) (p : Pfx) (hg : GoodA p.2.1) {o : Option Value} (ho : mget m p = o) :
    Calls Tryd.prog 44 #[.pointer (some ⟨g, 0, none⟩), .agg (pfxC p).toArray] w fun e w' => e = .returned (.tuple #[o.getD (.slice none 0 0), .bool o.isSome]) ∧ Ch [] w w' := by
  obtain ⟨nd, W⟩ := h
  exact trGetL w g nd n W.t p hg o (by rw [← ho, mget, W.val])
theorem trInsBadFL (p : Pfx) (hg : GoodA p.2.1) (hv : validP p = false) (xa : Option Addr) (xn xc : Nat) :
    Calls Tryd.prog 45 #[.pointer (some ⟨g, 0, none⟩), .agg (pfxC p).toArray, .slice xa xn xc] w fun e w' => e = .returned (.bool false) ∧ Ch [] w w' := trInsBadL w g p hg hv xa xn xc
end
end Go.Proofs.YtbmbnibamhgfmaaDoor
