/- The walks of BasicauthBase64Encoding, BasicauthBase64IsStrict and BasicauthRoundTrip. -/
import Derived.Test.YtlgeohjcjhhmhaaDoorHead3
import Derived.Test.YtlgeohjcjhhmhaaDoorShellU
namespace Go.Proofs.YtlgeohjcjhhmhaaDoor
open Go.ChangeShapes Go.WideShapes Go.ChangeAt Go.RowKit

section
variable {H : Type} {enc' : TypeId × Value → H} {P : Program}
theorem len1 {α : Type} {l : List α} (h : l.length = 1) : ∃ a, l = [a] := by
  match l, h with
  | [a], _ => exact ⟨a, rfl⟩
theorem len2 {α : Type} {l : List α} (h : l.length = 2) : ∃ a b, l = [a, b] := by
  match l, h with
  | [a, b], _ => exact ⟨a, b, rfl⟩
theorem len3 {α : Type} {l : List α} (h : l.length = 3) : ∃ a b c, l = [a, b, c] := by
  match l, h with
  | [a, b, c], _ => exact ⟨a, b, c, rfl⟩
theorem len4 {α : Type} {l : List α} (h : l.length = 4) : ∃ a b c d, l = [a, b, c, d] := by
  match l, h with
  | [a, b, c, d], _ => exact ⟨a, b, c, d, rfl⟩
theorem Came.bulk2 {fn : Func} {W : World} {args : Array Value} {ds : List (DataW H)} {t0 t1 : TypeId} (hp : fn.params = #[t0, t1]) (hk : Rows.uptoSmall H ds = true) (h : Came enc' P fn W args ds) :
    ∃ v0 v1 d0 d1, args = #[v0, v1] ∧ Arg enc' P W t0 v0 d0 ∧ Arg enc' P W t1 v1 d1 ∧ Rows.uptoBulk d0 + Rows.uptoBulk d1 ≤ 1048576 := by
  obtain ⟨l1, l2, l3⟩ := h.args
  rw [hp] at l1 l2 l3
  obtain ⟨e0, e1, rfl⟩ := len2 l2
  obtain ⟨v0, d0, h0, g0, a0⟩ := l3 0 t0 rfl
  obtain ⟨v1, d1, h1, g1, a1⟩ := l3 1 t1 rfl
  cases g0; cases g1
  have hb := of_decide_eq_true hk
  simp only [Rows.uptoBulkAll] at hb
  exact ⟨v0, v1, e0, e1, arr2 l1 h0 h1, a0, a1, by omega⟩
theorem Came.bulk3 {fn : Func} {W : World} {args : Array Value} {ds : List (DataW H)} {t0 t1 t2 : TypeId} (hp : fn.params = #[t0, t1, t2]) (hk : Rows.uptoSmall H ds = true) (h : Came enc' P fn W args ds) :
    ∃ v0 v1 v2 d0 d1 d2, args = #[v0, v1, v2] ∧ Arg enc' P W t0 v0 d0 ∧ Arg enc' P W t1 v1 d1 ∧ Arg enc' P W t2 v2 d2 ∧ Rows.uptoBulk d0 + Rows.uptoBulk d1 + Rows.uptoBulk d2 ≤ 1048576 := by
  obtain ⟨l1, l2, l3⟩ := h.args
  rw [hp] at l1 l2 l3
  obtain ⟨e0, e1, e2, rfl⟩ := len3 l2
  obtain ⟨v0, d0, h0, g0, a0⟩ := l3 0 t0 rfl
  obtain ⟨v1, d1, h1, g1, a1⟩ := l3 1 t1 rfl
  obtain ⟨v2, d2, h2, g2, a2⟩ := l3 2 t2 rfl
  cases g0; cases g1; cases g2
  have hb := of_decide_eq_true hk
  simp only [Rows.uptoBulkAll] at hb
  exact ⟨v0, v1, v2, e0, e1, e2, arr3 l1 h0 h1 h2, a0, a1, a2, by omega⟩
theorem Came.bulk4 {fn : Func} {W : World} {args : Array Value} {ds : List (DataW H)} {t0 t1 t2 t3 : TypeId} (hp : fn.params = #[t0, t1, t2, t3]) (hk : Rows.uptoSmall H ds = true) (h : Came enc' P fn W args ds) :
    ∃ v0 v1 v2 v3 d0 d1 d2 d3, args = #[v0, v1, v2, v3] ∧ Arg enc' P W t0 v0 d0 ∧ Arg enc' P W t1 v1 d1 ∧ Arg enc' P W t2 v2 d2 ∧ Arg enc' P W t3 v3 d3 ∧ Rows.uptoBulk d0 + Rows.uptoBulk d1 + Rows.uptoBulk d2 + Rows.uptoBulk d3 ≤ 1048576 := by
  obtain ⟨l1, l2, l3⟩ := h.args
  rw [hp] at l1 l2 l3
  obtain ⟨e0, e1, e2, e3, rfl⟩ := len4 l2
  obtain ⟨v0, d0, h0, g0, a0⟩ := l3 0 t0 rfl
  obtain ⟨v1, d1, h1, g1, a1⟩ := l3 1 t1 rfl
  obtain ⟨v2, d2, h2, g2, a2⟩ := l3 2 t2 rfl
  obtain ⟨v3, d3, h3, g3, a3⟩ := l3 3 t3 rfl
  cases g0; cases g1; cases g2; cases g3
  have hb := of_decide_eq_true hk
  simp only [Rows.uptoBulkAll] at hb
  exact ⟨v0, v1, v2, v3, e0, e1, e2, e3, arr4 l1 h0 h1 h2 h3, a0, a1, a2, a3, by omega⟩
end

theorem u8_cells : Tryd.prog.cellsOf 5 = 1 := by kernel_rfl

set_option maxRecDepth 100000 in
set_option maxHeartbeats 4000000 in
theorem basicauthBase64Encoding_came {H : Type} {enc' : TypeId × Value → H} (W : World) (args : Array Value) (ds : List (DataW H)) (_ : laidMetH Tryd.prog Rows.basicauthBase64EncodingUptoRow.laid W) (hk : Rows.uptoSmall H ds = true) (h : Came enc' Tryd.prog Tryd.f7 W args ds) :
    Calls Tryd.prog 7 args W fun e W' => e = .returned (.bool true) ∧ Below W.heap.size W W' := by
  obtain ⟨v0, v1, d0, d1, rfl, a0, a1, hb⟩ := h.bulk2 rfl hk
  obtain ⟨s, rfl, hs⟩ := a0.stringU Tryd.underlying9 (Nat.le_refl _)
  obtain ⟨A, len, cap, zs, rfl, hl, hc, hr, hz⟩ := a1.intsU Tryd.underlying34 Tryd.underlying5 u8_cells (Nat.le_refl _)
  have hs1 : s.size ≤ 1500000 := by omega
  obtain ⟨t, ht⟩ : ∃ t, strOfNums zs = t := ⟨_, rfl⟩
  have ht1 : t.size ≤ 1500000 := by rw [← ht, strOf_size, hr.1]; omega
  have e1 := b64P s hs1
  have e2 := b64R s hs1
  have e3 := b64P t ht1
  have e4 := b64R t ht1
  have e5 := enc_size t
  generalize strOfNums (enc (numsOf s)) = E at e1 e2
  generalize strOfNums (enc (numsOf t)) = F at e3 e4 e5
  have H1 := hid e1
  have H2 := hid e2
  have H3 := hid e3
  have H4 := hid e4
  have e6 : (F.size : Int) = ((t.size : Int) + 2) / 3 * 4 := by omega
  clear e1 e2 e3 e4 h a0 a1 hk hz e5
  have CT := Ch.refl [] W
  go_enter Tryd.func7, Tryd.ntmps7
  go_wp2_with (first
    | (refine wpList_strOf rfl 34 9 5 _ rfl Tryd.underlying34 Tryd.underlying5 Tryd.underlying9 A len cap W.heap.size zs rfl hr ?_; rw [ht])
    | (go_at_call 21; (with_reducible refine (awake15 _).mono ?_); rintro e w1 ⟨rfl, C1⟩; replace CT := CT.trans C1)
    | (go_at_call 22; (with_reducible refine (H1.out _).mono ?_); rintro e w2 ⟨rfl, C2⟩; replace CT := CT.trans C2)
    | (go_at_call 23; (with_reducible refine (H2.out _).mono ?_); rintro e w3 ⟨rfl, C3⟩; replace CT := CT.trans C3)
    | (go_at_call 22; (with_reducible refine (H3.out _).mono ?_); rintro e w4 ⟨rfl, C4⟩; replace CT := CT.trans C4)
    | (go_at_call 23; (with_reducible refine (H4.out _).mono ?_); rintro e w5 ⟨rfl, C5⟩; replace CT := CT.trans C5))
  go_ret
  exact ⟨rfl, CT.nil_below⟩

theorem chars15 (w : World) (A : Option Addr) (n c : Nat) (zs : List Int) (hr : RdI .u8 w w.heap.size A n zs) (hz : ∀ z ∈ zs, (Lit.int .u8 z).wf = true) : Calls Tryd.prog 26 #[.slice A n c] w fun e w' => (∃ t : ByteArray, e = .returned (.string t) ∧ t.size ≤ 40) ∧ Ch [] w w' := by
  go_enter Tryd.func26, Tryd.ntmps26
  go_wp2_with fail
  go_loopw [3, 4] (fun b i wr => ∃ (k : Nat) (B : Option Addr) (cb : Nat) (out : List Int), i = .int .i64 k ∧ b = .slice B k cb ∧ k ≤ n ∧ k ≤ 40 ∧ Own wr w.heap.size 5 1 B k cb (out.map (Value.int .u8)) ∧ Ch [] w wr) (fun _ i _ => 40 - (intOf i).toNat)
  case atStart => exact ⟨0, none, 0, [], rfl, rfl, by omega, by omega, Own.nil _ _ _ _, Ch.refl _ _⟩
  case round =>
    obtain ⟨k, B, cb, out, rfl, rfl, hkn, hk40, own, CC⟩ := hrel
    have hw := CC.size
    by_cases hp : k < n
    · by_cases hq : k < 40
      · have hr2 := hr.ch CC (Nat.le_refl _) (by simp)
        obtain ⟨b, off, rfl, hb, hcell⟩ := hr2.at_ hp
        have hx : 0 ≤ at_ zs k ∧ at_ zs k ≤ 255 := by
          have hkl : k < zs.length := by rw [hr.1]; exact hp
          have := bounds_u8 (hz (at_ zs k) (by simp [at_, List.getD, hkl]))
          exact this
        generalize at_ zs k = x at hcell hx
        obtain ⟨r, hrr⟩ : ∃ r : Nat, x % 15 = r := ⟨(x % 15).toNat, by omega⟩
        have hr15 : r < 15 := by omega
        obtain ⟨L, hL, hLs⟩ : ∃ L : ByteArray, (⟨#[65, 81, 103, 119, 90, 97, 122, 48, 57, 43, 47, 61, 61, 45, 66]⟩ : ByteArray) = L ∧ L.size = 15 := ⟨_, rfl, rfl⟩
        have hrL : r < L.size := by omega
        go_wp2_with (at_builtin; go_loud (refine wpList_app _ rfl (.tmp 15) (.tmp 23) _ rfl w.heap.size 5 _ 1 1 Tryd.underlying34 u8_info rfl (by omega) _ _ _ _ rfl (own.alloc _) _ _ _ _ [.int .u8 _] rfl (Rd.new _ 1 [.int .u8 _] 1 rfl _) (by simp [Value.oneCell']) (by unfold maxLen; omega) (by omega) (by simp only [World.size_alloc]; omega) ?_; intro A3 c3 w3 own3 ch3 at3))
        go_roundw
        case rel => exact ⟨k + 1, A3, c3, out ++ [_], by go_num, rfl, by omega, by omega, by rw [List.map_append]; exact own3, (CC.alloc _).step ch3 (fun g' hg' => .inr (own.blks g' hg').1)⟩
        case measure => simp [intOf]; omega
      · go_wp2_with (refine wpList_strOf rfl 34 9 5 _ rfl Tryd.underlying34 Tryd.underlying5 Tryd.underlying9 B k cb wr.heap.size out rfl (Rd.ints own.rd) ?_)
        go_ret
        exact ⟨⟨_, rfl, by rw [strOf_size]; have := own.len; rw [List.length_map] at this; omega⟩, CC⟩
    · go_wp2_with (refine wpList_strOf rfl 34 9 5 _ rfl Tryd.underlying34 Tryd.underlying5 Tryd.underlying9 B k cb wr.heap.size out rfl (Rd.ints own.rd) ?_)
      go_ret
      exact ⟨⟨_, rfl, by rw [strOf_size]; have := own.len; rw [List.length_map] at this; omega⟩, CC⟩

set_option maxRecDepth 100000 in
set_option maxHeartbeats 4000000 in
theorem basicauthBase64IsStrict_came {H : Type} {enc' : TypeId × Value → H} (W : World) (args : Array Value) (ds : List (DataW H)) (_ : laidMetH Tryd.prog Rows.basicauthBase64IsStrictUptoRow.laid W) (hk : Rows.uptoSmall H ds = true) (h : Came enc' Tryd.prog Tryd.f9 W args ds) :
    Calls Tryd.prog 9 args W fun e W' => e = .returned (.bool true) ∧ Below W.heap.size W W' := by
  obtain ⟨v0, v1, d0, d1, rfl, a0, a1, hb⟩ := h.bulk2 rfl hk
  obtain ⟨s, rfl, hs⟩ := a0.stringU Tryd.underlying9 (Nat.le_refl _)
  obtain ⟨A, len, cap, zs, rfl, hl, hc, hr, hz⟩ := a1.intsU Tryd.underlying34 Tryd.underlying5 u8_cells (Nat.le_refl _)
  have hs1 : s.size ≤ 1500000 := by omega
  have hD : ∀ s : ByteArray, ∃ x y, s.size ≤ 1500000 → (∀ w, Calls Tryd.prog 24 #[.string s] w fun e w' => e = .returned (.tuple #[.string x, .bool y]) ∧ Ch [] w w') ∧ (∀ w, Calls Tryd.prog 25 #[.string s] w fun e w' => e = .returned (.tuple #[.string x, .bool y]) ∧ Ch [] w w') :=
    fun s => ⟨_, _, fun h => ⟨decP s h, decR s h⟩⟩
  obtain ⟨x, y, hxy⟩ := hD s
  have H1 := hid (hxy hs1)
  have HD := hid hD
  have HZ := hid hz
  clear hD hxy h a0 a1 hk hz
  have CT := Ch.refl [] W
  go_enter Tryd.func9, Tryd.ntmps9
  go_wp2_with (first
    | (go_at_call 24; (with_reducible refine (H1.out.1 _).mono ?_); rintro e w1 ⟨rfl, C1⟩; replace CT := CT.trans C1)
    | (go_at_call 25; (with_reducible refine (H1.out.2 _).mono ?_); rintro e w2 ⟨rfl, C2⟩; replace CT := CT.trans C2; have hr2 := (hr.ch CT (Nat.le_refl _) (by simp)).more CT.size)
    | (go_at_call 26; (with_reducible refine (chars15 _ A len cap zs hr2 HZ.out).mono ?_); rintro e w3 ⟨⟨t, rfl, ht⟩, C3⟩; replace CT := CT.trans C3; obtain ⟨x2, y2, hxy2⟩ := HD.out t; have H2 := hid (hxy2 (by omega)); clear hxy2)
    | (go_at_call 24; (with_reducible refine (H2.out.1 _).mono ?_); rintro e w4 ⟨rfl, C4⟩; replace CT := CT.trans C4)
    | (go_at_call 25; (with_reducible refine (H2.out.2 _).mono ?_); rintro e w5 ⟨rfl, C5⟩; replace CT := CT.trans C5)
    | (go_at_call 21; (with_reducible refine (awake15 _).mono ?_); rintro e w6 ⟨rfl, C6⟩; replace CT := CT.trans C6))
  go_ret
  exact ⟨rfl, CT.nil_below⟩
end Go.Proofs.YtlgeohjcjhhmhaaDoor
