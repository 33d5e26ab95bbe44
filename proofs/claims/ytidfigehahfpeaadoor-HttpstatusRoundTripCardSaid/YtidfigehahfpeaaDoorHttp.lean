/- httpstatus.Format and its reference: the nine replies (printed by mk_http.py). -/
import Derived.Test.YtidfigehahfpeaaDoorItoa
namespace Go.Proofs.YtidfigehahfpeaaDoor
open Go.RowKit

def phr (c : Int) : ByteArray := if c = 200 then ⟨#[67, 111, 110, 110, 101, 99, 116, 105, 111, 110, 32, 101, 115, 116, 97, 98, 108, 105, 115, 104, 101, 100]⟩ else if c = 400 then ⟨#[66, 97, 100, 32, 82, 101, 113, 117, 101, 115, 116]⟩ else if c = 403 then ⟨#[70, 111, 114, 98, 105, 100, 100, 101, 110]⟩ else if c = 407 then ⟨#[80, 114, 111, 120, 121, 32, 65, 117, 116, 104, 101, 110, 116, 105, 99, 97, 116, 105, 111, 110, 32, 82, 101, 113, 117, 105, 114, 101, 100]⟩ else if c = 408 then ⟨#[82, 101, 113, 117, 101, 115, 116, 32, 84, 105, 109, 101, 111, 117, 116]⟩ else if c = 429 then ⟨#[84, 111, 111, 32, 77, 97, 110, 121, 32, 82, 101, 113, 117, 101, 115, 116, 115]⟩ else if c = 502 then ⟨#[66, 97, 100, 32, 71, 97, 116, 101, 119, 97, 121]⟩ else if c = 503 then ⟨#[83, 101, 114, 118, 105, 99, 101, 32, 85, 110, 97, 118, 97, 105, 108, 97, 98, 108, 101]⟩ else if c = 504 then ⟨#[71, 97, 116, 101, 119, 97, 121, 32, 84, 105, 109, 101, 111, 117, 116]⟩ else ⟨#[]⟩
def fmtS (c : Int) : ByteArray := if c = 200 then ⟨#[72, 84, 84, 80, 47, 49, 46, 49, 32, 50, 48, 48, 32, 67, 111, 110, 110, 101, 99, 116, 105, 111, 110, 32, 101, 115, 116, 97, 98, 108, 105, 115, 104, 101, 100, 13, 10, 13, 10]⟩ else if c = 400 then ⟨#[72, 84, 84, 80, 47, 49, 46, 49, 32, 52, 48, 48, 32, 66, 97, 100, 32, 82, 101, 113, 117, 101, 115, 116, 13, 10, 67, 111, 110, 116, 101, 110, 116, 45, 76, 101, 110, 103, 116, 104, 58, 32, 48, 13, 10, 13, 10]⟩ else if c = 403 then ⟨#[72, 84, 84, 80, 47, 49, 46, 49, 32, 52, 48, 51, 32, 70, 111, 114, 98, 105, 100, 100, 101, 110, 13, 10, 67, 111, 110, 116, 101, 110, 116, 45, 76, 101, 110, 103, 116, 104, 58, 32, 48, 13, 10, 13, 10]⟩ else if c = 407 then ⟨#[72, 84, 84, 80, 47, 49, 46, 49, 32, 52, 48, 55, 32, 80, 114, 111, 120, 121, 32, 65, 117, 116, 104, 101, 110, 116, 105, 99, 97, 116, 105, 111, 110, 32, 82, 101, 113, 117, 105, 114, 101, 100, 13, 10, 80, 114, 111, 120, 121, 45, 65, 117, 116, 104, 101, 110, 116, 105, 99, 97, 116, 101, 58, 32, 66, 97, 115, 105, 99, 32, 114, 101, 97, 108, 109, 61, 34, 103, 105, 110, 110, 101, 108, 34, 13, 10, 67, 111, 110, 116, 101, 110, 116, 45, 76, 101, 110, 103, 116, 104, 58, 32, 48, 13, 10, 13, 10]⟩ else if c = 408 then ⟨#[72, 84, 84, 80, 47, 49, 46, 49, 32, 52, 48, 56, 32, 82, 101, 113, 117, 101, 115, 116, 32, 84, 105, 109, 101, 111, 117, 116, 13, 10, 67, 111, 110, 116, 101, 110, 116, 45, 76, 101, 110, 103, 116, 104, 58, 32, 48, 13, 10, 13, 10]⟩ else if c = 429 then ⟨#[72, 84, 84, 80, 47, 49, 46, 49, 32, 52, 50, 57, 32, 84, 111, 111, 32, 77, 97, 110, 121, 32, 82, 101, 113, 117, 101, 115, 116, 115, 13, 10, 67, 111, 110, 116, 101, 110, 116, 45, 76, 101, 110, 103, 116, 104, 58, 32, 48, 13, 10, 13, 10]⟩ else if c = 502 then ⟨#[72, 84, 84, 80, 47, 49, 46, 49, 32, 53, 48, 50, 32, 66, 97, 100, 32, 71, 97, 116, 101, 119, 97, 121, 13, 10, 67, 111, 110, 116, 101, 110, 116, 45, 76, 101, 110, 103, 116, 104, 58, 32, 48, 13, 10, 13, 10]⟩ else if c = 503 then ⟨#[72, 84, 84, 80, 47, 49, 46, 49, 32, 53, 48, 51, 32, 83, 101, 114, 118, 105, 99, 101, 32, 85, 110, 97, 118, 97, 105, 108, 97, 98, 108, 101, 13, 10, 67, 111, 110, 116, 101, 110, 116, 45, 76, 101, 110, 103, 116, 104, 58, 32, 48, 13, 10, 13, 10]⟩ else if c = 504 then ⟨#[72, 84, 84, 80, 47, 49, 46, 49, 32, 53, 48, 52, 32, 71, 97, 116, 101, 119, 97, 121, 32, 84, 105, 109, 101, 111, 117, 116, 13, 10, 67, 111, 110, 116, 101, 110, 116, 45, 76, 101, 110, 103, 116, 104, 58, 32, 48, 13, 10, 13, 10]⟩ else ⟨#[]⟩
theorem phrP (c : Int) (w : World) : Calls Tryd.prog 17 #[.int .i64 c] w fun e w' => e = .returned (.string (phr c)) ∧ w = w' := by
  go_enter Tryd.func17, Tryd.ntmps17
  go_wp2
  all_goals
    go_ret
    refine ⟨?_, rfl⟩
    simp_all [phr]
theorem phrR (c : Int) (w : World) : Calls Tryd.prog 18 #[.int .i64 c] w fun e w' => e = .returned (.string (phr c)) ∧ w = w' := by
  go_enter Tryd.func18, Tryd.ntmps18
  go_wp2
  all_goals
    go_ret
    refine ⟨?_, rfl⟩
    simp_all [phr]
theorem numFormatAs (n : Int) (s : ByteArray) (hs : (⟨(Lib.itoa n).toArray⟩ : ByteArray) = s) (h0 : 0 ≤ n) (h1 : n ≤ 1000) (w : World) (ht : Tab w) :
    Calls Tryd.prog 40 #[.int .i64 n] w fun e w' => e = .returned (.string s) ∧ Ch [] w w' := by
  subst hs; exact numFormat n (by omega) (by omega) w ht
theorem fd3As (n : Int) (s : ByteArray) (hs : strOfNums [48 + n / 10 / 10, 48 + n / 10 % 10, 48 + n % 10] = s) (h0 : 100 ≤ n) (h1 : n < 1000) (w : World) : Calls Tryd.prog 41 #[.int .i64 n] w fun e w' => e = .returned (.string s) ∧ Ch [] w w' := by
  subst hs; exact fd3 n h0 h1 w
set_option maxRecDepth 100000 in
theorem fmtP200 (w : World) (ht : Tab w) : Calls Tryd.prog 15 #[.int .i64 200] w fun e w' => e = .returned (.string (fmtS 200)) ∧ Ch [] w w' := by
  obtain ⟨s, hs⟩ : ∃ s, (⟨(Lib.itoa 200).toArray⟩ : ByteArray) = s := ⟨_, rfl⟩
  obtain ⟨p, hp⟩ : ∃ p, phr 200 = p := ⟨_, rfl⟩
  have hs1 : s.size ≤ 3 := by rw [← hs]; decide +kernel
  have hp1 : p.size ≤ 30 := by rw [← hp]; decide +kernel
  have hp2 : p.toList.isEmpty = false := by rw [← hp]; decide +kernel
  have HS := hid hs
  have HP := hid hp
  clear hs hp
  go_enter Tryd.func15, Tryd.ntmps15
  go_wp2_with (first
    | (go_at_call 17; refine (phrP _ _).mono ?_; rw [HP.out]; rintro e w' ⟨rfl, rfl⟩)
    | (go_at_call 40; refine (numFormatAs 200 s HS.out (by omega) (by omega) _ ht).mono ?_; rintro e w2 ⟨rfl, C2⟩))
  go_ret
  refine ⟨?_, C2⟩
  show Ending.returned (Value.string _) = Ending.returned (Value.string _)
  congr 2
  rw [← HS.out, ← HP.out]
  decide +kernel
set_option maxRecDepth 100000 in
theorem fmtR200 (w : World) : Calls Tryd.prog 16 #[.int .i64 200] w fun e w' => e = .returned (.string (fmtS 200)) ∧ Ch [] w w' := by
  obtain ⟨s, hs⟩ : ∃ s, strOfNums [48 + (200 : Int) / 10 / 10, 48 + (200 : Int) / 10 % 10, 48 + (200 : Int) % 10] = s := ⟨_, rfl⟩
  obtain ⟨p, hp⟩ : ∃ p, phr 200 = p := ⟨_, rfl⟩
  have hs1 : s.size ≤ 3 := by rw [← hs]; decide +kernel
  have hp1 : p.size ≤ 30 := by rw [← hp]; decide +kernel
  have hp2 : p.toList.isEmpty = false := by rw [← hp]; decide +kernel
  have HS := hid hs
  have HP := hid hp
  clear hs hp
  go_enter Tryd.func16, Tryd.ntmps16
  go_wp2_with (first
    | (go_at_call 18; refine (phrR _ _).mono ?_; rw [HP.out]; rintro e w' ⟨rfl, rfl⟩)
    | (go_at_call 41; refine (fd3As 200 s HS.out (by omega) (by omega) _).mono ?_; rintro e w2 ⟨rfl, C2⟩))
  go_ret
  refine ⟨?_, C2⟩
  show Ending.returned (Value.string _) = Ending.returned (Value.string _)
  congr 2
  rw [← HS.out, ← HP.out]
  decide +kernel
set_option maxRecDepth 100000 in
theorem fmtP400 (w : World) (ht : Tab w) : Calls Tryd.prog 15 #[.int .i64 400] w fun e w' => e = .returned (.string (fmtS 400)) ∧ Ch [] w w' := by
  obtain ⟨s, hs⟩ : ∃ s, (⟨(Lib.itoa 400).toArray⟩ : ByteArray) = s := ⟨_, rfl⟩
  obtain ⟨p, hp⟩ : ∃ p, phr 400 = p := ⟨_, rfl⟩
  have hs1 : s.size ≤ 3 := by rw [← hs]; decide +kernel
  have hp1 : p.size ≤ 30 := by rw [← hp]; decide +kernel
  have hp2 : p.toList.isEmpty = false := by rw [← hp]; decide +kernel
  have HS := hid hs
  have HP := hid hp
  clear hs hp
  go_enter Tryd.func15, Tryd.ntmps15
  go_wp2_with (first
    | (go_at_call 17; refine (phrP _ _).mono ?_; rw [HP.out]; rintro e w' ⟨rfl, rfl⟩)
    | (go_at_call 40; refine (numFormatAs 400 s HS.out (by omega) (by omega) _ ht).mono ?_; rintro e w2 ⟨rfl, C2⟩))
  go_ret
  refine ⟨?_, C2⟩
  show Ending.returned (Value.string _) = Ending.returned (Value.string _)
  congr 2
  rw [← HS.out, ← HP.out]
  decide +kernel
set_option maxRecDepth 100000 in
theorem fmtR400 (w : World) : Calls Tryd.prog 16 #[.int .i64 400] w fun e w' => e = .returned (.string (fmtS 400)) ∧ Ch [] w w' := by
  obtain ⟨s, hs⟩ : ∃ s, strOfNums [48 + (400 : Int) / 10 / 10, 48 + (400 : Int) / 10 % 10, 48 + (400 : Int) % 10] = s := ⟨_, rfl⟩
  obtain ⟨p, hp⟩ : ∃ p, phr 400 = p := ⟨_, rfl⟩
  have hs1 : s.size ≤ 3 := by rw [← hs]; decide +kernel
  have hp1 : p.size ≤ 30 := by rw [← hp]; decide +kernel
  have hp2 : p.toList.isEmpty = false := by rw [← hp]; decide +kernel
  have HS := hid hs
  have HP := hid hp
  clear hs hp
  go_enter Tryd.func16, Tryd.ntmps16
  go_wp2_with (first
    | (go_at_call 18; refine (phrR _ _).mono ?_; rw [HP.out]; rintro e w' ⟨rfl, rfl⟩)
    | (go_at_call 41; refine (fd3As 400 s HS.out (by omega) (by omega) _).mono ?_; rintro e w2 ⟨rfl, C2⟩))
  go_ret
  refine ⟨?_, C2⟩
  show Ending.returned (Value.string _) = Ending.returned (Value.string _)
  congr 2
  rw [← HS.out, ← HP.out]
  decide +kernel
set_option maxRecDepth 100000 in
theorem fmtP403 (w : World) (ht : Tab w) : Calls Tryd.prog 15 #[.int .i64 403] w fun e w' => e = .returned (.string (fmtS 403)) ∧ Ch [] w w' := by
  obtain ⟨s, hs⟩ : ∃ s, (⟨(Lib.itoa 403).toArray⟩ : ByteArray) = s := ⟨_, rfl⟩
  obtain ⟨p, hp⟩ : ∃ p, phr 403 = p := ⟨_, rfl⟩
  have hs1 : s.size ≤ 3 := by rw [← hs]; decide +kernel
  have hp1 : p.size ≤ 30 := by rw [← hp]; decide +kernel
  have hp2 : p.toList.isEmpty = false := by rw [← hp]; decide +kernel
  have HS := hid hs
  have HP := hid hp
  clear hs hp
  go_enter Tryd.func15, Tryd.ntmps15
  go_wp2_with (first
    | (go_at_call 17; refine (phrP _ _).mono ?_; rw [HP.out]; rintro e w' ⟨rfl, rfl⟩)
    | (go_at_call 40; refine (numFormatAs 403 s HS.out (by omega) (by omega) _ ht).mono ?_; rintro e w2 ⟨rfl, C2⟩))
  go_ret
  refine ⟨?_, C2⟩
  show Ending.returned (Value.string _) = Ending.returned (Value.string _)
  congr 2
  rw [← HS.out, ← HP.out]
  decide +kernel
set_option maxRecDepth 100000 in
theorem fmtR403 (w : World) : Calls Tryd.prog 16 #[.int .i64 403] w fun e w' => e = .returned (.string (fmtS 403)) ∧ Ch [] w w' := by
  obtain ⟨s, hs⟩ : ∃ s, strOfNums [48 + (403 : Int) / 10 / 10, 48 + (403 : Int) / 10 % 10, 48 + (403 : Int) % 10] = s := ⟨_, rfl⟩
  obtain ⟨p, hp⟩ : ∃ p, phr 403 = p := ⟨_, rfl⟩
  have hs1 : s.size ≤ 3 := by rw [← hs]; decide +kernel
  have hp1 : p.size ≤ 30 := by rw [← hp]; decide +kernel
  have hp2 : p.toList.isEmpty = false := by rw [← hp]; decide +kernel
  have HS := hid hs
  have HP := hid hp
  clear hs hp
  go_enter Tryd.func16, Tryd.ntmps16
  go_wp2_with (first
    | (go_at_call 18; refine (phrR _ _).mono ?_; rw [HP.out]; rintro e w' ⟨rfl, rfl⟩)
    | (go_at_call 41; refine (fd3As 403 s HS.out (by omega) (by omega) _).mono ?_; rintro e w2 ⟨rfl, C2⟩))
  go_ret
  refine ⟨?_, C2⟩
  show Ending.returned (Value.string _) = Ending.returned (Value.string _)
  congr 2
  rw [← HS.out, ← HP.out]
  decide +kernel
set_option maxRecDepth 100000 in
theorem fmtP407 (w : World) (ht : Tab w) : Calls Tryd.prog 15 #[.int .i64 407] w fun e w' => e = .returned (.string (fmtS 407)) ∧ Ch [] w w' := by
  obtain ⟨s, hs⟩ : ∃ s, (⟨(Lib.itoa 407).toArray⟩ : ByteArray) = s := ⟨_, rfl⟩
  obtain ⟨p, hp⟩ : ∃ p, phr 407 = p := ⟨_, rfl⟩
  have hs1 : s.size ≤ 3 := by rw [← hs]; decide +kernel
  have hp1 : p.size ≤ 30 := by rw [← hp]; decide +kernel
  have hp2 : p.toList.isEmpty = false := by rw [← hp]; decide +kernel
  have HS := hid hs
  have HP := hid hp
  clear hs hp
  go_enter Tryd.func15, Tryd.ntmps15
  go_wp2_with (first
    | (go_at_call 17; refine (phrP _ _).mono ?_; rw [HP.out]; rintro e w' ⟨rfl, rfl⟩)
    | (go_at_call 40; refine (numFormatAs 407 s HS.out (by omega) (by omega) _ ht).mono ?_; rintro e w2 ⟨rfl, C2⟩))
  go_ret
  refine ⟨?_, C2⟩
  show Ending.returned (Value.string _) = Ending.returned (Value.string _)
  congr 2
  rw [← HS.out, ← HP.out]
  decide +kernel
set_option maxRecDepth 100000 in
theorem fmtR407 (w : World) : Calls Tryd.prog 16 #[.int .i64 407] w fun e w' => e = .returned (.string (fmtS 407)) ∧ Ch [] w w' := by
  obtain ⟨s, hs⟩ : ∃ s, strOfNums [48 + (407 : Int) / 10 / 10, 48 + (407 : Int) / 10 % 10, 48 + (407 : Int) % 10] = s := ⟨_, rfl⟩
  obtain ⟨p, hp⟩ : ∃ p, phr 407 = p := ⟨_, rfl⟩
  have hs1 : s.size ≤ 3 := by rw [← hs]; decide +kernel
  have hp1 : p.size ≤ 30 := by rw [← hp]; decide +kernel
  have hp2 : p.toList.isEmpty = false := by rw [← hp]; decide +kernel
  have HS := hid hs
  have HP := hid hp
  clear hs hp
  go_enter Tryd.func16, Tryd.ntmps16
  go_wp2_with (first
    | (go_at_call 18; refine (phrR _ _).mono ?_; rw [HP.out]; rintro e w' ⟨rfl, rfl⟩)
    | (go_at_call 41; refine (fd3As 407 s HS.out (by omega) (by omega) _).mono ?_; rintro e w2 ⟨rfl, C2⟩))
  go_ret
  refine ⟨?_, C2⟩
  show Ending.returned (Value.string _) = Ending.returned (Value.string _)
  congr 2
  rw [← HS.out, ← HP.out]
  decide +kernel
set_option maxRecDepth 100000 in
theorem fmtP408 (w : World) (ht : Tab w) : Calls Tryd.prog 15 #[.int .i64 408] w fun e w' => e = .returned (.string (fmtS 408)) ∧ Ch [] w w' := by
  obtain ⟨s, hs⟩ : ∃ s, (⟨(Lib.itoa 408).toArray⟩ : ByteArray) = s := ⟨_, rfl⟩
  obtain ⟨p, hp⟩ : ∃ p, phr 408 = p := ⟨_, rfl⟩
  have hs1 : s.size ≤ 3 := by rw [← hs]; decide +kernel
  have hp1 : p.size ≤ 30 := by rw [← hp]; decide +kernel
  have hp2 : p.toList.isEmpty = false := by rw [← hp]; decide +kernel
  have HS := hid hs
  have HP := hid hp
  clear hs hp
  go_enter Tryd.func15, Tryd.ntmps15
  go_wp2_with (first
    | (go_at_call 17; refine (phrP _ _).mono ?_; rw [HP.out]; rintro e w' ⟨rfl, rfl⟩)
    | (go_at_call 40; refine (numFormatAs 408 s HS.out (by omega) (by omega) _ ht).mono ?_; rintro e w2 ⟨rfl, C2⟩))
  go_ret
  refine ⟨?_, C2⟩
  show Ending.returned (Value.string _) = Ending.returned (Value.string _)
  congr 2
  rw [← HS.out, ← HP.out]
  decide +kernel
set_option maxRecDepth 100000 in
theorem fmtR408 (w : World) : Calls Tryd.prog 16 #[.int .i64 408] w fun e w' => e = .returned (.string (fmtS 408)) ∧ Ch [] w w' := by
  obtain ⟨s, hs⟩ : ∃ s, strOfNums [48 + (408 : Int) / 10 / 10, 48 + (408 : Int) / 10 % 10, 48 + (408 : Int) % 10] = s := ⟨_, rfl⟩
  obtain ⟨p, hp⟩ : ∃ p, phr 408 = p := ⟨_, rfl⟩
  have hs1 : s.size ≤ 3 := by rw [← hs]; decide +kernel
  have hp1 : p.size ≤ 30 := by rw [← hp]; decide +kernel
  have hp2 : p.toList.isEmpty = false := by rw [← hp]; decide +kernel
  have HS := hid hs
  have HP := hid hp
  clear hs hp
  go_enter Tryd.func16, Tryd.ntmps16
  go_wp2_with (first
    | (go_at_call 18; refine (phrR _ _).mono ?_; rw [HP.out]; rintro e w' ⟨rfl, rfl⟩)
    | (go_at_call 41; refine (fd3As 408 s HS.out (by omega) (by omega) _).mono ?_; rintro e w2 ⟨rfl, C2⟩))
  go_ret
  refine ⟨?_, C2⟩
  show Ending.returned (Value.string _) = Ending.returned (Value.string _)
  congr 2
  rw [← HS.out, ← HP.out]
  decide +kernel
set_option maxRecDepth 100000 in
theorem fmtP429 (w : World) (ht : Tab w) : Calls Tryd.prog 15 #[.int .i64 429] w fun e w' => e = .returned (.string (fmtS 429)) ∧ Ch [] w w' := by
  obtain ⟨s, hs⟩ : ∃ s, (⟨(Lib.itoa 429).toArray⟩ : ByteArray) = s := ⟨_, rfl⟩
  obtain ⟨p, hp⟩ : ∃ p, phr 429 = p := ⟨_, rfl⟩
  have hs1 : s.size ≤ 3 := by rw [← hs]; decide +kernel
  have hp1 : p.size ≤ 30 := by rw [← hp]; decide +kernel
  have hp2 : p.toList.isEmpty = false := by rw [← hp]; decide +kernel
  have HS := hid hs
  have HP := hid hp
  clear hs hp
  go_enter Tryd.func15, Tryd.ntmps15
  go_wp2_with (first
    | (go_at_call 17; refine (phrP _ _).mono ?_; rw [HP.out]; rintro e w' ⟨rfl, rfl⟩)
    | (go_at_call 40; refine (numFormatAs 429 s HS.out (by omega) (by omega) _ ht).mono ?_; rintro e w2 ⟨rfl, C2⟩))
  go_ret
  refine ⟨?_, C2⟩
  show Ending.returned (Value.string _) = Ending.returned (Value.string _)
  congr 2
  rw [← HS.out, ← HP.out]
  decide +kernel
set_option maxRecDepth 100000 in
theorem fmtR429 (w : World) : Calls Tryd.prog 16 #[.int .i64 429] w fun e w' => e = .returned (.string (fmtS 429)) ∧ Ch [] w w' := by
  obtain ⟨s, hs⟩ : ∃ s, strOfNums [48 + (429 : Int) / 10 / 10, 48 + (429 : Int) / 10 % 10, 48 + (429 : Int) % 10] = s := ⟨_, rfl⟩
  obtain ⟨p, hp⟩ : ∃ p, phr 429 = p := ⟨_, rfl⟩
  have hs1 : s.size ≤ 3 := by rw [← hs]; decide +kernel
  have hp1 : p.size ≤ 30 := by rw [← hp]; decide +kernel
  have hp2 : p.toList.isEmpty = false := by rw [← hp]; decide +kernel
  have HS := hid hs
  have HP := hid hp
  clear hs hp
  go_enter Tryd.func16, Tryd.ntmps16
  go_wp2_with (first
    | (go_at_call 18; refine (phrR _ _).mono ?_; rw [HP.out]; rintro e w' ⟨rfl, rfl⟩)
    | (go_at_call 41; refine (fd3As 429 s HS.out (by omega) (by omega) _).mono ?_; rintro e w2 ⟨rfl, C2⟩))
  go_ret
  refine ⟨?_, C2⟩
  show Ending.returned (Value.string _) = Ending.returned (Value.string _)
  congr 2
  rw [← HS.out, ← HP.out]
  decide +kernel
set_option maxRecDepth 100000 in
theorem fmtP502 (w : World) (ht : Tab w) : Calls Tryd.prog 15 #[.int .i64 502] w fun e w' => e = .returned (.string (fmtS 502)) ∧ Ch [] w w' := by
  obtain ⟨s, hs⟩ : ∃ s, (⟨(Lib.itoa 502).toArray⟩ : ByteArray) = s := ⟨_, rfl⟩
  obtain ⟨p, hp⟩ : ∃ p, phr 502 = p := ⟨_, rfl⟩
  have hs1 : s.size ≤ 3 := by rw [← hs]; decide +kernel
  have hp1 : p.size ≤ 30 := by rw [← hp]; decide +kernel
  have hp2 : p.toList.isEmpty = false := by rw [← hp]; decide +kernel
  have HS := hid hs
  have HP := hid hp
  clear hs hp
  go_enter Tryd.func15, Tryd.ntmps15
  go_wp2_with (first
    | (go_at_call 17; refine (phrP _ _).mono ?_; rw [HP.out]; rintro e w' ⟨rfl, rfl⟩)
    | (go_at_call 40; refine (numFormatAs 502 s HS.out (by omega) (by omega) _ ht).mono ?_; rintro e w2 ⟨rfl, C2⟩))
  go_ret
  refine ⟨?_, C2⟩
  show Ending.returned (Value.string _) = Ending.returned (Value.string _)
  congr 2
  rw [← HS.out, ← HP.out]
  decide +kernel
set_option maxRecDepth 100000 in
theorem fmtR502 (w : World) : Calls Tryd.prog 16 #[.int .i64 502] w fun e w' => e = .returned (.string (fmtS 502)) ∧ Ch [] w w' := by
  obtain ⟨s, hs⟩ : ∃ s, strOfNums [48 + (502 : Int) / 10 / 10, 48 + (502 : Int) / 10 % 10, 48 + (502 : Int) % 10] = s := ⟨_, rfl⟩
  obtain ⟨p, hp⟩ : ∃ p, phr 502 = p := ⟨_, rfl⟩
  have hs1 : s.size ≤ 3 := by rw [← hs]; decide +kernel
  have hp1 : p.size ≤ 30 := by rw [← hp]; decide +kernel
  have hp2 : p.toList.isEmpty = false := by rw [← hp]; decide +kernel
  have HS := hid hs
  have HP := hid hp
  clear hs hp
  go_enter Tryd.func16, Tryd.ntmps16
  go_wp2_with (first
    | (go_at_call 18; refine (phrR _ _).mono ?_; rw [HP.out]; rintro e w' ⟨rfl, rfl⟩)
    | (go_at_call 41; refine (fd3As 502 s HS.out (by omega) (by omega) _).mono ?_; rintro e w2 ⟨rfl, C2⟩))
  go_ret
  refine ⟨?_, C2⟩
  show Ending.returned (Value.string _) = Ending.returned (Value.string _)
  congr 2
  rw [← HS.out, ← HP.out]
  decide +kernel
set_option maxRecDepth 100000 in
theorem fmtP503 (w : World) (ht : Tab w) : Calls Tryd.prog 15 #[.int .i64 503] w fun e w' => e = .returned (.string (fmtS 503)) ∧ Ch [] w w' := by
  obtain ⟨s, hs⟩ : ∃ s, (⟨(Lib.itoa 503).toArray⟩ : ByteArray) = s := ⟨_, rfl⟩
  obtain ⟨p, hp⟩ : ∃ p, phr 503 = p := ⟨_, rfl⟩
  have hs1 : s.size ≤ 3 := by rw [← hs]; decide +kernel
  have hp1 : p.size ≤ 30 := by rw [← hp]; decide +kernel
  have hp2 : p.toList.isEmpty = false := by rw [← hp]; decide +kernel
  have HS := hid hs
  have HP := hid hp
  clear hs hp
  go_enter Tryd.func15, Tryd.ntmps15
  go_wp2_with (first
    | (go_at_call 17; refine (phrP _ _).mono ?_; rw [HP.out]; rintro e w' ⟨rfl, rfl⟩)
    | (go_at_call 40; refine (numFormatAs 503 s HS.out (by omega) (by omega) _ ht).mono ?_; rintro e w2 ⟨rfl, C2⟩))
  go_ret
  refine ⟨?_, C2⟩
  show Ending.returned (Value.string _) = Ending.returned (Value.string _)
  congr 2
  rw [← HS.out, ← HP.out]
  decide +kernel
set_option maxRecDepth 100000 in
theorem fmtR503 (w : World) : Calls Tryd.prog 16 #[.int .i64 503] w fun e w' => e = .returned (.string (fmtS 503)) ∧ Ch [] w w' := by
  obtain ⟨s, hs⟩ : ∃ s, strOfNums [48 + (503 : Int) / 10 / 10, 48 + (503 : Int) / 10 % 10, 48 + (503 : Int) % 10] = s := ⟨_, rfl⟩
  obtain ⟨p, hp⟩ : ∃ p, phr 503 = p := ⟨_, rfl⟩
  have hs1 : s.size ≤ 3 := by rw [← hs]; decide +kernel
  have hp1 : p.size ≤ 30 := by rw [← hp]; decide +kernel
  have hp2 : p.toList.isEmpty = false := by rw [← hp]; decide +kernel
  have HS := hid hs
  have HP := hid hp
  clear hs hp
  go_enter Tryd.func16, Tryd.ntmps16
  go_wp2_with (first
    | (go_at_call 18; refine (phrR _ _).mono ?_; rw [HP.out]; rintro e w' ⟨rfl, rfl⟩)
    | (go_at_call 41; refine (fd3As 503 s HS.out (by omega) (by omega) _).mono ?_; rintro e w2 ⟨rfl, C2⟩))
  go_ret
  refine ⟨?_, C2⟩
  show Ending.returned (Value.string _) = Ending.returned (Value.string _)
  congr 2
  rw [← HS.out, ← HP.out]
  decide +kernel
set_option maxRecDepth 100000 in
theorem fmtP504 (w : World) (ht : Tab w) : Calls Tryd.prog 15 #[.int .i64 504] w fun e w' => e = .returned (.string (fmtS 504)) ∧ Ch [] w w' := by
  obtain ⟨s, hs⟩ : ∃ s, (⟨(Lib.itoa 504).toArray⟩ : ByteArray) = s := ⟨_, rfl⟩
  obtain ⟨p, hp⟩ : ∃ p, phr 504 = p := ⟨_, rfl⟩
  have hs1 : s.size ≤ 3 := by rw [← hs]; decide +kernel
  have hp1 : p.size ≤ 30 := by rw [← hp]; decide +kernel
  have hp2 : p.toList.isEmpty = false := by rw [← hp]; decide +kernel
  have HS := hid hs
  have HP := hid hp
  clear hs hp
  go_enter Tryd.func15, Tryd.ntmps15
  go_wp2_with (first
    | (go_at_call 17; refine (phrP _ _).mono ?_; rw [HP.out]; rintro e w' ⟨rfl, rfl⟩)
    | (go_at_call 40; refine (numFormatAs 504 s HS.out (by omega) (by omega) _ ht).mono ?_; rintro e w2 ⟨rfl, C2⟩))
  go_ret
  refine ⟨?_, C2⟩
  show Ending.returned (Value.string _) = Ending.returned (Value.string _)
  congr 2
  rw [← HS.out, ← HP.out]
  decide +kernel
set_option maxRecDepth 100000 in
theorem fmtR504 (w : World) : Calls Tryd.prog 16 #[.int .i64 504] w fun e w' => e = .returned (.string (fmtS 504)) ∧ Ch [] w w' := by
  obtain ⟨s, hs⟩ : ∃ s, strOfNums [48 + (504 : Int) / 10 / 10, 48 + (504 : Int) / 10 % 10, 48 + (504 : Int) % 10] = s := ⟨_, rfl⟩
  obtain ⟨p, hp⟩ : ∃ p, phr 504 = p := ⟨_, rfl⟩
  have hs1 : s.size ≤ 3 := by rw [← hs]; decide +kernel
  have hp1 : p.size ≤ 30 := by rw [← hp]; decide +kernel
  have hp2 : p.toList.isEmpty = false := by rw [← hp]; decide +kernel
  have HS := hid hs
  have HP := hid hp
  clear hs hp
  go_enter Tryd.func16, Tryd.ntmps16
  go_wp2_with (first
    | (go_at_call 18; refine (phrR _ _).mono ?_; rw [HP.out]; rintro e w' ⟨rfl, rfl⟩)
    | (go_at_call 41; refine (fd3As 504 s HS.out (by omega) (by omega) _).mono ?_; rintro e w2 ⟨rfl, C2⟩))
  go_ret
  refine ⟨?_, C2⟩
  show Ending.returned (Value.string _) = Ending.returned (Value.string _)
  congr 2
  rw [← HS.out, ← HP.out]
  decide +kernel
theorem fmtP (c : Int) (w : World) (ht : Tab w) : Calls Tryd.prog 15 #[.int .i64 c] w fun e w' => e = .returned (.string (fmtS c)) ∧ Ch [] w w' := by
  by_cases h200 : c = 200
  · subst h200; exact fmtP200 w ht
  by_cases h400 : c = 400
  · subst h400; exact fmtP400 w ht
  by_cases h403 : c = 403
  · subst h403; exact fmtP403 w ht
  by_cases h407 : c = 407
  · subst h407; exact fmtP407 w ht
  by_cases h408 : c = 408
  · subst h408; exact fmtP408 w ht
  by_cases h429 : c = 429
  · subst h429; exact fmtP429 w ht
  by_cases h502 : c = 502
  · subst h502; exact fmtP502 w ht
  by_cases h503 : c = 503
  · subst h503; exact fmtP503 w ht
  by_cases h504 : c = 504
  · subst h504; exact fmtP504 w ht
  have e1 : phr c = ⟨#[]⟩ := by simp [phr, h200, h400, h403, h407, h408, h429, h502, h503, h504]
  have e2 : fmtS c = ⟨#[]⟩ := by simp [fmtS, h200, h400, h403, h407, h408, h429, h502, h503, h504]
  rw [e2]
  obtain ⟨p, hp, hp2⟩ : ∃ p : ByteArray, phr c = p ∧ p.toList.isEmpty = true := ⟨_, e1, by decide +kernel⟩
  have HP := hid hp
  clear e1 e2 hp h200 h400 h403 h407 h408 h429 h502 h503 h504
  go_enter Tryd.func15, Tryd.ntmps15
  go_wp2_with (go_at_call 17; refine (phrP _ _).mono ?_; rw [HP.out]; rintro e w' ⟨rfl, rfl⟩)
  go_ret
  exact ⟨rfl, Ch.refl _ _⟩
theorem fmtR (c : Int) (w : World) : Calls Tryd.prog 16 #[.int .i64 c] w fun e w' => e = .returned (.string (fmtS c)) ∧ Ch [] w w' := by
  by_cases h200 : c = 200
  · subst h200; exact fmtR200 w
  by_cases h400 : c = 400
  · subst h400; exact fmtR400 w
  by_cases h403 : c = 403
  · subst h403; exact fmtR403 w
  by_cases h407 : c = 407
  · subst h407; exact fmtR407 w
  by_cases h408 : c = 408
  · subst h408; exact fmtR408 w
  by_cases h429 : c = 429
  · subst h429; exact fmtR429 w
  by_cases h502 : c = 502
  · subst h502; exact fmtR502 w
  by_cases h503 : c = 503
  · subst h503; exact fmtR503 w
  by_cases h504 : c = 504
  · subst h504; exact fmtR504 w
  have e1 : phr c = ⟨#[]⟩ := by simp [phr, h200, h400, h403, h407, h408, h429, h502, h503, h504]
  have e2 : fmtS c = ⟨#[]⟩ := by simp [fmtS, h200, h400, h403, h407, h408, h429, h502, h503, h504]
  rw [e2]
  obtain ⟨p, hp, hp2⟩ : ∃ p : ByteArray, phr c = p ∧ p.toList.isEmpty = true := ⟨_, e1, by decide +kernel⟩
  have HP := hid hp
  clear e1 e2 hp h200 h400 h403 h407 h408 h429 h502 h503 h504
  go_enter Tryd.func16, Tryd.ntmps16
  go_wp2_with (go_at_call 18; refine (phrR _ _).mono ?_; rw [HP.out]; rintro e w' ⟨rfl, rfl⟩)
  go_ret
  exact ⟨rfl, Ch.refl _ _⟩
end Go.Proofs.YtidfigehahfpeaaDoor
