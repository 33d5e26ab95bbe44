/- Addresses and prefixes as text: the plain layer (as far as the tables' own constants want it). -/
import Derived.Test.YtjabeabbaambcaaDoorSplC
import Derived.Test.YtjabeabbaambcaaDoorBits
import Derived.Test.YtjabeabbaambcaaDoorIpValid
namespace Go.Proofs.YtjabeabbaambcaaDoor
open Go.RowKit

def decV : List Int → Int → Option Int
  | [], n => some n
  | c :: l, n => if 48 ≤ c ∧ c ≤ 57 then decV l (10 * n + (c - 48)) else none
def decP (l : List Int) (most : Int) : Option Int :=
  if 1 ≤ l.length ∧ l.length ≤ 6 ∧ (at_ l 0 ≠ 48 ∨ l.length = 1) then (match decV l 0 with | some n => if n ≤ most then some n else none | none => none) else none
def hexD (c : Int) : Option Int := if 48 ≤ c ∧ c ≤ 57 then some (c - 48) else if 97 ≤ c ∧ c ≤ 102 then some (c - 87) else if 65 ≤ c ∧ c ≤ 70 then some (c - 55) else none
def hexV : List Int → Int → Option Int
  | [], n => some n
  | c :: l, n => match hexD c with | some d => hexV l (16 * n + d) | none => none
def hexP (l : List Int) : Option Int := if 1 ≤ l.length ∧ l.length ≤ 4 then hexV l 0 else none
def allO {α β : Type} (f : α → Option β) : List α → Option (List β)
  | [] => some []
  | x :: l => match f x, allO f l with | some y, some r => some (y :: r) | _, _ => none
/-- Groups without an IPv4 tail: no dot stands in them. -/
def grpP (l : List Int) : Option (List Int) := if l.all (fun x => !decide (x = 46)) then (if l.length = 0 then some [] else allO hexP (splitC 58 l)) else none
def ip4P (l : List Int) : Option (List Int) := if (splitC 46 l).length = 4 then allO (fun x => decP x 255) (splitC 46 l) else none
/-- The first place where two colons stand side by side. -/
def dblC : List Int → Option Nat
  | [] => none
  | x :: l => if x = 58 ∧ l.head? = some 58 then some 0 else (dblC l).map (· + 1)
def grpB (gs : List Int) : List Int := gs.flatMap fun g => [g / 256, g % 256]
def z12 : List Int := [0, 0, 0, 0, 0, 0, 0, 0, 0, 0, 0, 0]
def addrT (l : List Int) : Option (Bool × List Int) :=
  match ip4P l with
  | some bs => some (false, bs ++ z12)
  | none => if l.all (fun x => !decide (x = 46)) then (match dblC l with
    | none => none
    | some k => match grpP (l.take k), grpP (l.drop (k + 2)) with
      | some a, some b => if a.length + b.length ≤ 7 then some (true, grpB (a ++ List.replicate (8 - (a.length + b.length)) 0 ++ b)) else none
      | _, _ => none) else none
abbrev Pfx := Bool × List Int × Int
def bitL (six : Bool) : Int := if six then 128 else 32
def validP (p : Pfx) : Bool := validA p.1 p.2.1 && decide (0 ≤ p.2.2) && decide (p.2.2 ≤ bitL p.1) && decide (truncL p.2.1 p.2.2 = p.2.1)
def prefT (l : List Int) : Option Pfx :=
  match splitC 47 l with
  | [a, n] => match addrT a, decP n 128 with
    | some r, some k => if validP (r.1, r.2, k) then some (r.1, r.2, k) else none
    | _, _ => none
  | _ => none
/-- The prefix with the given leading groups. -/
def pf6 (gs : List Int) (n : Int) : Pfx := (true, grpB (gs ++ List.replicate (8 - gs.length) 0), n)
def pf4 (a b c d : Int) (n : Int) : Pfx := (false, [a, b, c, d] ++ z12, n)
/-- The block list. -/
def blkT : List Pfx := [pf4 0 0 0 0 8, pf4 10 0 0 0 8, pf4 100 64 0 0 10, pf4 127 0 0 0 8, pf4 169 254 0 0 16, pf4 172 16 0 0 12, pf4 192 168 0 0 16, pf4 224 0 0 0 3, pf6 [] 128, pf6 [0, 0, 0, 0, 0, 0, 0, 1] 128, pf6 [0, 0, 0, 0, 0, 65535] 96, pf6 [100, 65435] 96, pf6 [64512] 7, pf6 [65152] 10, pf6 [65280] 8]
/-- The policy table: prefix, precedence, label. -/
def polT : List (Pfx × Int × Int) := [(pf6 [0, 0, 0, 0, 0, 0, 0, 1] 128, 50, 0), (pf6 [] 0, 40, 1), (pf6 [0, 0, 0, 0, 0, 65535] 96, 35, 4), (pf6 [8194] 16, 30, 2), (pf6 [8193] 32, 5, 5), (pf6 [64512] 7, 3, 13), (pf6 [] 96, 1, 3), (pf6 [65216] 10, 1, 11), (pf6 [16382] 16, 1, 12)]
def nums (s : String) : List Int := s.toUTF8.data.toList.map fun b => (b.toNat : Int)
theorem blkT_text : (["0.0.0.0/8", "10.0.0.0/8", "100.64.0.0/10", "127.0.0.0/8", "169.254.0.0/16", "172.16.0.0/12", "192.168.0.0/16", "224.0.0.0/3", "::/128", "::1/128", "::ffff:0:0/96", "64:ff9b::/96", "fc00::/7", "fe80::/10", "ff00::/8"].map fun s => prefT (nums s)) = blkT.map some := by decide +kernel
theorem polT_text : (["::1/128", "::/0", "::ffff:0:0/96", "2002::/16", "2001::/32", "fc00::/7", "::/96", "fec0::/10", "3ffe::/16"].map fun s => prefT (nums s)) = polT.map fun r => some r.1 := by decide +kernel

/-- Whether a prefix contains an address. -/
def contP (p : Pfx) (six : Bool) (a : List Int) : Bool := validP p && validA six a && (p.1 == six) && decide (truncL a p.2.2 = p.2.1)
def idxP (six : Bool) (a : List Int) : List Pfx → Nat → Int
  | [], _ => -1
  | p :: l, i => if contP p six a then (i : Int) else idxP six a l (i + 1)
end Go.Proofs.YtjabeabbaambcaaDoor
