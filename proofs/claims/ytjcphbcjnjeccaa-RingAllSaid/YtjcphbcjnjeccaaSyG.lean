import Derived.Test.YtjcphbcjnjeccaaSy1
set_option linter.unusedVariables false
set_option linter.unusedSimpArgs false
namespace Go.Sy
open Go
/-! ### ghosts -/
/-- What an access tells (what was there, the code, did it win); what it leaves; a table of accesses. -/
structure Gh where
  u : Int
  c : Int
  o : Bool
  l : List Int
  t : List (Int × Int × Int × Int)
def ghL (l : List Int) : Gh := ⟨0, 0, false, l, []⟩
/-- n words of a row of 'size' slots, from a number on (numbers: modulo m), the row's slots from 'at' + 'off' on, 'st' cells a slot. -/
def slotsG (l : List Int) (at' size from' n m off st : Int) : List Int := (List.range n.toNat).map fun (j : Nat) => l.getD (at' + off + st * ((from' + (j : Int)) % m % size)).toNat 0
/-- Symbols of the laws. -/
def xga (f : Nat) (g _h : Gh) (a b c d : Int) (l : List Int) : Gh := match f with
  | 40 => ghL (slotsG l a b c d 18446744073709551616 2 1)
  | 41 => ghL (slotsG l a b c d 18446744073709551616 3 2)
  | 42 => ghL (slotsG l a b c d 4294967296 2 1)
  | _ => g
end Go.Sy
