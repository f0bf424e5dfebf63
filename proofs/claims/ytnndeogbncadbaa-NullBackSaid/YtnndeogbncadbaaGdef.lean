/- What the functions of packages bits and null come to, as plain Lean functions: bits as lists of Bool, the lowest first. -/
import Derived.Test.YtnndeogbncadbaaF0
namespace Go.Proofs.Ytnndeogbncadbaa.F
open Go.RowKit Go.Proofs.YtnndeogbncadbaaW.PrintWords Go.Proofs.YtnndeogbncadbaaW.PrintLast Go.Proofs.YtnndeogbncadbaaW.PrintMore
set_option linter.unusedVariables false

/-- The lowest w bits of a number. -/
def bitsN (w : Nat) (n : Nat) : List Bool := (List.range w).map fun i => n.testBit i
/-- The number that bits tell. -/
def numN : List Bool → Nat
  | [] => 0
  | b :: r => b.toNat + 2 * numN r
/-- Bits as bytes. -/
def packN (bs : List Bool) : List Int := (List.range ((bs.length + 7) / 8)).map fun i => ((numN ((bs.drop (8 * i)).take 8) : Nat) : Int)
/-- Bytes as bits. -/
def bitsB (l : List Int) : List Bool := l.flatMap fun c => bitsN 8 c.toNat
/-- How many bits a number has. -/
def lenN (n : Nat) : Nat := if n = 0 then 0 else n.log2 + 1
def inU64 (x : Int) : Bool := decide (0 ≤ x) && decide (x < 18446744073709551616)
def inU8 (x : Int) : Bool := decide (0 ≤ x) && decide (x < 256)

def bits_Len64.f (a0 : Int) : Option Int := if inU64 a0 = true then some (lenN a0.toNat : Int) else none

def bits_Pack.f (l0 : List Int) (a1 : Int) : Option (List Int × Int) :=
  if l0.length ≤ 1000000000 ∧ l0.all inU64 = true then
    (if a1 < 0 ∨ 64 < a1 then some ([], 1)
    else if l0.all (fun x => decide (lenN x.toNat ≤ a1.toNat)) = true then some (packN (l0.flatMap fun x => bitsN a1.toNat x.toNat), 0)
    else some ([], 1))
  else none

/-- n numbers of w bits each, off the head. -/
def getsN (w n : Nat) (bs : List Bool) : List Int := (List.range n).map fun i => ((numN ((bs.drop (i * w)).take w) : Nat) : Int)

def bits_Unpack.f (l0 : List Int) (a1 a2 : Int) : Option (List Int × Int) :=
  if l0.length ≤ 1000000000 ∧ l0.all inU8 = true then
    (if a1 < 0 ∨ 1048576 < a1 ∨ a2 < 0 ∨ 64 < a2 then some ([], 1)
    else if 8 * (l0.length : Int) < a1 * a2 then some ([], 3)
    else if 8 * (l0.length : Int) - a1 * a2 ≥ 8 then some ([], 4)
    else if ((bitsB l0).drop (a1 * a2).toNat).all (fun b => !b) = true then some (getsN a2.toNat a1.toNat (bitsB l0), 0)
    else some ([], 4))
  else none
def astragalref01_Unpack.f (l0 : List Int) (a1 a2 : Int) : Option (List Int × Int) := bits_Unpack.f l0 a1 a2

def null_Bytes.f (l0 : List Bool) : Option (List Int) := if l0.length ≤ 1000000000 then some (packN l0) else none

def null_Split.f (l0 : List S37) : Option (List Bool × List S37) :=
  if l0.length ≤ 1000000000 then some (l0.map (fun v => v.f0 == 0), l0.filter (fun v => v.f0 != 0)) else none

/-- Values put back to their places. -/
def joinN : List Bool → List S37 → List S37
  | [], _ => []
  | true :: r, l => z37 :: joinN r l
  | false :: r, v :: l => v :: joinN r l
  | false :: r, [] => z37 :: joinN r []
def null_Join.f (l0 : List Bool) (l1 : List S37) : Option (List S37 × Int) :=
  if l0.length ≤ 1000000000 ∧ l1.length ≤ 1000000000 then
    (if l1.length + l0.count true = l0.length ∧ l1.all (fun v => v.f0 != 0) = true then some (joinN l0 l1, 0) else some ([], 4))
  else none
end Go.Proofs.Ytnndeogbncadbaa.F
