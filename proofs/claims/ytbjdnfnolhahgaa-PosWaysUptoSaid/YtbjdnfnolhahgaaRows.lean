/-
  No cell of these rows narrows 'for every input' (looked for: loops, veiled, ifaces, maps, wideKeys, modest, calm, conditions, laid).
  DERIVED. THE GIVEN ROWS OF THIS SEAT. 7 by the template 'for every input the law returns true; each argument reads behind the call as it read before'; 0 by the template 'total and deterministic' (their statements: YtbjdnfnolhahgaaTotals.lean).
  GIVEN WITH THE SEED: the statements are not yours to turn. If you find one false, say at which input.
  Laid BY PROGRAM, IN A SANDBOX (cutbox-rows.mjs): the forced cells as the released guide's own fill.sh prints them over the translation b89ebbda21b6c554… (all of the seat's roots in one cut). By AI agents, Wed Nov 11 2026. No macro, syntax, notation, axiom, sorry.
-/
import Derived.Test.YtbjdnfnolhahgaaChecked
import GoSem.Claim
import GoSem.ClaimJoined
import GoSem.ClaimMapViews
import Derived.JoinedTies
import Derived.KernelRfl
namespace Go.Proofs.Ytbjdnfnolhahgaa
/- THE CELL 'sum', in the pinned program and in every row, IS THE sha256 OF THE DUMP (.gsa) THAT YtbjdnfnolhahgaaProg.lean LOADS. Nothing in Lean hashes anything: it is a label: what it is worth is what the hold of that sum in a sandbox is worth. -/
noncomputable def Try.pinned : Pinned := { name := "ytbjdnfnolhahgaa", sum := "b89ebbda21b6c554cd041ab9d35a5ef0ed643206dab96577b2ef0b1600d4bec5", checked := Try.checked }
namespace Rows
def none {H : Type} : Left H := { results := [], args := [] }

/-- 'astragallaw12.PosRanks': WHATEVER THE INPUT: true; the input reads as it did. -/
def posRanksSpec : ChangeSpec := { name := "posRanks", fn := fun _ => fun
  | [d1, d2, d3] => { results := [.lit (.bool true)], args := [d1, d2, d3] }
  | _ => none }
def posRanksRow : OpenClaim := { program := "ytbjdnfnolhahgaa", sum := "b89ebbda21b6c554cd041ab9d35a5ef0ed643206dab96577b2ef0b1600d4bec5", func := "astragal/astragallaw12.PosRanks", spec := "posRanks", unfollowed := true, recurses := true, apart := false }
def PosRanksSaid : Prop := posRanksRow.holds Try.pinned (OpenSpec.ofChange posRanksSpec)

/-- ITS FALSE NEIGHBOUR: 'it returns false'. Refute it at one input. -/
def posRanksWrong : ChangeSpec := { name := "posRanks", fn := fun _ => fun
  | [d1, d2, d3] => { results := [.lit (.bool false)], args := [d1, d2, d3] }
  | _ => none }
def PosRanksWrongFalsely : Prop := posRanksRow.holds Try.pinned (OpenSpec.ofChange posRanksWrong)

/-- 'astragallaw12.PosAlls': WHATEVER THE INPUT: true; the input reads as it did. -/
def posAllsSpec : ChangeSpec := { name := "posAlls", fn := fun _ => fun
  | [d1, d2, d3] => { results := [.lit (.bool true)], args := [d1, d2, d3] }
  | _ => none }
def posAllsRow : OpenClaim := { program := "ytbjdnfnolhahgaa", sum := "b89ebbda21b6c554cd041ab9d35a5ef0ed643206dab96577b2ef0b1600d4bec5", func := "astragal/astragallaw12.PosAlls", spec := "posAlls", unfollowed := true, recurses := true, apart := false }
def PosAllsSaid : Prop := posAllsRow.holds Try.pinned (OpenSpec.ofChange posAllsSpec)

/-- ITS FALSE NEIGHBOUR: 'it returns false'. Refute it at one input. -/
def posAllsWrong : ChangeSpec := { name := "posAlls", fn := fun _ => fun
  | [d1, d2, d3] => { results := [.lit (.bool false)], args := [d1, d2, d3] }
  | _ => none }
def PosAllsWrongFalsely : Prop := posAllsRow.holds Try.pinned (OpenSpec.ofChange posAllsWrong)

/-- 'astragallaw12.PosRules': WHATEVER THE INPUT: true; the input reads as it did. -/
def posRulesSpec : ChangeSpec := { name := "posRules", fn := fun _ => fun
  | [d1, d2, d3, d4] => { results := [.lit (.bool true)], args := [d1, d2, d3, d4] }
  | _ => none }
def posRulesRow : OpenClaim := { program := "ytbjdnfnolhahgaa", sum := "b89ebbda21b6c554cd041ab9d35a5ef0ed643206dab96577b2ef0b1600d4bec5", func := "astragal/astragallaw12.PosRules", spec := "posRules", unfollowed := true, recurses := true, apart := false }
def PosRulesSaid : Prop := posRulesRow.holds Try.pinned (OpenSpec.ofChange posRulesSpec)

/-- ITS FALSE NEIGHBOUR: 'it returns false'. Refute it at one input. -/
def posRulesWrong : ChangeSpec := { name := "posRules", fn := fun _ => fun
  | [d1, d2, d3, d4] => { results := [.lit (.bool false)], args := [d1, d2, d3, d4] }
  | _ => none }
def PosRulesWrongFalsely : Prop := posRulesRow.holds Try.pinned (OpenSpec.ofChange posRulesWrong)

/-- 'astragallaw12.PosCounts': WHATEVER THE INPUT: true; the input reads as it did. -/
def posCountsSpec : ChangeSpec := { name := "posCounts", fn := fun _ => fun
  | [d1, d2, d3, d4] => { results := [.lit (.bool true)], args := [d1, d2, d3, d4] }
  | _ => none }
def posCountsRow : OpenClaim := { program := "ytbjdnfnolhahgaa", sum := "b89ebbda21b6c554cd041ab9d35a5ef0ed643206dab96577b2ef0b1600d4bec5", func := "astragal/astragallaw12.PosCounts", spec := "posCounts", unfollowed := true, recurses := true, apart := false }
def PosCountsSaid : Prop := posCountsRow.holds Try.pinned (OpenSpec.ofChange posCountsSpec)

/-- ITS FALSE NEIGHBOUR: 'it returns false'. Refute it at one input. -/
def posCountsWrong : ChangeSpec := { name := "posCounts", fn := fun _ => fun
  | [d1, d2, d3, d4] => { results := [.lit (.bool false)], args := [d1, d2, d3, d4] }
  | _ => none }
def PosCountsWrongFalsely : Prop := posCountsRow.holds Try.pinned (OpenSpec.ofChange posCountsWrong)

/-- 'astragallaw12.PosSets': WHATEVER THE INPUT: true; the input reads as it did. -/
def posSetsSpec : ChangeSpec := { name := "posSets", fn := fun _ => fun
  | [d1, d2, d3, d4, d5] => { results := [.lit (.bool true)], args := [d1, d2, d3, d4, d5] }
  | _ => none }
def posSetsRow : OpenClaim := { program := "ytbjdnfnolhahgaa", sum := "b89ebbda21b6c554cd041ab9d35a5ef0ed643206dab96577b2ef0b1600d4bec5", func := "astragal/astragallaw12.PosSets", spec := "posSets", unfollowed := true, recurses := true, apart := false }
def PosSetsSaid : Prop := posSetsRow.holds Try.pinned (OpenSpec.ofChange posSetsSpec)

/-- ITS FALSE NEIGHBOUR: 'it returns false'. Refute it at one input. -/
def posSetsWrong : ChangeSpec := { name := "posSets", fn := fun _ => fun
  | [d1, d2, d3, d4, d5] => { results := [.lit (.bool false)], args := [d1, d2, d3, d4, d5] }
  | _ => none }
def PosSetsWrongFalsely : Prop := posSetsRow.holds Try.pinned (OpenSpec.ofChange posSetsWrong)

/-- 'astragallaw12.PosWays': WHATEVER THE INPUT: true; the input reads as it did. -/
def posWaysSpec : ChangeSpec := { name := "posWays", fn := fun _ => fun
  | [d1, d2, d3, d4] => { results := [.lit (.bool true)], args := [d1, d2, d3, d4] }
  | _ => none }
def posWaysRow : OpenClaim := { program := "ytbjdnfnolhahgaa", sum := "b89ebbda21b6c554cd041ab9d35a5ef0ed643206dab96577b2ef0b1600d4bec5", func := "astragal/astragallaw12.PosWays", spec := "posWays", unfollowed := true, recurses := true, apart := false }
def PosWaysSaid : Prop := posWaysRow.holds Try.pinned (OpenSpec.ofChange posWaysSpec)

/-- ITS FALSE NEIGHBOUR: 'it returns false'. Refute it at one input. -/
def posWaysWrong : ChangeSpec := { name := "posWays", fn := fun _ => fun
  | [d1, d2, d3, d4] => { results := [.lit (.bool false)], args := [d1, d2, d3, d4] }
  | _ => none }
def PosWaysWrongFalsely : Prop := posWaysRow.holds Try.pinned (OpenSpec.ofChange posWaysWrong)

/-- 'astragallaw12.PosJoins': WHATEVER THE INPUT: true; the input reads as it did. -/
def posJoinsSpec : ChangeSpec := { name := "posJoins", fn := fun _ => fun
  | [d1, d2, d3, d4, d5] => { results := [.lit (.bool true)], args := [d1, d2, d3, d4, d5] }
  | _ => none }
def posJoinsRow : OpenClaim := { program := "ytbjdnfnolhahgaa", sum := "b89ebbda21b6c554cd041ab9d35a5ef0ed643206dab96577b2ef0b1600d4bec5", func := "astragal/astragallaw12.PosJoins", spec := "posJoins", unfollowed := true, recurses := true, apart := false }
def PosJoinsSaid : Prop := posJoinsRow.holds Try.pinned (OpenSpec.ofChange posJoinsSpec)

/-- ITS FALSE NEIGHBOUR: 'it returns false'. Refute it at one input. -/
def posJoinsWrong : ChangeSpec := { name := "posJoins", fn := fun _ => fun
  | [d1, d2, d3, d4, d5] => { results := [.lit (.bool false)], args := [d1, d2, d3, d4, d5] }
  | _ => none }
def PosJoinsWrongFalsely : Prop := posJoinsRow.holds Try.pinned (OpenSpec.ofChange posJoinsWrong)

/- THE SECOND FORM. 'bulk': how many values and letters a reading holds, each counted each time it is reached (what is shared counts as often as it is met; a slice's spare places count too). A statement '..UptoSaid' is the law's where the arguments, and the package variables that the reading takes, are together of bulk at most 1048576: NARROWER than '..Said'. Prove '..Said' where nothing that the law and all that it calls make is longer than what came in: it says more and counts as full. Else prove '..UptoSaid'. A law counts once. -/
mutual
def uptoBulk {H : Type} : DataW H → Nat
  | .lit (.string bytes) => bytes.length + 1
  | .lit _ => 1
  | .nil => 1
  | .ptr d => uptoBulk d + 1
  | .slice elems spare => uptoBulkAll elems + uptoBulkAll spare + 1
  | .agg parts => uptoBulkAll parts + 1
  | .iface _ d => uptoBulk d + 1
  | .map entries => uptoBulkEntries entries + 1
  | .held _ => 1
def uptoBulkAll {H : Type} : List (DataW H) → Nat
  | [] => 0
  | d :: r => uptoBulk d + uptoBulkAll r
def uptoBulkEntries {H : Type} : List (Lit × DataW H) → Nat
  | [] => 0
  | x :: r => uptoBulkEntry x + uptoBulkEntries r
def uptoBulkEntry {H : Type} : Lit × DataW H → Nat
  | (.string bytes, d) => bytes.length + uptoBulk d + 1
  | (_, d) => uptoBulk d + 1
 end
def uptoSmall : (H : Type) → List (DataW H) → Bool := fun _ ds => decide (uptoBulkAll ds ≤ 1048576)
def OpenSpec.upto (s : _root_.Go.ChangeSpec) : _root_.Go.OpenSpec := { _root_.Go.OpenSpec.ofChange s with cond := some uptoSmall }

/-- 'astragallaw12.PosRanks', WHERE WHAT IT READS IS OF BULK AT MOST 1048576: true; the input reads as it did. -/
def posRanksUptoRow : OpenClaim := { program := "ytbjdnfnolhahgaa", sum := "b89ebbda21b6c554cd041ab9d35a5ef0ed643206dab96577b2ef0b1600d4bec5", func := "astragal/astragallaw12.PosRanks", spec := "posRanks", unfollowed := true, recurses := true, apart := false, narrowed := true }
def PosRanksUptoSaid : Prop := posRanksUptoRow.holds Try.pinned (OpenSpec.upto posRanksSpec)

/-- 'astragallaw12.PosAlls', WHERE WHAT IT READS IS OF BULK AT MOST 1048576: true; the input reads as it did. -/
def posAllsUptoRow : OpenClaim := { program := "ytbjdnfnolhahgaa", sum := "b89ebbda21b6c554cd041ab9d35a5ef0ed643206dab96577b2ef0b1600d4bec5", func := "astragal/astragallaw12.PosAlls", spec := "posAlls", unfollowed := true, recurses := true, apart := false, narrowed := true }
def PosAllsUptoSaid : Prop := posAllsUptoRow.holds Try.pinned (OpenSpec.upto posAllsSpec)

/-- 'astragallaw12.PosRules', WHERE WHAT IT READS IS OF BULK AT MOST 1048576: true; the input reads as it did. -/
def posRulesUptoRow : OpenClaim := { program := "ytbjdnfnolhahgaa", sum := "b89ebbda21b6c554cd041ab9d35a5ef0ed643206dab96577b2ef0b1600d4bec5", func := "astragal/astragallaw12.PosRules", spec := "posRules", unfollowed := true, recurses := true, apart := false, narrowed := true }
def PosRulesUptoSaid : Prop := posRulesUptoRow.holds Try.pinned (OpenSpec.upto posRulesSpec)

/-- 'astragallaw12.PosCounts', WHERE WHAT IT READS IS OF BULK AT MOST 1048576: true; the input reads as it did. -/
def posCountsUptoRow : OpenClaim := { program := "ytbjdnfnolhahgaa", sum := "b89ebbda21b6c554cd041ab9d35a5ef0ed643206dab96577b2ef0b1600d4bec5", func := "astragal/astragallaw12.PosCounts", spec := "posCounts", unfollowed := true, recurses := true, apart := false, narrowed := true }
def PosCountsUptoSaid : Prop := posCountsUptoRow.holds Try.pinned (OpenSpec.upto posCountsSpec)

/-- 'astragallaw12.PosSets', WHERE WHAT IT READS IS OF BULK AT MOST 1048576: true; the input reads as it did. -/
def posSetsUptoRow : OpenClaim := { program := "ytbjdnfnolhahgaa", sum := "b89ebbda21b6c554cd041ab9d35a5ef0ed643206dab96577b2ef0b1600d4bec5", func := "astragal/astragallaw12.PosSets", spec := "posSets", unfollowed := true, recurses := true, apart := false, narrowed := true }
def PosSetsUptoSaid : Prop := posSetsUptoRow.holds Try.pinned (OpenSpec.upto posSetsSpec)

/-- 'astragallaw12.PosWays', WHERE WHAT IT READS IS OF BULK AT MOST 1048576: true; the input reads as it did. -/
def posWaysUptoRow : OpenClaim := { program := "ytbjdnfnolhahgaa", sum := "b89ebbda21b6c554cd041ab9d35a5ef0ed643206dab96577b2ef0b1600d4bec5", func := "astragal/astragallaw12.PosWays", spec := "posWays", unfollowed := true, recurses := true, apart := false, narrowed := true }
def PosWaysUptoSaid : Prop := posWaysUptoRow.holds Try.pinned (OpenSpec.upto posWaysSpec)

/-- 'astragallaw12.PosJoins', WHERE WHAT IT READS IS OF BULK AT MOST 1048576: true; the input reads as it did. -/
def posJoinsUptoRow : OpenClaim := { program := "ytbjdnfnolhahgaa", sum := "b89ebbda21b6c554cd041ab9d35a5ef0ed643206dab96577b2ef0b1600d4bec5", func := "astragal/astragallaw12.PosJoins", spec := "posJoins", unfollowed := true, recurses := true, apart := false, narrowed := true }
def PosJoinsUptoSaid : Prop := posJoinsUptoRow.holds Try.pinned (OpenSpec.upto posJoinsSpec)

end Rows
end Go.Proofs.Ytbjdnfnolhahgaa
