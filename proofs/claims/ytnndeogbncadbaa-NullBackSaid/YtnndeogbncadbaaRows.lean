/-
  No cell of these rows narrows 'for every input' (looked for: loops, veiled, ifaces, maps, wideKeys, modest, calm, conditions, laid).
  DERIVED. THE GIVEN ROWS OF THIS SEAT. 13 by the template 'for every input the law returns true; each argument reads behind the call as it read before'; 0 by the template 'total and deterministic' (their statements: YtnndeogbncadbaaTotals.lean).
  GIVEN WITH THE SEED: the statements are not yours to turn. If you find one false, say at which input.
  Laid BY PROGRAM, IN A SANDBOX (cutbox-rows.mjs): the forced cells as the released guide's own fill.sh prints them over the translation 1da38ac1e7b164e0… (all of the seat's roots in one cut). By AI agents, Wed Nov 11 2026. No macro, syntax, notation, axiom, sorry.
-/
import Derived.Test.YtnndeogbncadbaaChecked
import GoSem.Claim
import GoSem.ClaimJoined
import GoSem.ClaimMapViews
import Derived.JoinedTies
import Derived.KernelRfl
namespace Go.Proofs.Ytnndeogbncadbaa
/- THE CELL 'sum', in the pinned program and in every row, IS THE sha256 OF THE DUMP (.gsa) THAT YtnndeogbncadbaaProg.lean LOADS. Nothing in Lean hashes anything: it is a label: what it is worth is what the hold of that sum in a sandbox is worth. -/
noncomputable def Try.pinned : Pinned := { name := "ytnndeogbncadbaa", sum := "1da38ac1e7b164e07e31ada83077aa12fa2c5acff8138e7b73f4282edccd3d51", checked := Try.checked }
namespace Rows
def none {H : Type} : Left H := { results := [], args := [] }

/-- 'astragallaw06.NullCounts': WHATEVER THE INPUT: true; the input reads as it did. -/
def nullCountsSpec : ChangeSpec := { name := "nullCounts", fn := fun _ => fun
  | [d1, d2] => { results := [.lit (.bool true)], args := [d1, d2] }
  | _ => none }
def nullCountsRow : OpenClaim := { program := "ytnndeogbncadbaa", sum := "1da38ac1e7b164e07e31ada83077aa12fa2c5acff8138e7b73f4282edccd3d51", func := "astragal/astragallaw06.NullCounts", spec := "nullCounts", unfollowed := true, recurses := true, apart := false }
def NullCountsSaid : Prop := nullCountsRow.holds Try.pinned (OpenSpec.ofChange nullCountsSpec)

/-- ITS FALSE NEIGHBOUR: 'it returns false'. Refute it at one input. -/
def nullCountsWrong : ChangeSpec := { name := "nullCounts", fn := fun _ => fun
  | [d1, d2] => { results := [.lit (.bool false)], args := [d1, d2] }
  | _ => none }
def NullCountsWrongFalsely : Prop := nullCountsRow.holds Try.pinned (OpenSpec.ofChange nullCountsWrong)

/-- 'astragallaw06.NullSplits': WHATEVER THE INPUT: true; the input reads as it did. -/
def nullSplitsSpec : ChangeSpec := { name := "nullSplits", fn := fun _ => fun
  | [d1, d2, d3] => { results := [.lit (.bool true)], args := [d1, d2, d3] }
  | _ => none }
def nullSplitsRow : OpenClaim := { program := "ytnndeogbncadbaa", sum := "1da38ac1e7b164e07e31ada83077aa12fa2c5acff8138e7b73f4282edccd3d51", func := "astragal/astragallaw06.NullSplits", spec := "nullSplits", unfollowed := true, recurses := true, apart := false }
def NullSplitsSaid : Prop := nullSplitsRow.holds Try.pinned (OpenSpec.ofChange nullSplitsSpec)

/-- ITS FALSE NEIGHBOUR: 'it returns false'. Refute it at one input. -/
def nullSplitsWrong : ChangeSpec := { name := "nullSplits", fn := fun _ => fun
  | [d1, d2, d3] => { results := [.lit (.bool false)], args := [d1, d2, d3] }
  | _ => none }
def NullSplitsWrongFalsely : Prop := nullSplitsRow.holds Try.pinned (OpenSpec.ofChange nullSplitsWrong)

/-- 'astragallaw06.NullMore': WHATEVER THE INPUT: true; the input reads as it did. -/
def nullMoreSpec : ChangeSpec := { name := "nullMore", fn := fun _ => fun
  | [d1, d2] => { results := [.lit (.bool true)], args := [d1, d2] }
  | _ => none }
def nullMoreRow : OpenClaim := { program := "ytnndeogbncadbaa", sum := "1da38ac1e7b164e07e31ada83077aa12fa2c5acff8138e7b73f4282edccd3d51", func := "astragal/astragallaw06.NullMore", spec := "nullMore", unfollowed := true, recurses := true, apart := false }
def NullMoreSaid : Prop := nullMoreRow.holds Try.pinned (OpenSpec.ofChange nullMoreSpec)

/-- ITS FALSE NEIGHBOUR: 'it returns false'. Refute it at one input. -/
def nullMoreWrong : ChangeSpec := { name := "nullMore", fn := fun _ => fun
  | [d1, d2] => { results := [.lit (.bool false)], args := [d1, d2] }
  | _ => none }
def NullMoreWrongFalsely : Prop := nullMoreRow.holds Try.pinned (OpenSpec.ofChange nullMoreWrong)

/-- 'astragallaw01.BitsWidths': WHATEVER THE INPUT: true; the input reads as it did. -/
def bitsWidthsSpec : ChangeSpec := { name := "bitsWidths", fn := fun _ => fun
  | [d1, d2] => { results := [.lit (.bool true)], args := [d1, d2] }
  | _ => none }
def bitsWidthsRow : OpenClaim := { program := "ytnndeogbncadbaa", sum := "1da38ac1e7b164e07e31ada83077aa12fa2c5acff8138e7b73f4282edccd3d51", func := "astragal/astragallaw01.BitsWidths", spec := "bitsWidths", apart := false }
def BitsWidthsSaid : Prop := bitsWidthsRow.holds Try.pinned (OpenSpec.ofChange bitsWidthsSpec)

/-- ITS FALSE NEIGHBOUR: 'it returns false'. Refute it at one input. -/
def bitsWidthsWrong : ChangeSpec := { name := "bitsWidths", fn := fun _ => fun
  | [d1, d2] => { results := [.lit (.bool false)], args := [d1, d2] }
  | _ => none }
def BitsWidthsWrongFalsely : Prop := bitsWidthsRow.holds Try.pinned (OpenSpec.ofChange bitsWidthsWrong)

/-- 'astragallaw01.BitsNobody': WHATEVER THE INPUT: true; the input reads as it did. -/
def bitsNobodySpec : ChangeSpec := { name := "bitsNobody", fn := fun _ => fun
  | [d1, d2] => { results := [.lit (.bool true)], args := [d1, d2] }
  | _ => none }
def bitsNobodyRow : OpenClaim := { program := "ytnndeogbncadbaa", sum := "1da38ac1e7b164e07e31ada83077aa12fa2c5acff8138e7b73f4282edccd3d51", func := "astragal/astragallaw01.BitsNobody", spec := "bitsNobody", apart := false }
def BitsNobodySaid : Prop := bitsNobodyRow.holds Try.pinned (OpenSpec.ofChange bitsNobodySpec)

/-- ITS FALSE NEIGHBOUR: 'it returns false'. Refute it at one input. -/
def bitsNobodyWrong : ChangeSpec := { name := "bitsNobody", fn := fun _ => fun
  | [d1, d2] => { results := [.lit (.bool false)], args := [d1, d2] }
  | _ => none }
def BitsNobodyWrongFalsely : Prop := bitsNobodyRow.holds Try.pinned (OpenSpec.ofChange bitsNobodyWrong)

/-- 'astragallaw01.BitsPuts': WHATEVER THE INPUT: true; the input reads as it did. -/
def bitsPutsSpec : ChangeSpec := { name := "bitsPuts", fn := fun _ => fun
  | [d1, d2, d3] => { results := [.lit (.bool true)], args := [d1, d2, d3] }
  | _ => none }
def bitsPutsRow : OpenClaim := { program := "ytnndeogbncadbaa", sum := "1da38ac1e7b164e07e31ada83077aa12fa2c5acff8138e7b73f4282edccd3d51", func := "astragal/astragallaw01.BitsPuts", spec := "bitsPuts", apart := false }
def BitsPutsSaid : Prop := bitsPutsRow.holds Try.pinned (OpenSpec.ofChange bitsPutsSpec)

/-- ITS FALSE NEIGHBOUR: 'it returns false'. Refute it at one input. -/
def bitsPutsWrong : ChangeSpec := { name := "bitsPuts", fn := fun _ => fun
  | [d1, d2, d3] => { results := [.lit (.bool false)], args := [d1, d2, d3] }
  | _ => none }
def BitsPutsWrongFalsely : Prop := bitsPutsRow.holds Try.pinned (OpenSpec.ofChange bitsPutsWrong)

/-- 'astragallaw01.BitsTurns': WHATEVER THE INPUT: true; the input reads as it did. -/
def bitsTurnsSpec : ChangeSpec := { name := "bitsTurns", fn := fun _ => fun
  | [d] => { results := [.lit (.bool true)], args := [d] }
  | _ => none }
def bitsTurnsRow : OpenClaim := { program := "ytnndeogbncadbaa", sum := "1da38ac1e7b164e07e31ada83077aa12fa2c5acff8138e7b73f4282edccd3d51", func := "astragal/astragallaw01.BitsTurns", spec := "bitsTurns", apart := false }
def BitsTurnsSaid : Prop := bitsTurnsRow.holds Try.pinned (OpenSpec.ofChange bitsTurnsSpec)

/-- ITS FALSE NEIGHBOUR: 'it returns false'. Refute it at one input. -/
def bitsTurnsWrong : ChangeSpec := { name := "bitsTurns", fn := fun _ => fun
  | [d] => { results := [.lit (.bool false)], args := [d] }
  | _ => none }
def BitsTurnsWrongFalsely : Prop := bitsTurnsRow.holds Try.pinned (OpenSpec.ofChange bitsTurnsWrong)

/-- 'astragallaw01.BitsPacks': WHATEVER THE INPUT: true; the input reads as it did. -/
def bitsPacksSpec : ChangeSpec := { name := "bitsPacks", fn := fun _ => fun
  | [d1, d2, d3, d4] => { results := [.lit (.bool true)], args := [d1, d2, d3, d4] }
  | _ => none }
def bitsPacksRow : OpenClaim := { program := "ytnndeogbncadbaa", sum := "1da38ac1e7b164e07e31ada83077aa12fa2c5acff8138e7b73f4282edccd3d51", func := "astragal/astragallaw01.BitsPacks", spec := "bitsPacks", apart := false }
def BitsPacksSaid : Prop := bitsPacksRow.holds Try.pinned (OpenSpec.ofChange bitsPacksSpec)

/-- ITS FALSE NEIGHBOUR: 'it returns false'. Refute it at one input. -/
def bitsPacksWrong : ChangeSpec := { name := "bitsPacks", fn := fun _ => fun
  | [d1, d2, d3, d4] => { results := [.lit (.bool false)], args := [d1, d2, d3, d4] }
  | _ => none }
def BitsPacksWrongFalsely : Prop := bitsPacksRow.holds Try.pinned (OpenSpec.ofChange bitsPacksWrong)

/-- 'astragallaw01.BitsBack': WHATEVER THE INPUT: true; the input reads as it did. -/
def bitsBackSpec : ChangeSpec := { name := "bitsBack", fn := fun _ => fun
  | [d1, d2] => { results := [.lit (.bool true)], args := [d1, d2] }
  | _ => none }
def bitsBackRow : OpenClaim := { program := "ytnndeogbncadbaa", sum := "1da38ac1e7b164e07e31ada83077aa12fa2c5acff8138e7b73f4282edccd3d51", func := "astragal/astragallaw01.BitsBack", spec := "bitsBack", apart := false }
def BitsBackSaid : Prop := bitsBackRow.holds Try.pinned (OpenSpec.ofChange bitsBackSpec)

/-- ITS FALSE NEIGHBOUR: 'it returns false'. Refute it at one input. -/
def bitsBackWrong : ChangeSpec := { name := "bitsBack", fn := fun _ => fun
  | [d1, d2] => { results := [.lit (.bool false)], args := [d1, d2] }
  | _ => none }
def BitsBackWrongFalsely : Prop := bitsBackRow.holds Try.pinned (OpenSpec.ofChange bitsBackWrong)

/-- 'astragallaw01.BitsOnes': WHATEVER THE INPUT: true; the input reads as it did. -/
def bitsOnesSpec : ChangeSpec := { name := "bitsOnes", fn := fun _ => fun
  | [d1, d2, d3] => { results := [.lit (.bool true)], args := [d1, d2, d3] }
  | _ => none }
def bitsOnesRow : OpenClaim := { program := "ytnndeogbncadbaa", sum := "1da38ac1e7b164e07e31ada83077aa12fa2c5acff8138e7b73f4282edccd3d51", func := "astragal/astragallaw01.BitsOnes", spec := "bitsOnes", apart := false }
def BitsOnesSaid : Prop := bitsOnesRow.holds Try.pinned (OpenSpec.ofChange bitsOnesSpec)

/-- ITS FALSE NEIGHBOUR: 'it returns false'. Refute it at one input. -/
def bitsOnesWrong : ChangeSpec := { name := "bitsOnes", fn := fun _ => fun
  | [d1, d2, d3] => { results := [.lit (.bool false)], args := [d1, d2, d3] }
  | _ => none }
def BitsOnesWrongFalsely : Prop := bitsOnesRow.holds Try.pinned (OpenSpec.ofChange bitsOnesWrong)

/-- 'astragallaw06.NullBytes': WHATEVER THE INPUT: true; the input reads as it did. -/
def nullBytesSpec : ChangeSpec := { name := "nullBytes", fn := fun _ => fun
  | [d1, d2, d3] => { results := [.lit (.bool true)], args := [d1, d2, d3] }
  | _ => none }
def nullBytesRow : OpenClaim := { program := "ytnndeogbncadbaa", sum := "1da38ac1e7b164e07e31ada83077aa12fa2c5acff8138e7b73f4282edccd3d51", func := "astragal/astragallaw06.NullBytes", spec := "nullBytes", unfollowed := true, recurses := true, apart := false }
def NullBytesSaid : Prop := nullBytesRow.holds Try.pinned (OpenSpec.ofChange nullBytesSpec)

/-- ITS FALSE NEIGHBOUR: 'it returns false'. Refute it at one input. -/
def nullBytesWrong : ChangeSpec := { name := "nullBytes", fn := fun _ => fun
  | [d1, d2, d3] => { results := [.lit (.bool false)], args := [d1, d2, d3] }
  | _ => none }
def NullBytesWrongFalsely : Prop := nullBytesRow.holds Try.pinned (OpenSpec.ofChange nullBytesWrong)

/-- 'astragallaw06.NullBits': WHATEVER THE INPUT: true; the input reads as it did. -/
def nullBitsSpec : ChangeSpec := { name := "nullBits", fn := fun _ => fun
  | [d] => { results := [.lit (.bool true)], args := [d] }
  | _ => none }
def nullBitsRow : OpenClaim := { program := "ytnndeogbncadbaa", sum := "1da38ac1e7b164e07e31ada83077aa12fa2c5acff8138e7b73f4282edccd3d51", func := "astragal/astragallaw06.NullBits", spec := "nullBits", unfollowed := true, recurses := true, apart := false }
def NullBitsSaid : Prop := nullBitsRow.holds Try.pinned (OpenSpec.ofChange nullBitsSpec)

/-- ITS FALSE NEIGHBOUR: 'it returns false'. Refute it at one input. -/
def nullBitsWrong : ChangeSpec := { name := "nullBits", fn := fun _ => fun
  | [d] => { results := [.lit (.bool false)], args := [d] }
  | _ => none }
def NullBitsWrongFalsely : Prop := nullBitsRow.holds Try.pinned (OpenSpec.ofChange nullBitsWrong)

/-- 'astragallaw06.NullBack': WHATEVER THE INPUT: true; the input reads as it did. -/
def nullBackSpec : ChangeSpec := { name := "nullBack", fn := fun _ => fun
  | [d] => { results := [.lit (.bool true)], args := [d] }
  | _ => none }
def nullBackRow : OpenClaim := { program := "ytnndeogbncadbaa", sum := "1da38ac1e7b164e07e31ada83077aa12fa2c5acff8138e7b73f4282edccd3d51", func := "astragal/astragallaw06.NullBack", spec := "nullBack", unfollowed := true, recurses := true, apart := false }
def NullBackSaid : Prop := nullBackRow.holds Try.pinned (OpenSpec.ofChange nullBackSpec)

/-- ITS FALSE NEIGHBOUR: 'it returns false'. Refute it at one input. -/
def nullBackWrong : ChangeSpec := { name := "nullBack", fn := fun _ => fun
  | [d] => { results := [.lit (.bool false)], args := [d] }
  | _ => none }
def NullBackWrongFalsely : Prop := nullBackRow.holds Try.pinned (OpenSpec.ofChange nullBackWrong)

/- THE SECOND FORM. 'bulk': how many values and letters a reading holds, each counted each time it is reached (what is shared counts as often as it is met; a slice's spare places count too). A statement '..UptoSaid' is the law's where the arguments, and the package variables that the reading takes, are together of bulk at most 1048576: NARROWER than '..Said'. Prove '..Said' where nothing that the law and all that it calls make is longer than what came in: it says more and counts as full. Else prove '..UptoSaid'. A law counts once. -/
mutual
def uptoBulk {H : Type} : DataW H → Nat
  | .lit (.string bytes) => bytes.length + 1
  | .lit _ => 1
  | .nil => 1
  | .ptr d => uptoBulk d + 1
  | .slice elems spare => uptoBulkAll elems + uptoBulkAll spare + 1
  | .agg parts => uptoBulkAll parts + 1
  | .iface _ d => uptoBulk d + 1
  | .map entries => uptoBulkEntries entries + 1
  | .held _ => 1
def uptoBulkAll {H : Type} : List (DataW H) → Nat
  | [] => 0
  | d :: r => uptoBulk d + uptoBulkAll r
def uptoBulkEntries {H : Type} : List (Lit × DataW H) → Nat
  | [] => 0
  | x :: r => uptoBulkEntry x + uptoBulkEntries r
def uptoBulkEntry {H : Type} : Lit × DataW H → Nat
  | (.string bytes, d) => bytes.length + uptoBulk d + 1
  | (_, d) => uptoBulk d + 1
 end
def uptoSmall : (H : Type) → List (DataW H) → Bool := fun _ ds => decide (uptoBulkAll ds ≤ 1048576)
def OpenSpec.upto (s : _root_.Go.ChangeSpec) : _root_.Go.OpenSpec := { _root_.Go.OpenSpec.ofChange s with cond := some uptoSmall }

/-- 'astragallaw06.NullCounts', WHERE WHAT IT READS IS OF BULK AT MOST 1048576: true; the input reads as it did. -/
def nullCountsUptoRow : OpenClaim := { program := "ytnndeogbncadbaa", sum := "1da38ac1e7b164e07e31ada83077aa12fa2c5acff8138e7b73f4282edccd3d51", func := "astragal/astragallaw06.NullCounts", spec := "nullCounts", unfollowed := true, recurses := true, apart := false, narrowed := true }
def NullCountsUptoSaid : Prop := nullCountsUptoRow.holds Try.pinned (OpenSpec.upto nullCountsSpec)

/-- 'astragallaw06.NullSplits', WHERE WHAT IT READS IS OF BULK AT MOST 1048576: true; the input reads as it did. -/
def nullSplitsUptoRow : OpenClaim := { program := "ytnndeogbncadbaa", sum := "1da38ac1e7b164e07e31ada83077aa12fa2c5acff8138e7b73f4282edccd3d51", func := "astragal/astragallaw06.NullSplits", spec := "nullSplits", unfollowed := true, recurses := true, apart := false, narrowed := true }
def NullSplitsUptoSaid : Prop := nullSplitsUptoRow.holds Try.pinned (OpenSpec.upto nullSplitsSpec)

/-- 'astragallaw06.NullMore', WHERE WHAT IT READS IS OF BULK AT MOST 1048576: true; the input reads as it did. -/
def nullMoreUptoRow : OpenClaim := { program := "ytnndeogbncadbaa", sum := "1da38ac1e7b164e07e31ada83077aa12fa2c5acff8138e7b73f4282edccd3d51", func := "astragal/astragallaw06.NullMore", spec := "nullMore", unfollowed := true, recurses := true, apart := false, narrowed := true }
def NullMoreUptoSaid : Prop := nullMoreUptoRow.holds Try.pinned (OpenSpec.upto nullMoreSpec)

/-- 'astragallaw01.BitsWidths', WHERE WHAT IT READS IS OF BULK AT MOST 1048576: true; the input reads as it did. -/
def bitsWidthsUptoRow : OpenClaim := { program := "ytnndeogbncadbaa", sum := "1da38ac1e7b164e07e31ada83077aa12fa2c5acff8138e7b73f4282edccd3d51", func := "astragal/astragallaw01.BitsWidths", spec := "bitsWidths", apart := false, narrowed := true }
def BitsWidthsUptoSaid : Prop := bitsWidthsUptoRow.holds Try.pinned (OpenSpec.upto bitsWidthsSpec)

/-- 'astragallaw01.BitsNobody', WHERE WHAT IT READS IS OF BULK AT MOST 1048576: true; the input reads as it did. -/
def bitsNobodyUptoRow : OpenClaim := { program := "ytnndeogbncadbaa", sum := "1da38ac1e7b164e07e31ada83077aa12fa2c5acff8138e7b73f4282edccd3d51", func := "astragal/astragallaw01.BitsNobody", spec := "bitsNobody", apart := false, narrowed := true }
def BitsNobodyUptoSaid : Prop := bitsNobodyUptoRow.holds Try.pinned (OpenSpec.upto bitsNobodySpec)

/-- 'astragallaw01.BitsPuts', WHERE WHAT IT READS IS OF BULK AT MOST 1048576: true; the input reads as it did. -/
def bitsPutsUptoRow : OpenClaim := { program := "ytnndeogbncadbaa", sum := "1da38ac1e7b164e07e31ada83077aa12fa2c5acff8138e7b73f4282edccd3d51", func := "astragal/astragallaw01.BitsPuts", spec := "bitsPuts", apart := false, narrowed := true }
def BitsPutsUptoSaid : Prop := bitsPutsUptoRow.holds Try.pinned (OpenSpec.upto bitsPutsSpec)

/-- 'astragallaw01.BitsTurns', WHERE WHAT IT READS IS OF BULK AT MOST 1048576: true; the input reads as it did. -/
def bitsTurnsUptoRow : OpenClaim := { program := "ytnndeogbncadbaa", sum := "1da38ac1e7b164e07e31ada83077aa12fa2c5acff8138e7b73f4282edccd3d51", func := "astragal/astragallaw01.BitsTurns", spec := "bitsTurns", apart := false, narrowed := true }
def BitsTurnsUptoSaid : Prop := bitsTurnsUptoRow.holds Try.pinned (OpenSpec.upto bitsTurnsSpec)

/-- 'astragallaw01.BitsPacks', WHERE WHAT IT READS IS OF BULK AT MOST 1048576: true; the input reads as it did. -/
def bitsPacksUptoRow : OpenClaim := { program := "ytnndeogbncadbaa", sum := "1da38ac1e7b164e07e31ada83077aa12fa2c5acff8138e7b73f4282edccd3d51", func := "astragal/astragallaw01.BitsPacks", spec := "bitsPacks", apart := false, narrowed := true }
def BitsPacksUptoSaid : Prop := bitsPacksUptoRow.holds Try.pinned (OpenSpec.upto bitsPacksSpec)

/-- 'astragallaw01.BitsBack', WHERE WHAT IT READS IS OF BULK AT MOST 1048576: true; the input reads as it did. -/
def bitsBackUptoRow : OpenClaim := { program := "ytnndeogbncadbaa", sum := "1da38ac1e7b164e07e31ada83077aa12fa2c5acff8138e7b73f4282edccd3d51", func := "astragal/astragallaw01.BitsBack", spec := "bitsBack", apart := false, narrowed := true }
def BitsBackUptoSaid : Prop := bitsBackUptoRow.holds Try.pinned (OpenSpec.upto bitsBackSpec)

/-- 'astragallaw01.BitsOnes', WHERE WHAT IT READS IS OF BULK AT MOST 1048576: true; the input reads as it did. -/
def bitsOnesUptoRow : OpenClaim := { program := "ytnndeogbncadbaa", sum := "1da38ac1e7b164e07e31ada83077aa12fa2c5acff8138e7b73f4282edccd3d51", func := "astragal/astragallaw01.BitsOnes", spec := "bitsOnes", apart := false, narrowed := true }
def BitsOnesUptoSaid : Prop := bitsOnesUptoRow.holds Try.pinned (OpenSpec.upto bitsOnesSpec)

/-- 'astragallaw06.NullBytes', WHERE WHAT IT READS IS OF BULK AT MOST 1048576: true; the input reads as it did. -/
def nullBytesUptoRow : OpenClaim := { program := "ytnndeogbncadbaa", sum := "1da38ac1e7b164e07e31ada83077aa12fa2c5acff8138e7b73f4282edccd3d51", func := "astragal/astragallaw06.NullBytes", spec := "nullBytes", unfollowed := true, recurses := true, apart := false, narrowed := true }
def NullBytesUptoSaid : Prop := nullBytesUptoRow.holds Try.pinned (OpenSpec.upto nullBytesSpec)

/-- 'astragallaw06.NullBits', WHERE WHAT IT READS IS OF BULK AT MOST 1048576: true; the input reads as it did. -/
def nullBitsUptoRow : OpenClaim := { program := "ytnndeogbncadbaa", sum := "1da38ac1e7b164e07e31ada83077aa12fa2c5acff8138e7b73f4282edccd3d51", func := "astragal/astragallaw06.NullBits", spec := "nullBits", unfollowed := true, recurses := true, apart := false, narrowed := true }
def NullBitsUptoSaid : Prop := nullBitsUptoRow.holds Try.pinned (OpenSpec.upto nullBitsSpec)

/-- 'astragallaw06.NullBack', WHERE WHAT IT READS IS OF BULK AT MOST 1048576: true; the input reads as it did. -/
def nullBackUptoRow : OpenClaim := { program := "ytnndeogbncadbaa", sum := "1da38ac1e7b164e07e31ada83077aa12fa2c5acff8138e7b73f4282edccd3d51", func := "astragal/astragallaw06.NullBack", spec := "nullBack", unfollowed := true, recurses := true, apart := false, narrowed := true }
def NullBackUptoSaid : Prop := nullBackUptoRow.holds Try.pinned (OpenSpec.upto nullBackSpec)

end Rows
end Go.Proofs.Ytnndeogbncadbaa
