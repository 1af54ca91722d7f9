/-
  No cell of these rows narrows 'for every input' (looked for: loops, veiled, ifaces, maps, wideKeys, modest, calm, conditions, laid).
  DERIVED. THE GIVEN ROWS OF THIS SEAT. 7 by the template 'for every input the law returns true; each argument reads behind the call as it read before'; 0 by the template 'total and deterministic' (their statements: YtdobingccipkkaaTotals.lean).
  GIVEN WITH THE SEED: the statements are not yours to turn. If you find one false, say at which input.
  Laid BY PROGRAM, IN A SANDBOX (cutbox-rows.mjs): the forced cells as the released guide's own fill.sh prints them over the translation d01ce404f317a5e0… (all of the seat's roots in one cut). By AI agents, Wed Nov 11 2026. No macro, syntax, notation, axiom, sorry.
-/
import Derived.Test.YtdobingccipkkaaChecked
import GoSem.Claim
import GoSem.ClaimJoined
import GoSem.ClaimMapViews
import Derived.JoinedTies
import Derived.KernelRfl
namespace Go.Proofs.Ytdobingccipkkaa
/- THE CELL 'sum', in the pinned program and in every row, IS THE sha256 OF THE DUMP (.gsa) THAT YtdobingccipkkaaProg.lean LOADS. Nothing in Lean hashes anything: it is a label: what it is worth is what the hold of that sum in a sandbox is worth. -/
noncomputable def Try.pinned : Pinned := { name := "ytdobingccipkkaa", sum := "d01ce404f317a5e0618ac04a817cf3f3015739fc454d83a4416c6e6e6086638c", checked := Try.checked }
namespace Rows
def none {H : Type} : Left H := { results := [], args := [] }

/-- 'lapstonelaw05.BatchChecks': WHATEVER THE INPUT: true; the input reads as it did. -/
def batchChecksSpec : ChangeSpec := { name := "batchChecks", fn := fun _ => fun
  | [d] => { results := [.lit (.bool true)], args := [d] }
  | _ => none }
def batchChecksRow : OpenClaim := { program := "ytdobingccipkkaa", sum := "d01ce404f317a5e0618ac04a817cf3f3015739fc454d83a4416c6e6e6086638c", func := "lapstone/lapstonelaw05.BatchChecks", spec := "batchChecks", unfollowed := true, recurses := true, apart := false }
def BatchChecksSaid : Prop := batchChecksRow.holds Try.pinned (OpenSpec.ofChange batchChecksSpec)

/-- ITS FALSE NEIGHBOUR: 'it returns false'. Refute it at one input. -/
def batchChecksWrong : ChangeSpec := { name := "batchChecks", fn := fun _ => fun
  | [d] => { results := [.lit (.bool false)], args := [d] }
  | _ => none }
def BatchChecksWrongFalsely : Prop := batchChecksRow.holds Try.pinned (OpenSpec.ofChange batchChecksWrong)

/-- 'lapstonelaw05.BatchPuts': WHATEVER THE INPUT: true; the input reads as it did. -/
def batchPutsSpec : ChangeSpec := { name := "batchPuts", fn := fun _ => fun
  | [d] => { results := [.lit (.bool true)], args := [d] }
  | _ => none }
def batchPutsRow : OpenClaim := { program := "ytdobingccipkkaa", sum := "d01ce404f317a5e0618ac04a817cf3f3015739fc454d83a4416c6e6e6086638c", func := "lapstone/lapstonelaw05.BatchPuts", spec := "batchPuts", unfollowed := true, recurses := true, apart := false }
def BatchPutsSaid : Prop := batchPutsRow.holds Try.pinned (OpenSpec.ofChange batchPutsSpec)

/-- ITS FALSE NEIGHBOUR: 'it returns false'. Refute it at one input. -/
def batchPutsWrong : ChangeSpec := { name := "batchPuts", fn := fun _ => fun
  | [d] => { results := [.lit (.bool false)], args := [d] }
  | _ => none }
def BatchPutsWrongFalsely : Prop := batchPutsRow.holds Try.pinned (OpenSpec.ofChange batchPutsWrong)

/-- 'lapstonelaw05.BatchGets': WHATEVER THE INPUT: true; the input reads as it did. -/
def batchGetsSpec : ChangeSpec := { name := "batchGets", fn := fun _ => fun
  | [d] => { results := [.lit (.bool true)], args := [d] }
  | _ => none }
def batchGetsRow : OpenClaim := { program := "ytdobingccipkkaa", sum := "d01ce404f317a5e0618ac04a817cf3f3015739fc454d83a4416c6e6e6086638c", func := "lapstone/lapstonelaw05.BatchGets", spec := "batchGets", unfollowed := true, recurses := true, apart := false }
def BatchGetsSaid : Prop := batchGetsRow.holds Try.pinned (OpenSpec.ofChange batchGetsSpec)

/-- ITS FALSE NEIGHBOUR: 'it returns false'. Refute it at one input. -/
def batchGetsWrong : ChangeSpec := { name := "batchGets", fn := fun _ => fun
  | [d] => { results := [.lit (.bool false)], args := [d] }
  | _ => none }
def BatchGetsWrongFalsely : Prop := batchGetsRow.holds Try.pinned (OpenSpec.ofChange batchGetsWrong)

/-- 'lapstonelaw05.BatchBack': WHATEVER THE INPUT: true; the input reads as it did. -/
def batchBackSpec : ChangeSpec := { name := "batchBack", fn := fun _ => fun
  | [d1, d2] => { results := [.lit (.bool true)], args := [d1, d2] }
  | _ => none }
def batchBackRow : OpenClaim := { program := "ytdobingccipkkaa", sum := "d01ce404f317a5e0618ac04a817cf3f3015739fc454d83a4416c6e6e6086638c", func := "lapstone/lapstonelaw05.BatchBack", spec := "batchBack", unfollowed := true, recurses := true, apart := false }
def BatchBackSaid : Prop := batchBackRow.holds Try.pinned (OpenSpec.ofChange batchBackSpec)

/-- ITS FALSE NEIGHBOUR: 'it returns false'. Refute it at one input. -/
def batchBackWrong : ChangeSpec := { name := "batchBack", fn := fun _ => fun
  | [d1, d2] => { results := [.lit (.bool false)], args := [d1, d2] }
  | _ => none }
def BatchBackWrongFalsely : Prop := batchBackRow.holds Try.pinned (OpenSpec.ofChange batchBackWrong)

/-- 'lapstonelaw05.BatchMeets': WHATEVER THE INPUT: true; the input reads as it did. -/
def batchMeetsSpec : ChangeSpec := { name := "batchMeets", fn := fun _ => fun
  | [d1, d2] => { results := [.lit (.bool true)], args := [d1, d2] }
  | _ => none }
def batchMeetsRow : OpenClaim := { program := "ytdobingccipkkaa", sum := "d01ce404f317a5e0618ac04a817cf3f3015739fc454d83a4416c6e6e6086638c", func := "lapstone/lapstonelaw05.BatchMeets", spec := "batchMeets", unfollowed := true, recurses := true, apart := false }
def BatchMeetsSaid : Prop := batchMeetsRow.holds Try.pinned (OpenSpec.ofChange batchMeetsSpec)

/-- ITS FALSE NEIGHBOUR: 'it returns false'. Refute it at one input. -/
def batchMeetsWrong : ChangeSpec := { name := "batchMeets", fn := fun _ => fun
  | [d1, d2] => { results := [.lit (.bool false)], args := [d1, d2] }
  | _ => none }
def BatchMeetsWrongFalsely : Prop := batchMeetsRow.holds Try.pinned (OpenSpec.ofChange batchMeetsWrong)

/-- 'lapstonelaw05.BatchFinds': WHATEVER THE INPUT: true; the input reads as it did. -/
def batchFindsSpec : ChangeSpec := { name := "batchFinds", fn := fun _ => fun
  | [d1, d2] => { results := [.lit (.bool true)], args := [d1, d2] }
  | _ => none }
def batchFindsRow : OpenClaim := { program := "ytdobingccipkkaa", sum := "d01ce404f317a5e0618ac04a817cf3f3015739fc454d83a4416c6e6e6086638c", func := "lapstone/lapstonelaw05.BatchFinds", spec := "batchFinds", unfollowed := true, recurses := true, apart := false }
def BatchFindsSaid : Prop := batchFindsRow.holds Try.pinned (OpenSpec.ofChange batchFindsSpec)

/-- ITS FALSE NEIGHBOUR: 'it returns false'. Refute it at one input. -/
def batchFindsWrong : ChangeSpec := { name := "batchFinds", fn := fun _ => fun
  | [d1, d2] => { results := [.lit (.bool false)], args := [d1, d2] }
  | _ => none }
def BatchFindsWrongFalsely : Prop := batchFindsRow.holds Try.pinned (OpenSpec.ofChange batchFindsWrong)

/-- 'lapstonelaw05.BatchSorts': WHATEVER THE INPUT: true; the input reads as it did. -/
def batchSortsSpec : ChangeSpec := { name := "batchSorts", fn := fun _ => fun
  | [d1, d2] => { results := [.lit (.bool true)], args := [d1, d2] }
  | _ => none }
def batchSortsRow : OpenClaim := { program := "ytdobingccipkkaa", sum := "d01ce404f317a5e0618ac04a817cf3f3015739fc454d83a4416c6e6e6086638c", func := "lapstone/lapstonelaw05.BatchSorts", spec := "batchSorts", unfollowed := true, recurses := true, apart := false }
def BatchSortsSaid : Prop := batchSortsRow.holds Try.pinned (OpenSpec.ofChange batchSortsSpec)

/-- ITS FALSE NEIGHBOUR: 'it returns false'. Refute it at one input. -/
def batchSortsWrong : ChangeSpec := { name := "batchSorts", fn := fun _ => fun
  | [d1, d2] => { results := [.lit (.bool false)], args := [d1, d2] }
  | _ => none }
def BatchSortsWrongFalsely : Prop := batchSortsRow.holds Try.pinned (OpenSpec.ofChange batchSortsWrong)

/- THE SECOND FORM. 'bulk': how many values and letters a reading holds, each counted each time it is reached (what is shared counts as often as it is met; a slice's spare places count too). A statement '..UptoSaid' is the law's where the arguments, and the package variables that the reading takes, are together of bulk at most 1048576: NARROWER than '..Said'. Prove '..Said' where nothing that the law and all that it calls make is longer than what came in: it says more and counts as full. Else prove '..UptoSaid'. A law counts once. -/
mutual
def uptoBulk {H : Type} : DataW H → Nat
  | .lit (.string bytes) => bytes.length + 1
  | .lit _ => 1
  | .nil => 1
  | .ptr d => uptoBulk d + 1
  | .slice elems spare => uptoBulkAll elems + uptoBulkAll spare + 1
  | .agg parts => uptoBulkAll parts + 1
  | .iface _ d => uptoBulk d + 1
  | .map entries => uptoBulkEntries entries + 1
  | .held _ => 1
def uptoBulkAll {H : Type} : List (DataW H) → Nat
  | [] => 0
  | d :: r => uptoBulk d + uptoBulkAll r
def uptoBulkEntries {H : Type} : List (Lit × DataW H) → Nat
  | [] => 0
  | x :: r => uptoBulkEntry x + uptoBulkEntries r
def uptoBulkEntry {H : Type} : Lit × DataW H → Nat
  | (.string bytes, d) => bytes.length + uptoBulk d + 1
  | (_, d) => uptoBulk d + 1
 end
def uptoSmall : (H : Type) → List (DataW H) → Bool := fun _ ds => decide (uptoBulkAll ds ≤ 1048576)
def OpenSpec.upto (s : _root_.Go.ChangeSpec) : _root_.Go.OpenSpec := { _root_.Go.OpenSpec.ofChange s with cond := some uptoSmall }

/-- 'lapstonelaw05.BatchChecks', WHERE WHAT IT READS IS OF BULK AT MOST 1048576: true; the input reads as it did. -/
def batchChecksUptoRow : OpenClaim := { program := "ytdobingccipkkaa", sum := "d01ce404f317a5e0618ac04a817cf3f3015739fc454d83a4416c6e6e6086638c", func := "lapstone/lapstonelaw05.BatchChecks", spec := "batchChecks", unfollowed := true, recurses := true, apart := false, narrowed := true }
def BatchChecksUptoSaid : Prop := batchChecksUptoRow.holds Try.pinned (OpenSpec.upto batchChecksSpec)

/-- 'lapstonelaw05.BatchPuts', WHERE WHAT IT READS IS OF BULK AT MOST 1048576: true; the input reads as it did. -/
def batchPutsUptoRow : OpenClaim := { program := "ytdobingccipkkaa", sum := "d01ce404f317a5e0618ac04a817cf3f3015739fc454d83a4416c6e6e6086638c", func := "lapstone/lapstonelaw05.BatchPuts", spec := "batchPuts", unfollowed := true, recurses := true, apart := false, narrowed := true }
def BatchPutsUptoSaid : Prop := batchPutsUptoRow.holds Try.pinned (OpenSpec.upto batchPutsSpec)

/-- 'lapstonelaw05.BatchGets', WHERE WHAT IT READS IS OF BULK AT MOST 1048576: true; the input reads as it did. -/
def batchGetsUptoRow : OpenClaim := { program := "ytdobingccipkkaa", sum := "d01ce404f317a5e0618ac04a817cf3f3015739fc454d83a4416c6e6e6086638c", func := "lapstone/lapstonelaw05.BatchGets", spec := "batchGets", unfollowed := true, recurses := true, apart := false, narrowed := true }
def BatchGetsUptoSaid : Prop := batchGetsUptoRow.holds Try.pinned (OpenSpec.upto batchGetsSpec)

/-- 'lapstonelaw05.BatchBack', WHERE WHAT IT READS IS OF BULK AT MOST 1048576: true; the input reads as it did. -/
def batchBackUptoRow : OpenClaim := { program := "ytdobingccipkkaa", sum := "d01ce404f317a5e0618ac04a817cf3f3015739fc454d83a4416c6e6e6086638c", func := "lapstone/lapstonelaw05.BatchBack", spec := "batchBack", unfollowed := true, recurses := true, apart := false, narrowed := true }
def BatchBackUptoSaid : Prop := batchBackUptoRow.holds Try.pinned (OpenSpec.upto batchBackSpec)

/-- 'lapstonelaw05.BatchMeets', WHERE WHAT IT READS IS OF BULK AT MOST 1048576: true; the input reads as it did. -/
def batchMeetsUptoRow : OpenClaim := { program := "ytdobingccipkkaa", sum := "d01ce404f317a5e0618ac04a817cf3f3015739fc454d83a4416c6e6e6086638c", func := "lapstone/lapstonelaw05.BatchMeets", spec := "batchMeets", unfollowed := true, recurses := true, apart := false, narrowed := true }
def BatchMeetsUptoSaid : Prop := batchMeetsUptoRow.holds Try.pinned (OpenSpec.upto batchMeetsSpec)

/-- 'lapstonelaw05.BatchFinds', WHERE WHAT IT READS IS OF BULK AT MOST 1048576: true; the input reads as it did. -/
def batchFindsUptoRow : OpenClaim := { program := "ytdobingccipkkaa", sum := "d01ce404f317a5e0618ac04a817cf3f3015739fc454d83a4416c6e6e6086638c", func := "lapstone/lapstonelaw05.BatchFinds", spec := "batchFinds", unfollowed := true, recurses := true, apart := false, narrowed := true }
def BatchFindsUptoSaid : Prop := batchFindsUptoRow.holds Try.pinned (OpenSpec.upto batchFindsSpec)

/-- 'lapstonelaw05.BatchSorts', WHERE WHAT IT READS IS OF BULK AT MOST 1048576: true; the input reads as it did. -/
def batchSortsUptoRow : OpenClaim := { program := "ytdobingccipkkaa", sum := "d01ce404f317a5e0618ac04a817cf3f3015739fc454d83a4416c6e6e6086638c", func := "lapstone/lapstonelaw05.BatchSorts", spec := "batchSorts", unfollowed := true, recurses := true, apart := false, narrowed := true }
def BatchSortsUptoSaid : Prop := batchSortsUptoRow.holds Try.pinned (OpenSpec.upto batchSortsSpec)

end Rows
end Go.Proofs.Ytdobingccipkkaa
