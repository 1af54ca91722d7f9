/-
  No cell of these rows narrows 'for every input' (looked for: loops, veiled, ifaces, maps, wideKeys, modest, calm, conditions, laid).
  DERIVED. THE GIVEN ROWS OF THIS SEAT. 10 by the template 'for every input the law returns true; each argument reads behind the call as it read before'; 0 by the template 'total and deterministic' (their statements: YtnjifcgomkdhdaaTotals.lean).
  GIVEN WITH THE SEED: the statements are not yours to turn. If you find one false, say at which input.
  Laid BY PROGRAM, IN A SANDBOX (cutbox-rows.mjs): the forced cells as the released guide's own fill.sh prints them over the translation 0938f0d7687325f5… (all of the seat's roots in one cut). By AI agents, Wed Nov 11 2026. No macro, syntax, notation, axiom, sorry.
-/
import Derived.Test.YtnjifcgomkdhdaaChecked
import GoSem.Claim
import GoSem.ClaimJoined
import GoSem.ClaimMapViews
import Derived.JoinedTies
import Derived.KernelRfl
namespace Go.Proofs.Ytnjifcgomkdhdaa
/- THE CELL 'sum', in the pinned program and in every row, IS THE sha256 OF THE DUMP (.gsa) THAT YtnjifcgomkdhdaaProg.lean LOADS. Nothing in Lean hashes anything: it is a label: what it is worth is what the hold of that sum in a sandbox is worth. -/
noncomputable def Try.pinned : Pinned := { name := "ytnjifcgomkdhdaa", sum := "0938f0d7687325f556edd76bdb7155b8ce5addcaf0626f00b283eb8725ef71d3", checked := Try.checked }
namespace Rows
def none {H : Type} : Left H := { results := [], args := [] }

/-- 'lapstonelaw20.AcceptChooses': WHATEVER THE INPUT: true; the input reads as it did. -/
def acceptChoosesSpec : ChangeSpec := { name := "acceptChooses", fn := fun _ => fun
  | [d1, d2, d3] => { results := [.lit (.bool true)], args := [d1, d2, d3] }
  | _ => none }
def acceptChoosesRow : OpenClaim := { program := "ytnjifcgomkdhdaa", sum := "0938f0d7687325f556edd76bdb7155b8ce5addcaf0626f00b283eb8725ef71d3", func := "lapstone/lapstonelaw20.AcceptChooses", spec := "acceptChooses", unfollowed := true, recurses := true, apart := false }
def AcceptChoosesSaid : Prop := acceptChoosesRow.holds Try.pinned (OpenSpec.ofChange acceptChoosesSpec)

/-- ITS FALSE NEIGHBOUR: 'it returns false'. Refute it at one input. -/
def acceptChoosesWrong : ChangeSpec := { name := "acceptChooses", fn := fun _ => fun
  | [d1, d2, d3] => { results := [.lit (.bool false)], args := [d1, d2, d3] }
  | _ => none }
def AcceptChoosesWrongFalsely : Prop := acceptChoosesRow.holds Try.pinned (OpenSpec.ofChange acceptChoosesWrong)

/-- 'lapstonelaw20.AcceptLess': WHATEVER THE INPUT: true; the input reads as it did. -/
def acceptLessSpec : ChangeSpec := { name := "acceptLess", fn := fun _ => fun
  | [d1, d2, d3] => { results := [.lit (.bool true)], args := [d1, d2, d3] }
  | _ => none }
def acceptLessRow : OpenClaim := { program := "ytnjifcgomkdhdaa", sum := "0938f0d7687325f556edd76bdb7155b8ce5addcaf0626f00b283eb8725ef71d3", func := "lapstone/lapstonelaw20.AcceptLess", spec := "acceptLess", unfollowed := true, recurses := true, apart := false }
def AcceptLessSaid : Prop := acceptLessRow.holds Try.pinned (OpenSpec.ofChange acceptLessSpec)

/-- ITS FALSE NEIGHBOUR: 'it returns false'. Refute it at one input. -/
def acceptLessWrong : ChangeSpec := { name := "acceptLess", fn := fun _ => fun
  | [d1, d2, d3] => { results := [.lit (.bool false)], args := [d1, d2, d3] }
  | _ => none }
def AcceptLessWrongFalsely : Prop := acceptLessRow.holds Try.pinned (OpenSpec.ofChange acceptLessWrong)

/-- 'lapstonelaw20.AcceptPlays': WHATEVER THE INPUT: true; the input reads as it did. -/
def acceptPlaysSpec : ChangeSpec := { name := "acceptPlays", fn := fun _ => fun
  | [d] => { results := [.lit (.bool true)], args := [d] }
  | _ => none }
def acceptPlaysRow : OpenClaim := { program := "ytnjifcgomkdhdaa", sum := "0938f0d7687325f556edd76bdb7155b8ce5addcaf0626f00b283eb8725ef71d3", func := "lapstone/lapstonelaw20.AcceptPlays", spec := "acceptPlays", unfollowed := true, recurses := true, apart := false }
def AcceptPlaysSaid : Prop := acceptPlaysRow.holds Try.pinned (OpenSpec.ofChange acceptPlaysSpec)

/-- ITS FALSE NEIGHBOUR: 'it returns false'. Refute it at one input. -/
def acceptPlaysWrong : ChangeSpec := { name := "acceptPlays", fn := fun _ => fun
  | [d] => { results := [.lit (.bool false)], args := [d] }
  | _ => none }
def AcceptPlaysWrongFalsely : Prop := acceptPlaysRow.holds Try.pinned (OpenSpec.ofChange acceptPlaysWrong)

/-- 'lapstonelaw03.CodeWrites': WHATEVER THE INPUT: true; the input reads as it did. -/
def codeWritesSpec : ChangeSpec := { name := "codeWrites", fn := fun _ => fun
  | [d] => { results := [.lit (.bool true)], args := [d] }
  | _ => none }
def codeWritesRow : OpenClaim := { program := "ytnjifcgomkdhdaa", sum := "0938f0d7687325f556edd76bdb7155b8ce5addcaf0626f00b283eb8725ef71d3", func := "lapstone/lapstonelaw03.CodeWrites", spec := "codeWrites", unfollowed := true, recurses := true, apart := false }
def CodeWritesSaid : Prop := codeWritesRow.holds Try.pinned (OpenSpec.ofChange codeWritesSpec)

/-- ITS FALSE NEIGHBOUR: 'it returns false'. Refute it at one input. -/
def codeWritesWrong : ChangeSpec := { name := "codeWrites", fn := fun _ => fun
  | [d] => { results := [.lit (.bool false)], args := [d] }
  | _ => none }
def CodeWritesWrongFalsely : Prop := codeWritesRow.holds Try.pinned (OpenSpec.ofChange codeWritesWrong)

/-- 'lapstonelaw03.CodeReads': WHATEVER THE INPUT: true; the input reads as it did. -/
def codeReadsSpec : ChangeSpec := { name := "codeReads", fn := fun _ => fun
  | [d1, d2] => { results := [.lit (.bool true)], args := [d1, d2] }
  | _ => none }
def codeReadsRow : OpenClaim := { program := "ytnjifcgomkdhdaa", sum := "0938f0d7687325f556edd76bdb7155b8ce5addcaf0626f00b283eb8725ef71d3", func := "lapstone/lapstonelaw03.CodeReads", spec := "codeReads", unfollowed := true, recurses := true, apart := false }
def CodeReadsSaid : Prop := codeReadsRow.holds Try.pinned (OpenSpec.ofChange codeReadsSpec)

/-- ITS FALSE NEIGHBOUR: 'it returns false'. Refute it at one input. -/
def codeReadsWrong : ChangeSpec := { name := "codeReads", fn := fun _ => fun
  | [d1, d2] => { results := [.lit (.bool false)], args := [d1, d2] }
  | _ => none }
def CodeReadsWrongFalsely : Prop := codeReadsRow.holds Try.pinned (OpenSpec.ofChange codeReadsWrong)

/-- 'lapstonelaw03.CodeBack': WHATEVER THE INPUT: true; the input reads as it did. -/
def codeBackSpec : ChangeSpec := { name := "codeBack", fn := fun _ => fun
  | [d] => { results := [.lit (.bool true)], args := [d] }
  | _ => none }
def codeBackRow : OpenClaim := { program := "ytnjifcgomkdhdaa", sum := "0938f0d7687325f556edd76bdb7155b8ce5addcaf0626f00b283eb8725ef71d3", func := "lapstone/lapstonelaw03.CodeBack", spec := "codeBack", unfollowed := true, recurses := true, apart := false }
def CodeBackSaid : Prop := codeBackRow.holds Try.pinned (OpenSpec.ofChange codeBackSpec)

/-- ITS FALSE NEIGHBOUR: 'it returns false'. Refute it at one input. -/
def codeBackWrong : ChangeSpec := { name := "codeBack", fn := fun _ => fun
  | [d] => { results := [.lit (.bool false)], args := [d] }
  | _ => none }
def CodeBackWrongFalsely : Prop := codeBackRow.holds Try.pinned (OpenSpec.ofChange codeBackWrong)

/-- 'lapstonelaw03.CodeOne': WHATEVER THE INPUT: true; the input reads as it did. -/
def codeOneSpec : ChangeSpec := { name := "codeOne", fn := fun _ => fun
  | [d1, d2] => { results := [.lit (.bool true)], args := [d1, d2] }
  | _ => none }
def codeOneRow : OpenClaim := { program := "ytnjifcgomkdhdaa", sum := "0938f0d7687325f556edd76bdb7155b8ce5addcaf0626f00b283eb8725ef71d3", func := "lapstone/lapstonelaw03.CodeOne", spec := "codeOne", unfollowed := true, recurses := true, apart := false }
def CodeOneSaid : Prop := codeOneRow.holds Try.pinned (OpenSpec.ofChange codeOneSpec)

/-- ITS FALSE NEIGHBOUR: 'it returns false'. Refute it at one input. -/
def codeOneWrong : ChangeSpec := { name := "codeOne", fn := fun _ => fun
  | [d1, d2] => { results := [.lit (.bool false)], args := [d1, d2] }
  | _ => none }
def CodeOneWrongFalsely : Prop := codeOneRow.holds Try.pinned (OpenSpec.ofChange codeOneWrong)

/-- 'lapstonelaw03.CodeStays': WHATEVER THE INPUT: true; the input reads as it did. -/
def codeStaysSpec : ChangeSpec := { name := "codeStays", fn := fun _ => fun
  | [d1, d2, d3] => { results := [.lit (.bool true)], args := [d1, d2, d3] }
  | _ => none }
def codeStaysRow : OpenClaim := { program := "ytnjifcgomkdhdaa", sum := "0938f0d7687325f556edd76bdb7155b8ce5addcaf0626f00b283eb8725ef71d3", func := "lapstone/lapstonelaw03.CodeStays", spec := "codeStays", unfollowed := true, recurses := true, apart := false }
def CodeStaysSaid : Prop := codeStaysRow.holds Try.pinned (OpenSpec.ofChange codeStaysSpec)

/-- ITS FALSE NEIGHBOUR: 'it returns false'. Refute it at one input. -/
def codeStaysWrong : ChangeSpec := { name := "codeStays", fn := fun _ => fun
  | [d1, d2, d3] => { results := [.lit (.bool false)], args := [d1, d2, d3] }
  | _ => none }
def CodeStaysWrongFalsely : Prop := codeStaysRow.holds Try.pinned (OpenSpec.ofChange codeStaysWrong)

/-- 'lapstonelaw20.AcceptOne': WHATEVER THE INPUT: true; the input reads as it did. -/
def acceptOneSpec : ChangeSpec := { name := "acceptOne", fn := fun _ => fun
  | [d1, d2, d3] => { results := [.lit (.bool true)], args := [d1, d2, d3] }
  | _ => none }
def acceptOneRow : OpenClaim := { program := "ytnjifcgomkdhdaa", sum := "0938f0d7687325f556edd76bdb7155b8ce5addcaf0626f00b283eb8725ef71d3", func := "lapstone/lapstonelaw20.AcceptOne", spec := "acceptOne", unfollowed := true, recurses := true, apart := false }
def AcceptOneSaid : Prop := acceptOneRow.holds Try.pinned (OpenSpec.ofChange acceptOneSpec)

/-- ITS FALSE NEIGHBOUR: 'it returns false'. Refute it at one input. -/
def acceptOneWrong : ChangeSpec := { name := "acceptOne", fn := fun _ => fun
  | [d1, d2, d3] => { results := [.lit (.bool false)], args := [d1, d2, d3] }
  | _ => none }
def AcceptOneWrongFalsely : Prop := acceptOneRow.holds Try.pinned (OpenSpec.ofChange acceptOneWrong)

/-- 'lapstonelaw20.AcceptOf': WHATEVER THE INPUT: true; the input reads as it did. -/
def acceptOfSpec : ChangeSpec := { name := "acceptOf", fn := fun _ => fun
  | [d] => { results := [.lit (.bool true)], args := [d] }
  | _ => none }
def acceptOfRow : OpenClaim := { program := "ytnjifcgomkdhdaa", sum := "0938f0d7687325f556edd76bdb7155b8ce5addcaf0626f00b283eb8725ef71d3", func := "lapstone/lapstonelaw20.AcceptOf", spec := "acceptOf", unfollowed := true, recurses := true, apart := false }
def AcceptOfSaid : Prop := acceptOfRow.holds Try.pinned (OpenSpec.ofChange acceptOfSpec)

/-- ITS FALSE NEIGHBOUR: 'it returns false'. Refute it at one input. -/
def acceptOfWrong : ChangeSpec := { name := "acceptOf", fn := fun _ => fun
  | [d] => { results := [.lit (.bool false)], args := [d] }
  | _ => none }
def AcceptOfWrongFalsely : Prop := acceptOfRow.holds Try.pinned (OpenSpec.ofChange acceptOfWrong)

/- THE SECOND FORM. 'bulk': how many values and letters a reading holds, each counted each time it is reached (what is shared counts as often as it is met; a slice's spare places count too). A statement '..UptoSaid' is the law's where the arguments, and the package variables that the reading takes, are together of bulk at most 1048576: NARROWER than '..Said'. Prove '..Said' where nothing that the law and all that it calls make is longer than what came in: it says more and counts as full. Else prove '..UptoSaid'. A law counts once. -/
mutual
def uptoBulk {H : Type} : DataW H → Nat
  | .lit (.string bytes) => bytes.length + 1
  | .lit _ => 1
  | .nil => 1
  | .ptr d => uptoBulk d + 1
  | .slice elems spare => uptoBulkAll elems + uptoBulkAll spare + 1
  | .agg parts => uptoBulkAll parts + 1
  | .iface _ d => uptoBulk d + 1
  | .map entries => uptoBulkEntries entries + 1
  | .held _ => 1
def uptoBulkAll {H : Type} : List (DataW H) → Nat
  | [] => 0
  | d :: r => uptoBulk d + uptoBulkAll r
def uptoBulkEntries {H : Type} : List (Lit × DataW H) → Nat
  | [] => 0
  | x :: r => uptoBulkEntry x + uptoBulkEntries r
def uptoBulkEntry {H : Type} : Lit × DataW H → Nat
  | (.string bytes, d) => bytes.length + uptoBulk d + 1
  | (_, d) => uptoBulk d + 1
 end
def uptoSmall : (H : Type) → List (DataW H) → Bool := fun _ ds => decide (uptoBulkAll ds ≤ 1048576)
def OpenSpec.upto (s : _root_.Go.ChangeSpec) : _root_.Go.OpenSpec := { _root_.Go.OpenSpec.ofChange s with cond := some uptoSmall }

/-- 'lapstonelaw20.AcceptChooses', WHERE WHAT IT READS IS OF BULK AT MOST 1048576: true; the input reads as it did. -/
def acceptChoosesUptoRow : OpenClaim := { program := "ytnjifcgomkdhdaa", sum := "0938f0d7687325f556edd76bdb7155b8ce5addcaf0626f00b283eb8725ef71d3", func := "lapstone/lapstonelaw20.AcceptChooses", spec := "acceptChooses", unfollowed := true, recurses := true, apart := false, narrowed := true }
def AcceptChoosesUptoSaid : Prop := acceptChoosesUptoRow.holds Try.pinned (OpenSpec.upto acceptChoosesSpec)

/-- 'lapstonelaw20.AcceptLess', WHERE WHAT IT READS IS OF BULK AT MOST 1048576: true; the input reads as it did. -/
def acceptLessUptoRow : OpenClaim := { program := "ytnjifcgomkdhdaa", sum := "0938f0d7687325f556edd76bdb7155b8ce5addcaf0626f00b283eb8725ef71d3", func := "lapstone/lapstonelaw20.AcceptLess", spec := "acceptLess", unfollowed := true, recurses := true, apart := false, narrowed := true }
def AcceptLessUptoSaid : Prop := acceptLessUptoRow.holds Try.pinned (OpenSpec.upto acceptLessSpec)

/-- 'lapstonelaw20.AcceptPlays', WHERE WHAT IT READS IS OF BULK AT MOST 1048576: true; the input reads as it did. -/
def acceptPlaysUptoRow : OpenClaim := { program := "ytnjifcgomkdhdaa", sum := "0938f0d7687325f556edd76bdb7155b8ce5addcaf0626f00b283eb8725ef71d3", func := "lapstone/lapstonelaw20.AcceptPlays", spec := "acceptPlays", unfollowed := true, recurses := true, apart := false, narrowed := true }
def AcceptPlaysUptoSaid : Prop := acceptPlaysUptoRow.holds Try.pinned (OpenSpec.upto acceptPlaysSpec)

/-- 'lapstonelaw03.CodeWrites', WHERE WHAT IT READS IS OF BULK AT MOST 1048576: true; the input reads as it did. -/
def codeWritesUptoRow : OpenClaim := { program := "ytnjifcgomkdhdaa", sum := "0938f0d7687325f556edd76bdb7155b8ce5addcaf0626f00b283eb8725ef71d3", func := "lapstone/lapstonelaw03.CodeWrites", spec := "codeWrites", unfollowed := true, recurses := true, apart := false, narrowed := true }
def CodeWritesUptoSaid : Prop := codeWritesUptoRow.holds Try.pinned (OpenSpec.upto codeWritesSpec)

/-- 'lapstonelaw03.CodeReads', WHERE WHAT IT READS IS OF BULK AT MOST 1048576: true; the input reads as it did. -/
def codeReadsUptoRow : OpenClaim := { program := "ytnjifcgomkdhdaa", sum := "0938f0d7687325f556edd76bdb7155b8ce5addcaf0626f00b283eb8725ef71d3", func := "lapstone/lapstonelaw03.CodeReads", spec := "codeReads", unfollowed := true, recurses := true, apart := false, narrowed := true }
def CodeReadsUptoSaid : Prop := codeReadsUptoRow.holds Try.pinned (OpenSpec.upto codeReadsSpec)

/-- 'lapstonelaw03.CodeBack', WHERE WHAT IT READS IS OF BULK AT MOST 1048576: true; the input reads as it did. -/
def codeBackUptoRow : OpenClaim := { program := "ytnjifcgomkdhdaa", sum := "0938f0d7687325f556edd76bdb7155b8ce5addcaf0626f00b283eb8725ef71d3", func := "lapstone/lapstonelaw03.CodeBack", spec := "codeBack", unfollowed := true, recurses := true, apart := false, narrowed := true }
def CodeBackUptoSaid : Prop := codeBackUptoRow.holds Try.pinned (OpenSpec.upto codeBackSpec)

/-- 'lapstonelaw03.CodeOne', WHERE WHAT IT READS IS OF BULK AT MOST 1048576: true; the input reads as it did. -/
def codeOneUptoRow : OpenClaim := { program := "ytnjifcgomkdhdaa", sum := "0938f0d7687325f556edd76bdb7155b8ce5addcaf0626f00b283eb8725ef71d3", func := "lapstone/lapstonelaw03.CodeOne", spec := "codeOne", unfollowed := true, recurses := true, apart := false, narrowed := true }
def CodeOneUptoSaid : Prop := codeOneUptoRow.holds Try.pinned (OpenSpec.upto codeOneSpec)

/-- 'lapstonelaw03.CodeStays', WHERE WHAT IT READS IS OF BULK AT MOST 1048576: true; the input reads as it did. -/
def codeStaysUptoRow : OpenClaim := { program := "ytnjifcgomkdhdaa", sum := "0938f0d7687325f556edd76bdb7155b8ce5addcaf0626f00b283eb8725ef71d3", func := "lapstone/lapstonelaw03.CodeStays", spec := "codeStays", unfollowed := true, recurses := true, apart := false, narrowed := true }
def CodeStaysUptoSaid : Prop := codeStaysUptoRow.holds Try.pinned (OpenSpec.upto codeStaysSpec)

/-- 'lapstonelaw20.AcceptOne', WHERE WHAT IT READS IS OF BULK AT MOST 1048576: true; the input reads as it did. -/
def acceptOneUptoRow : OpenClaim := { program := "ytnjifcgomkdhdaa", sum := "0938f0d7687325f556edd76bdb7155b8ce5addcaf0626f00b283eb8725ef71d3", func := "lapstone/lapstonelaw20.AcceptOne", spec := "acceptOne", unfollowed := true, recurses := true, apart := false, narrowed := true }
def AcceptOneUptoSaid : Prop := acceptOneUptoRow.holds Try.pinned (OpenSpec.upto acceptOneSpec)

/-- 'lapstonelaw20.AcceptOf', WHERE WHAT IT READS IS OF BULK AT MOST 1048576: true; the input reads as it did. -/
def acceptOfUptoRow : OpenClaim := { program := "ytnjifcgomkdhdaa", sum := "0938f0d7687325f556edd76bdb7155b8ce5addcaf0626f00b283eb8725ef71d3", func := "lapstone/lapstonelaw20.AcceptOf", spec := "acceptOf", unfollowed := true, recurses := true, apart := false, narrowed := true }
def AcceptOfUptoSaid : Prop := acceptOfUptoRow.holds Try.pinned (OpenSpec.upto acceptOfSpec)

end Rows
end Go.Proofs.Ytnjifcgomkdhdaa
