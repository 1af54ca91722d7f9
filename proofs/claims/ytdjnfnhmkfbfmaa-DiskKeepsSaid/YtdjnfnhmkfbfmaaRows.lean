/-
  No cell of these rows narrows 'for every input' (looked for: loops, veiled, ifaces, maps, wideKeys, modest, calm, conditions, laid).
  DERIVED. THE GIVEN ROWS OF THIS SEAT. 9 by the template 'for every input the law returns true; each argument reads behind the call as it read before'; 0 by the template 'total and deterministic' (their statements: YtdjnfnhmkfbfmaaTotals.lean).
  GIVEN WITH THE SEED: the statements are not yours to turn. If you find one false, say at which input.
  Laid BY PROGRAM, IN A SANDBOX (cutbox-rows.mjs): the forced cells as the released guide's own fill.sh prints them over the translation f02b6453b8d69b06… (all of the seat's roots in one cut). By AI agents, Wed Nov 11 2026. No macro, syntax, notation, axiom, sorry.
-/
import Derived.Test.YtdjnfnhmkfbfmaaChecked
import GoSem.Claim
import GoSem.ClaimJoined
import GoSem.ClaimMapViews
import Derived.JoinedTies
import Derived.KernelRfl
namespace Go.Proofs.Ytdjnfnhmkfbfmaa
/- THE CELL 'sum', in the pinned program and in every row, IS THE sha256 OF THE DUMP (.gsa) THAT YtdjnfnhmkfbfmaaProg.lean LOADS. Nothing in Lean hashes anything: it is a label: what it is worth is what the hold of that sum in a sandbox is worth. -/
noncomputable def Try.pinned : Pinned := { name := "ytdjnfnhmkfbfmaa", sum := "f02b6453b8d69b06b68d717a72316f2316251c5559bae3128436078b51362a35", checked := Try.checked }
namespace Rows
def none {H : Type} : Left H := { results := [], args := [] }

/-- 'lapstonelaw11.CacheLeast': WHATEVER THE INPUT: true; the input reads as it did. -/
def cacheLeastSpec : ChangeSpec := { name := "cacheLeast", fn := fun _ => fun
  | [d1, d2] => { results := [.lit (.bool true)], args := [d1, d2] }
  | _ => none }
def cacheLeastRow : OpenClaim := { program := "ytdjnfnhmkfbfmaa", sum := "f02b6453b8d69b06b68d717a72316f2316251c5559bae3128436078b51362a35", func := "lapstone/lapstonelaw11.CacheLeast", spec := "cacheLeast", apart := false }
def CacheLeastSaid : Prop := cacheLeastRow.holds Try.pinned (OpenSpec.ofChange cacheLeastSpec)

/-- ITS FALSE NEIGHBOUR: 'it returns false'. Refute it at one input. -/
def cacheLeastWrong : ChangeSpec := { name := "cacheLeast", fn := fun _ => fun
  | [d1, d2] => { results := [.lit (.bool false)], args := [d1, d2] }
  | _ => none }
def CacheLeastWrongFalsely : Prop := cacheLeastRow.holds Try.pinned (OpenSpec.ofChange cacheLeastWrong)

/-- 'lapstonelaw16.VersionAts': WHATEVER THE INPUT: true; the input reads as it did. -/
def versionAtsSpec : ChangeSpec := { name := "versionAts", fn := fun _ => fun
  | [d1, d2] => { results := [.lit (.bool true)], args := [d1, d2] }
  | _ => none }
def versionAtsRow : OpenClaim := { program := "ytdjnfnhmkfbfmaa", sum := "f02b6453b8d69b06b68d717a72316f2316251c5559bae3128436078b51362a35", func := "lapstone/lapstonelaw16.VersionAts", spec := "versionAts", unfollowed := true, recurses := true, apart := false }
def VersionAtsSaid : Prop := versionAtsRow.holds Try.pinned (OpenSpec.ofChange versionAtsSpec)

/-- ITS FALSE NEIGHBOUR: 'it returns false'. Refute it at one input. -/
def versionAtsWrong : ChangeSpec := { name := "versionAts", fn := fun _ => fun
  | [d1, d2] => { results := [.lit (.bool false)], args := [d1, d2] }
  | _ => none }
def VersionAtsWrongFalsely : Prop := versionAtsRow.holds Try.pinned (OpenSpec.ofChange versionAtsWrong)

/-- 'lapstonelaw16.VersionLeast': WHATEVER THE INPUT: true; the input reads as it did. -/
def versionLeastSpec : ChangeSpec := { name := "versionLeast", fn := fun _ => fun
  | [d1, d2] => { results := [.lit (.bool true)], args := [d1, d2] }
  | _ => none }
def versionLeastRow : OpenClaim := { program := "ytdjnfnhmkfbfmaa", sum := "f02b6453b8d69b06b68d717a72316f2316251c5559bae3128436078b51362a35", func := "lapstone/lapstonelaw16.VersionLeast", spec := "versionLeast", unfollowed := true, recurses := true, apart := false }
def VersionLeastSaid : Prop := versionLeastRow.holds Try.pinned (OpenSpec.ofChange versionLeastSpec)

/-- ITS FALSE NEIGHBOUR: 'it returns false'. Refute it at one input. -/
def versionLeastWrong : ChangeSpec := { name := "versionLeast", fn := fun _ => fun
  | [d1, d2] => { results := [.lit (.bool false)], args := [d1, d2] }
  | _ => none }
def VersionLeastWrongFalsely : Prop := versionLeastRow.holds Try.pinned (OpenSpec.ofChange versionLeastWrong)

/-- 'lapstonelaw16.VersionGoes': WHATEVER THE INPUT: true; the input reads as it did. -/
def versionGoesSpec : ChangeSpec := { name := "versionGoes", fn := fun _ => fun
  | [d1, d2, d3] => { results := [.lit (.bool true)], args := [d1, d2, d3] }
  | _ => none }
def versionGoesRow : OpenClaim := { program := "ytdjnfnhmkfbfmaa", sum := "f02b6453b8d69b06b68d717a72316f2316251c5559bae3128436078b51362a35", func := "lapstone/lapstonelaw16.VersionGoes", spec := "versionGoes", unfollowed := true, recurses := true, apart := false }
def VersionGoesSaid : Prop := versionGoesRow.holds Try.pinned (OpenSpec.ofChange versionGoesSpec)

/-- ITS FALSE NEIGHBOUR: 'it returns false'. Refute it at one input. -/
def versionGoesWrong : ChangeSpec := { name := "versionGoes", fn := fun _ => fun
  | [d1, d2, d3] => { results := [.lit (.bool false)], args := [d1, d2, d3] }
  | _ => none }
def VersionGoesWrongFalsely : Prop := versionGoesRow.holds Try.pinned (OpenSpec.ofChange versionGoesWrong)

/-- 'lapstonelaw16.VersionTrims': WHATEVER THE INPUT: true; the input reads as it did. -/
def versionTrimsSpec : ChangeSpec := { name := "versionTrims", fn := fun _ => fun
  | [d1, d2] => { results := [.lit (.bool true)], args := [d1, d2] }
  | _ => none }
def versionTrimsRow : OpenClaim := { program := "ytdjnfnhmkfbfmaa", sum := "f02b6453b8d69b06b68d717a72316f2316251c5559bae3128436078b51362a35", func := "lapstone/lapstonelaw16.VersionTrims", spec := "versionTrims", unfollowed := true, recurses := true, apart := false }
def VersionTrimsSaid : Prop := versionTrimsRow.holds Try.pinned (OpenSpec.ofChange versionTrimsSpec)

/-- ITS FALSE NEIGHBOUR: 'it returns false'. Refute it at one input. -/
def versionTrimsWrong : ChangeSpec := { name := "versionTrims", fn := fun _ => fun
  | [d1, d2] => { results := [.lit (.bool false)], args := [d1, d2] }
  | _ => none }
def VersionTrimsWrongFalsely : Prop := versionTrimsRow.holds Try.pinned (OpenSpec.ofChange versionTrimsWrong)

/-- 'lapstonelaw16.VersionUnseen': WHATEVER THE INPUT: true; the input reads as it did. -/
def versionUnseenSpec : ChangeSpec := { name := "versionUnseen", fn := fun _ => fun
  | [d1, d2, d3] => { results := [.lit (.bool true)], args := [d1, d2, d3] }
  | _ => none }
def versionUnseenRow : OpenClaim := { program := "ytdjnfnhmkfbfmaa", sum := "f02b6453b8d69b06b68d717a72316f2316251c5559bae3128436078b51362a35", func := "lapstone/lapstonelaw16.VersionUnseen", spec := "versionUnseen", unfollowed := true, recurses := true, apart := false }
def VersionUnseenSaid : Prop := versionUnseenRow.holds Try.pinned (OpenSpec.ofChange versionUnseenSpec)

/-- ITS FALSE NEIGHBOUR: 'it returns false'. Refute it at one input. -/
def versionUnseenWrong : ChangeSpec := { name := "versionUnseen", fn := fun _ => fun
  | [d1, d2, d3] => { results := [.lit (.bool false)], args := [d1, d2, d3] }
  | _ => none }
def VersionUnseenWrongFalsely : Prop := versionUnseenRow.holds Try.pinned (OpenSpec.ofChange versionUnseenWrong)

/-- 'lapstonelaw16.VersionChecks': WHATEVER THE INPUT: true; the input reads as it did. -/
def versionChecksSpec : ChangeSpec := { name := "versionChecks", fn := fun _ => fun
  | [d1, d2] => { results := [.lit (.bool true)], args := [d1, d2] }
  | _ => none }
def versionChecksRow : OpenClaim := { program := "ytdjnfnhmkfbfmaa", sum := "f02b6453b8d69b06b68d717a72316f2316251c5559bae3128436078b51362a35", func := "lapstone/lapstonelaw16.VersionChecks", spec := "versionChecks", unfollowed := true, recurses := true, apart := false }
def VersionChecksSaid : Prop := versionChecksRow.holds Try.pinned (OpenSpec.ofChange versionChecksSpec)

/-- ITS FALSE NEIGHBOUR: 'it returns false'. Refute it at one input. -/
def versionChecksWrong : ChangeSpec := { name := "versionChecks", fn := fun _ => fun
  | [d1, d2] => { results := [.lit (.bool false)], args := [d1, d2] }
  | _ => none }
def VersionChecksWrongFalsely : Prop := versionChecksRow.holds Try.pinned (OpenSpec.ofChange versionChecksWrong)

/-- 'lapstonelaw06.DiskKeeps': WHATEVER THE INPUT: true; the input reads as it did. -/
def diskKeepsSpec : ChangeSpec := { name := "diskKeeps", fn := fun _ => fun
  | [d1, d2, d3] => { results := [.lit (.bool true)], args := [d1, d2, d3] }
  | _ => none }
def diskKeepsRow : OpenClaim := { program := "ytdjnfnhmkfbfmaa", sum := "f02b6453b8d69b06b68d717a72316f2316251c5559bae3128436078b51362a35", func := "lapstone/lapstonelaw06.DiskKeeps", spec := "diskKeeps", unfollowed := true, recurses := true, apart := false }
def DiskKeepsSaid : Prop := diskKeepsRow.holds Try.pinned (OpenSpec.ofChange diskKeepsSpec)

/-- ITS FALSE NEIGHBOUR: 'it returns false'. Refute it at one input. -/
def diskKeepsWrong : ChangeSpec := { name := "diskKeeps", fn := fun _ => fun
  | [d1, d2, d3] => { results := [.lit (.bool false)], args := [d1, d2, d3] }
  | _ => none }
def DiskKeepsWrongFalsely : Prop := diskKeepsRow.holds Try.pinned (OpenSpec.ofChange diskKeepsWrong)

/-- 'lapstonelaw06.DiskLeaves': WHATEVER THE INPUT: true; the input reads as it did. -/
def diskLeavesSpec : ChangeSpec := { name := "diskLeaves", fn := fun _ => fun
  | [d1, d2] => { results := [.lit (.bool true)], args := [d1, d2] }
  | _ => none }
def diskLeavesRow : OpenClaim := { program := "ytdjnfnhmkfbfmaa", sum := "f02b6453b8d69b06b68d717a72316f2316251c5559bae3128436078b51362a35", func := "lapstone/lapstonelaw06.DiskLeaves", spec := "diskLeaves", unfollowed := true, recurses := true, apart := false }
def DiskLeavesSaid : Prop := diskLeavesRow.holds Try.pinned (OpenSpec.ofChange diskLeavesSpec)

/-- ITS FALSE NEIGHBOUR: 'it returns false'. Refute it at one input. -/
def diskLeavesWrong : ChangeSpec := { name := "diskLeaves", fn := fun _ => fun
  | [d1, d2] => { results := [.lit (.bool false)], args := [d1, d2] }
  | _ => none }
def DiskLeavesWrongFalsely : Prop := diskLeavesRow.holds Try.pinned (OpenSpec.ofChange diskLeavesWrong)

/- THE SECOND FORM. 'bulk': how many values and letters a reading holds, each counted each time it is reached (what is shared counts as often as it is met; a slice's spare places count too). A statement '..UptoSaid' is the law's where the arguments, and the package variables that the reading takes, are together of bulk at most 1048576: NARROWER than '..Said'. Prove '..Said' where nothing that the law and all that it calls make is longer than what came in: it says more and counts as full. Else prove '..UptoSaid'. A law counts once. -/
mutual
def uptoBulk {H : Type} : DataW H → Nat
  | .lit (.string bytes) => bytes.length + 1
  | .lit _ => 1
  | .nil => 1
  | .ptr d => uptoBulk d + 1
  | .slice elems spare => uptoBulkAll elems + uptoBulkAll spare + 1
  | .agg parts => uptoBulkAll parts + 1
  | .iface _ d => uptoBulk d + 1
  | .map entries => uptoBulkEntries entries + 1
  | .held _ => 1
def uptoBulkAll {H : Type} : List (DataW H) → Nat
  | [] => 0
  | d :: r => uptoBulk d + uptoBulkAll r
def uptoBulkEntries {H : Type} : List (Lit × DataW H) → Nat
  | [] => 0
  | x :: r => uptoBulkEntry x + uptoBulkEntries r
def uptoBulkEntry {H : Type} : Lit × DataW H → Nat
  | (.string bytes, d) => bytes.length + uptoBulk d + 1
  | (_, d) => uptoBulk d + 1
 end
def uptoSmall : (H : Type) → List (DataW H) → Bool := fun _ ds => decide (uptoBulkAll ds ≤ 1048576)
def OpenSpec.upto (s : _root_.Go.ChangeSpec) : _root_.Go.OpenSpec := { _root_.Go.OpenSpec.ofChange s with cond := some uptoSmall }

/-- 'lapstonelaw11.CacheLeast', WHERE WHAT IT READS IS OF BULK AT MOST 1048576: true; the input reads as it did. -/
def cacheLeastUptoRow : OpenClaim := { program := "ytdjnfnhmkfbfmaa", sum := "f02b6453b8d69b06b68d717a72316f2316251c5559bae3128436078b51362a35", func := "lapstone/lapstonelaw11.CacheLeast", spec := "cacheLeast", apart := false, narrowed := true }
def CacheLeastUptoSaid : Prop := cacheLeastUptoRow.holds Try.pinned (OpenSpec.upto cacheLeastSpec)

/-- 'lapstonelaw16.VersionAts', WHERE WHAT IT READS IS OF BULK AT MOST 1048576: true; the input reads as it did. -/
def versionAtsUptoRow : OpenClaim := { program := "ytdjnfnhmkfbfmaa", sum := "f02b6453b8d69b06b68d717a72316f2316251c5559bae3128436078b51362a35", func := "lapstone/lapstonelaw16.VersionAts", spec := "versionAts", unfollowed := true, recurses := true, apart := false, narrowed := true }
def VersionAtsUptoSaid : Prop := versionAtsUptoRow.holds Try.pinned (OpenSpec.upto versionAtsSpec)

/-- 'lapstonelaw16.VersionLeast', WHERE WHAT IT READS IS OF BULK AT MOST 1048576: true; the input reads as it did. -/
def versionLeastUptoRow : OpenClaim := { program := "ytdjnfnhmkfbfmaa", sum := "f02b6453b8d69b06b68d717a72316f2316251c5559bae3128436078b51362a35", func := "lapstone/lapstonelaw16.VersionLeast", spec := "versionLeast", unfollowed := true, recurses := true, apart := false, narrowed := true }
def VersionLeastUptoSaid : Prop := versionLeastUptoRow.holds Try.pinned (OpenSpec.upto versionLeastSpec)

/-- 'lapstonelaw16.VersionGoes', WHERE WHAT IT READS IS OF BULK AT MOST 1048576: true; the input reads as it did. -/
def versionGoesUptoRow : OpenClaim := { program := "ytdjnfnhmkfbfmaa", sum := "f02b6453b8d69b06b68d717a72316f2316251c5559bae3128436078b51362a35", func := "lapstone/lapstonelaw16.VersionGoes", spec := "versionGoes", unfollowed := true, recurses := true, apart := false, narrowed := true }
def VersionGoesUptoSaid : Prop := versionGoesUptoRow.holds Try.pinned (OpenSpec.upto versionGoesSpec)

/-- 'lapstonelaw16.VersionTrims', WHERE WHAT IT READS IS OF BULK AT MOST 1048576: true; the input reads as it did. -/
def versionTrimsUptoRow : OpenClaim := { program := "ytdjnfnhmkfbfmaa", sum := "f02b6453b8d69b06b68d717a72316f2316251c5559bae3128436078b51362a35", func := "lapstone/lapstonelaw16.VersionTrims", spec := "versionTrims", unfollowed := true, recurses := true, apart := false, narrowed := true }
def VersionTrimsUptoSaid : Prop := versionTrimsUptoRow.holds Try.pinned (OpenSpec.upto versionTrimsSpec)

/-- 'lapstonelaw16.VersionUnseen', WHERE WHAT IT READS IS OF BULK AT MOST 1048576: true; the input reads as it did. -/
def versionUnseenUptoRow : OpenClaim := { program := "ytdjnfnhmkfbfmaa", sum := "f02b6453b8d69b06b68d717a72316f2316251c5559bae3128436078b51362a35", func := "lapstone/lapstonelaw16.VersionUnseen", spec := "versionUnseen", unfollowed := true, recurses := true, apart := false, narrowed := true }
def VersionUnseenUptoSaid : Prop := versionUnseenUptoRow.holds Try.pinned (OpenSpec.upto versionUnseenSpec)

/-- 'lapstonelaw16.VersionChecks', WHERE WHAT IT READS IS OF BULK AT MOST 1048576: true; the input reads as it did. -/
def versionChecksUptoRow : OpenClaim := { program := "ytdjnfnhmkfbfmaa", sum := "f02b6453b8d69b06b68d717a72316f2316251c5559bae3128436078b51362a35", func := "lapstone/lapstonelaw16.VersionChecks", spec := "versionChecks", unfollowed := true, recurses := true, apart := false, narrowed := true }
def VersionChecksUptoSaid : Prop := versionChecksUptoRow.holds Try.pinned (OpenSpec.upto versionChecksSpec)

/-- 'lapstonelaw06.DiskKeeps', WHERE WHAT IT READS IS OF BULK AT MOST 1048576: true; the input reads as it did. -/
def diskKeepsUptoRow : OpenClaim := { program := "ytdjnfnhmkfbfmaa", sum := "f02b6453b8d69b06b68d717a72316f2316251c5559bae3128436078b51362a35", func := "lapstone/lapstonelaw06.DiskKeeps", spec := "diskKeeps", unfollowed := true, recurses := true, apart := false, narrowed := true }
def DiskKeepsUptoSaid : Prop := diskKeepsUptoRow.holds Try.pinned (OpenSpec.upto diskKeepsSpec)

/-- 'lapstonelaw06.DiskLeaves', WHERE WHAT IT READS IS OF BULK AT MOST 1048576: true; the input reads as it did. -/
def diskLeavesUptoRow : OpenClaim := { program := "ytdjnfnhmkfbfmaa", sum := "f02b6453b8d69b06b68d717a72316f2316251c5559bae3128436078b51362a35", func := "lapstone/lapstonelaw06.DiskLeaves", spec := "diskLeaves", unfollowed := true, recurses := true, apart := false, narrowed := true }
def DiskLeavesUptoSaid : Prop := diskLeavesUptoRow.holds Try.pinned (OpenSpec.upto diskLeavesSpec)

end Rows
end Go.Proofs.Ytdjnfnhmkfbfmaa
