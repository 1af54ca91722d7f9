/-
  No cell of these rows narrows 'for every input' (looked for: loops, veiled, ifaces, maps, wideKeys, modest, calm, conditions, laid).
  DERIVED. THE GIVEN ROWS OF THIS SEAT. 5 by the template 'for every input the law returns true; each argument reads behind the call as it read before'; 0 by the template 'total and deterministic' (their statements: YtghhcjpilcoblaaTotals.lean).
  GIVEN WITH THE SEED: the statements are not yours to turn. If you find one false, say at which input.
  Laid BY PROGRAM, IN A SANDBOX (cutbox-rows.mjs): the forced cells as the released guide's own fill.sh prints them over the translation 452e1a400daf2f1f… (all of the seat's roots in one cut). By AI agents, Wed Nov 11 2026. No macro, syntax, notation, axiom, sorry.
-/
import Derived.Test.YtghhcjpilcoblaaChecked
import GoSem.Claim
import GoSem.ClaimJoined
import GoSem.ClaimMapViews
import Derived.JoinedTies
import Derived.KernelRfl
namespace Go.Proofs.Ytghhcjpilcoblaa
/- THE CELL 'sum', in the pinned program and in every row, IS THE sha256 OF THE DUMP (.gsa) THAT YtghhcjpilcoblaaProg.lean LOADS. Nothing in Lean hashes anything: it is a label: what it is worth is what the hold of that sum in a sandbox is worth. -/
noncomputable def Try.pinned : Pinned := { name := "ytghhcjpilcoblaa", sum := "452e1a400daf2f1f5cc6a74ad606179bfa88e99b5e1df5d4676411e964748a91", checked := Try.checked }
namespace Rows
def none {H : Type} : Left H := { results := [], args := [] }

/-- 'lapstonelaw20.AcceptOne': WHATEVER THE INPUT: true; the input reads as it did. -/
def acceptOneSpec : ChangeSpec := { name := "acceptOne", fn := fun _ => fun
  | [d1, d2, d3] => { results := [.lit (.bool true)], args := [d1, d2, d3] }
  | _ => none }
def acceptOneRow : OpenClaim := { program := "ytghhcjpilcoblaa", sum := "452e1a400daf2f1f5cc6a74ad606179bfa88e99b5e1df5d4676411e964748a91", func := "lapstone/lapstonelaw20.AcceptOne", spec := "acceptOne", unfollowed := true, recurses := true, apart := false }
def AcceptOneSaid : Prop := acceptOneRow.holds Try.pinned (OpenSpec.ofChange acceptOneSpec)

/-- ITS FALSE NEIGHBOUR: 'it returns false'. Refute it at one input. -/
def acceptOneWrong : ChangeSpec := { name := "acceptOne", fn := fun _ => fun
  | [d1, d2, d3] => { results := [.lit (.bool false)], args := [d1, d2, d3] }
  | _ => none }
def AcceptOneWrongFalsely : Prop := acceptOneRow.holds Try.pinned (OpenSpec.ofChange acceptOneWrong)

/-- 'lapstonelaw22.DecreeQuiet': WHATEVER THE INPUT: true; the input reads as it did. -/
def decreeQuietSpec : ChangeSpec := { name := "decreeQuiet", fn := fun _ => fun
  | [d1, d2, d3] => { results := [.lit (.bool true)], args := [d1, d2, d3] }
  | _ => none }
def decreeQuietRow : OpenClaim := { program := "ytghhcjpilcoblaa", sum := "452e1a400daf2f1f5cc6a74ad606179bfa88e99b5e1df5d4676411e964748a91", func := "lapstone/lapstonelaw22.DecreeQuiet", spec := "decreeQuiet", unfollowed := true, recurses := true, apart := false }
def DecreeQuietSaid : Prop := decreeQuietRow.holds Try.pinned (OpenSpec.ofChange decreeQuietSpec)

/-- ITS FALSE NEIGHBOUR: 'it returns false'. Refute it at one input. -/
def decreeQuietWrong : ChangeSpec := { name := "decreeQuiet", fn := fun _ => fun
  | [d1, d2, d3] => { results := [.lit (.bool false)], args := [d1, d2, d3] }
  | _ => none }
def DecreeQuietWrongFalsely : Prop := decreeQuietRow.holds Try.pinned (OpenSpec.ofChange decreeQuietWrong)

/-- 'lapstonelaw22.DecreeSame': WHATEVER THE INPUT: true; the input reads as it did. -/
def decreeSameSpec : ChangeSpec := { name := "decreeSame", fn := fun _ => fun
  | [d1, d2] => { results := [.lit (.bool true)], args := [d1, d2] }
  | _ => none }
def decreeSameRow : OpenClaim := { program := "ytghhcjpilcoblaa", sum := "452e1a400daf2f1f5cc6a74ad606179bfa88e99b5e1df5d4676411e964748a91", func := "lapstone/lapstonelaw22.DecreeSame", spec := "decreeSame", unfollowed := true, recurses := true, apart := false }
def DecreeSameSaid : Prop := decreeSameRow.holds Try.pinned (OpenSpec.ofChange decreeSameSpec)

/-- ITS FALSE NEIGHBOUR: 'it returns false'. Refute it at one input. -/
def decreeSameWrong : ChangeSpec := { name := "decreeSame", fn := fun _ => fun
  | [d1, d2] => { results := [.lit (.bool false)], args := [d1, d2] }
  | _ => none }
def DecreeSameWrongFalsely : Prop := decreeSameRow.holds Try.pinned (OpenSpec.ofChange decreeSameWrong)

/-- 'lapstonelaw22.DecreeGoes': WHATEVER THE INPUT: true; the input reads as it did. -/
def decreeGoesSpec : ChangeSpec := { name := "decreeGoes", fn := fun _ => fun
  | [d1, d2, d3] => { results := [.lit (.bool true)], args := [d1, d2, d3] }
  | _ => none }
def decreeGoesRow : OpenClaim := { program := "ytghhcjpilcoblaa", sum := "452e1a400daf2f1f5cc6a74ad606179bfa88e99b5e1df5d4676411e964748a91", func := "lapstone/lapstonelaw22.DecreeGoes", spec := "decreeGoes", unfollowed := true, recurses := true, apart := false }
def DecreeGoesSaid : Prop := decreeGoesRow.holds Try.pinned (OpenSpec.ofChange decreeGoesSpec)

/-- ITS FALSE NEIGHBOUR: 'it returns false'. Refute it at one input. -/
def decreeGoesWrong : ChangeSpec := { name := "decreeGoes", fn := fun _ => fun
  | [d1, d2, d3] => { results := [.lit (.bool false)], args := [d1, d2, d3] }
  | _ => none }
def DecreeGoesWrongFalsely : Prop := decreeGoesRow.holds Try.pinned (OpenSpec.ofChange decreeGoesWrong)

/-- 'lapstonelaw22.DecreePackets': WHATEVER THE INPUT: true; the input reads as it did. -/
def decreePacketsSpec : ChangeSpec := { name := "decreePackets", fn := fun _ => fun
  | [d1, d2] => { results := [.lit (.bool true)], args := [d1, d2] }
  | _ => none }
def decreePacketsRow : OpenClaim := { program := "ytghhcjpilcoblaa", sum := "452e1a400daf2f1f5cc6a74ad606179bfa88e99b5e1df5d4676411e964748a91", func := "lapstone/lapstonelaw22.DecreePackets", spec := "decreePackets", unfollowed := true, recurses := true, apart := false }
def DecreePacketsSaid : Prop := decreePacketsRow.holds Try.pinned (OpenSpec.ofChange decreePacketsSpec)

/-- ITS FALSE NEIGHBOUR: 'it returns false'. Refute it at one input. -/
def decreePacketsWrong : ChangeSpec := { name := "decreePackets", fn := fun _ => fun
  | [d1, d2] => { results := [.lit (.bool false)], args := [d1, d2] }
  | _ => none }
def DecreePacketsWrongFalsely : Prop := decreePacketsRow.holds Try.pinned (OpenSpec.ofChange decreePacketsWrong)

/- THE SECOND FORM. 'bulk': how many values and letters a reading holds, each counted each time it is reached (what is shared counts as often as it is met; a slice's spare places count too). A statement '..UptoSaid' is the law's where the arguments, and the package variables that the reading takes, are together of bulk at most 1048576: NARROWER than '..Said'. Prove '..Said' where nothing that the law and all that it calls make is longer than what came in: it says more and counts as full. Else prove '..UptoSaid'. A law counts once. -/
mutual
def uptoBulk {H : Type} : DataW H → Nat
  | .lit (.string bytes) => bytes.length + 1
  | .lit _ => 1
  | .nil => 1
  | .ptr d => uptoBulk d + 1
  | .slice elems spare => uptoBulkAll elems + uptoBulkAll spare + 1
  | .agg parts => uptoBulkAll parts + 1
  | .iface _ d => uptoBulk d + 1
  | .map entries => uptoBulkEntries entries + 1
  | .held _ => 1
def uptoBulkAll {H : Type} : List (DataW H) → Nat
  | [] => 0
  | d :: r => uptoBulk d + uptoBulkAll r
def uptoBulkEntries {H : Type} : List (Lit × DataW H) → Nat
  | [] => 0
  | x :: r => uptoBulkEntry x + uptoBulkEntries r
def uptoBulkEntry {H : Type} : Lit × DataW H → Nat
  | (.string bytes, d) => bytes.length + uptoBulk d + 1
  | (_, d) => uptoBulk d + 1
 end
def uptoSmall : (H : Type) → List (DataW H) → Bool := fun _ ds => decide (uptoBulkAll ds ≤ 1048576)
def OpenSpec.upto (s : _root_.Go.ChangeSpec) : _root_.Go.OpenSpec := { _root_.Go.OpenSpec.ofChange s with cond := some uptoSmall }

/-- 'lapstonelaw20.AcceptOne', WHERE WHAT IT READS IS OF BULK AT MOST 1048576: true; the input reads as it did. -/
def acceptOneUptoRow : OpenClaim := { program := "ytghhcjpilcoblaa", sum := "452e1a400daf2f1f5cc6a74ad606179bfa88e99b5e1df5d4676411e964748a91", func := "lapstone/lapstonelaw20.AcceptOne", spec := "acceptOne", unfollowed := true, recurses := true, apart := false, narrowed := true }
def AcceptOneUptoSaid : Prop := acceptOneUptoRow.holds Try.pinned (OpenSpec.upto acceptOneSpec)

/-- 'lapstonelaw22.DecreeQuiet', WHERE WHAT IT READS IS OF BULK AT MOST 1048576: true; the input reads as it did. -/
def decreeQuietUptoRow : OpenClaim := { program := "ytghhcjpilcoblaa", sum := "452e1a400daf2f1f5cc6a74ad606179bfa88e99b5e1df5d4676411e964748a91", func := "lapstone/lapstonelaw22.DecreeQuiet", spec := "decreeQuiet", unfollowed := true, recurses := true, apart := false, narrowed := true }
def DecreeQuietUptoSaid : Prop := decreeQuietUptoRow.holds Try.pinned (OpenSpec.upto decreeQuietSpec)

/-- 'lapstonelaw22.DecreeSame', WHERE WHAT IT READS IS OF BULK AT MOST 1048576: true; the input reads as it did. -/
def decreeSameUptoRow : OpenClaim := { program := "ytghhcjpilcoblaa", sum := "452e1a400daf2f1f5cc6a74ad606179bfa88e99b5e1df5d4676411e964748a91", func := "lapstone/lapstonelaw22.DecreeSame", spec := "decreeSame", unfollowed := true, recurses := true, apart := false, narrowed := true }
def DecreeSameUptoSaid : Prop := decreeSameUptoRow.holds Try.pinned (OpenSpec.upto decreeSameSpec)

/-- 'lapstonelaw22.DecreeGoes', WHERE WHAT IT READS IS OF BULK AT MOST 1048576: true; the input reads as it did. -/
def decreeGoesUptoRow : OpenClaim := { program := "ytghhcjpilcoblaa", sum := "452e1a400daf2f1f5cc6a74ad606179bfa88e99b5e1df5d4676411e964748a91", func := "lapstone/lapstonelaw22.DecreeGoes", spec := "decreeGoes", unfollowed := true, recurses := true, apart := false, narrowed := true }
def DecreeGoesUptoSaid : Prop := decreeGoesUptoRow.holds Try.pinned (OpenSpec.upto decreeGoesSpec)

/-- 'lapstonelaw22.DecreePackets', WHERE WHAT IT READS IS OF BULK AT MOST 1048576: true; the input reads as it did. -/
def decreePacketsUptoRow : OpenClaim := { program := "ytghhcjpilcoblaa", sum := "452e1a400daf2f1f5cc6a74ad606179bfa88e99b5e1df5d4676411e964748a91", func := "lapstone/lapstonelaw22.DecreePackets", spec := "decreePackets", unfollowed := true, recurses := true, apart := false, narrowed := true }
def DecreePacketsUptoSaid : Prop := decreePacketsUptoRow.holds Try.pinned (OpenSpec.upto decreePacketsSpec)

end Rows
end Go.Proofs.Ytghhcjpilcoblaa
