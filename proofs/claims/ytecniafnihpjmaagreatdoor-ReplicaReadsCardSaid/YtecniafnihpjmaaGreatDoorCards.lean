/-
  DERIVED. GIVEN WITH THE SEED: THE CARDS: each row of YtecniafnihpjmaaGreatDoorRows.lean that lists a variable, with what it lists TIED to the program's text (the seventh form; the later family's looks); each row that meets fmt, with fmt's text TOLD by the authors' own Lean function (tested against real Go, not proved from fmt's source: count such statements apart). THE CARD IS WHAT COUNTS. Prove the row's statement (the work); the ties are given (YtecniafnihpjmaaGreatDoorTie.lean); close each card by the builder's one call (the guide's Derived/Test/ToyasCard.lean, 'card_holds'). Laid BY PROGRAM, IN A SANDBOX (cutbox-door.mjs). By AI agents, Wed Nov 11 2026. No macro, syntax, notation, axiom, sorry.
-/
import Derived.Test.YtecniafnihpjmaaGreatDoorRows
import GoSem.ClaimSeven
namespace Go.Proofs.YtecniafnihpjmaaGreatDoor
namespace Rows

/-- THE TIED CARD OF 'lapstonelaw24.ReplicaRestores'. -/
def replicaRestoresCard : Claim7 := { stood := { row := replicaRestoresRow, standIns := [], harness := (true, "4e6ed875539c28a85b1025012411fa66e1e68c52998a7a7e8b46860f61cb99d2"), looks := true }, kinds := [], alts := [], laidByText := true, laidKinds := [.data, .data, .data, .data, .sentinel, .sentinel, .pinned], laidTests := true, laidLooks := .later }
def ReplicaRestoresCardSaid : Prop := Claim7.holds Tryz.pinned (.plain (OpenSpec.ofChange replicaRestoresSpec)) replicaRestoresCard

/-- THE TIED CARD OF 'lapstonelaw24.ReplicaChain'. -/
def replicaChainCard : Claim7 := { stood := { row := replicaChainRow, standIns := [], harness := (true, "4e6ed875539c28a85b1025012411fa66e1e68c52998a7a7e8b46860f61cb99d2"), looks := true }, kinds := [], alts := [], laidByText := true, laidKinds := [.data, .data, .data, .data, .sentinel, .sentinel, .pinned], laidTests := true, laidLooks := .later }
def ReplicaChainCardSaid : Prop := Claim7.holds Tryz.pinned (.plain (OpenSpec.ofChange replicaChainSpec)) replicaChainCard

/-- THE TIED CARD OF 'lapstonelaw24.ReplicaOnce'. -/
def replicaOnceCard : Claim7 := { stood := { row := replicaOnceRow, standIns := [], harness := (true, "4e6ed875539c28a85b1025012411fa66e1e68c52998a7a7e8b46860f61cb99d2"), looks := true }, kinds := [], alts := [], laidByText := true, laidKinds := [.data, .data, .data, .data, .sentinel, .sentinel, .pinned], laidTests := true, laidLooks := .later }
def ReplicaOnceCardSaid : Prop := Claim7.holds Tryz.pinned (.plain (OpenSpec.ofChange replicaOnceSpec)) replicaOnceCard

/-- THE TIED CARD OF 'lapstonelaw24.ReplicaGoes'. -/
def replicaGoesCard : Claim7 := { stood := { row := replicaGoesRow, standIns := [], harness := (true, "4e6ed875539c28a85b1025012411fa66e1e68c52998a7a7e8b46860f61cb99d2"), looks := true }, kinds := [], alts := [], laidByText := true, laidKinds := [.data, .data, .data, .data, .sentinel, .sentinel, .pinned], laidTests := true, laidLooks := .later }
def ReplicaGoesCardSaid : Prop := Claim7.holds Tryz.pinned (.plain (OpenSpec.ofChange replicaGoesSpec)) replicaGoesCard

/-- THE TIED CARD OF 'lapstonelaw24.ReplicaReads'. -/
def replicaReadsCard : Claim7 := { stood := { row := replicaReadsRow, standIns := [], harness := (true, "4e6ed875539c28a85b1025012411fa66e1e68c52998a7a7e8b46860f61cb99d2"), looks := true }, kinds := [], alts := [], laidByText := true, laidKinds := [.data, .data, .data, .data, .sentinel, .sentinel, .pinned], laidTests := true, laidLooks := .later }
def ReplicaReadsCardSaid : Prop := Claim7.holds Tryz.pinned (.plain (OpenSpec.ofChange replicaReadsSpec)) replicaReadsCard

/-- THE SECOND FORM's CARD OF 'lapstonelaw24.ReplicaRestores'. -/
def replicaRestoresUptoCard : Claim7 := { stood := { row := replicaRestoresUptoRow, standIns := [], harness := (true, "4e6ed875539c28a85b1025012411fa66e1e68c52998a7a7e8b46860f61cb99d2"), looks := true }, kinds := [], alts := [], laidByText := true, laidKinds := [.data, .data, .data, .data, .sentinel, .sentinel, .pinned], laidTests := true, laidLooks := .later }
def ReplicaRestoresUptoCardSaid : Prop := Claim7.holds Tryz.pinned (.plain (OpenSpec.upto replicaRestoresSpec)) replicaRestoresUptoCard

/-- THE SECOND FORM's CARD OF 'lapstonelaw24.ReplicaChain'. -/
def replicaChainUptoCard : Claim7 := { stood := { row := replicaChainUptoRow, standIns := [], harness := (true, "4e6ed875539c28a85b1025012411fa66e1e68c52998a7a7e8b46860f61cb99d2"), looks := true }, kinds := [], alts := [], laidByText := true, laidKinds := [.data, .data, .data, .data, .sentinel, .sentinel, .pinned], laidTests := true, laidLooks := .later }
def ReplicaChainUptoCardSaid : Prop := Claim7.holds Tryz.pinned (.plain (OpenSpec.upto replicaChainSpec)) replicaChainUptoCard

/-- THE SECOND FORM's CARD OF 'lapstonelaw24.ReplicaOnce'. -/
def replicaOnceUptoCard : Claim7 := { stood := { row := replicaOnceUptoRow, standIns := [], harness := (true, "4e6ed875539c28a85b1025012411fa66e1e68c52998a7a7e8b46860f61cb99d2"), looks := true }, kinds := [], alts := [], laidByText := true, laidKinds := [.data, .data, .data, .data, .sentinel, .sentinel, .pinned], laidTests := true, laidLooks := .later }
def ReplicaOnceUptoCardSaid : Prop := Claim7.holds Tryz.pinned (.plain (OpenSpec.upto replicaOnceSpec)) replicaOnceUptoCard

/-- THE SECOND FORM's CARD OF 'lapstonelaw24.ReplicaGoes'. -/
def replicaGoesUptoCard : Claim7 := { stood := { row := replicaGoesUptoRow, standIns := [], harness := (true, "4e6ed875539c28a85b1025012411fa66e1e68c52998a7a7e8b46860f61cb99d2"), looks := true }, kinds := [], alts := [], laidByText := true, laidKinds := [.data, .data, .data, .data, .sentinel, .sentinel, .pinned], laidTests := true, laidLooks := .later }
def ReplicaGoesUptoCardSaid : Prop := Claim7.holds Tryz.pinned (.plain (OpenSpec.upto replicaGoesSpec)) replicaGoesUptoCard

/-- THE SECOND FORM's CARD OF 'lapstonelaw24.ReplicaReads'. -/
def replicaReadsUptoCard : Claim7 := { stood := { row := replicaReadsUptoRow, standIns := [], harness := (true, "4e6ed875539c28a85b1025012411fa66e1e68c52998a7a7e8b46860f61cb99d2"), looks := true }, kinds := [], alts := [], laidByText := true, laidKinds := [.data, .data, .data, .data, .sentinel, .sentinel, .pinned], laidTests := true, laidLooks := .later }
def ReplicaReadsUptoCardSaid : Prop := Claim7.holds Tryz.pinned (.plain (OpenSpec.upto replicaReadsSpec)) replicaReadsUptoCard
end Rows
end Go.Proofs.YtecniafnihpjmaaGreatDoor
