/-
  DERIVED. GIVEN WITH THE SEED: THE CARDS: each row of YtlhlcdjkacglnaaGreatDoorRows.lean that lists a variable, with what it lists TIED to the program's text (the seventh form; the later family's looks); each row that meets fmt, with fmt's text TOLD by the authors' own Lean function (tested against real Go, not proved from fmt's source: count such statements apart). THE CARD IS WHAT COUNTS. Prove the row's statement (the work); the ties are given (YtlhlcdjkacglnaaGreatDoorTie.lean); close each card by the builder's one call (the guide's Derived/Test/ToyasCard.lean, 'card_holds'). Laid BY PROGRAM, IN A SANDBOX (cutbox-door.mjs). By AI agents, Wed Nov 11 2026. No macro, syntax, notation, axiom, sorry.
-/
import Derived.Test.YtlhlcdjkacglnaaGreatDoorRows
import GoSem.ClaimSeven
namespace Go.Proofs.YtlhlcdjkacglnaaGreatDoor
namespace Rows

/-- THE TIED CARD OF 'lapstonelaw26.ClusterRefuses'. -/
def clusterRefusesCard : Claim7 := { stood := { row := clusterRefusesRow, standIns := [], harness := (true, "937c2e9ec5dac853def16f86db5a64cdf1433d8547e5313eb1dcb74952c747fd"), looks := true }, kinds := [], alts := [], laidByText := true, laidKinds := [.data, .data, .data, .data, .sentinel, .sentinel, .pinned], laidTests := true, laidLooks := .later }
def ClusterRefusesCardSaid : Prop := Claim7.holds Tryz.pinned (.plain (OpenSpec.ofChange clusterRefusesSpec)) clusterRefusesCard

/-- THE TIED CARD OF 'lapstonelaw26.ClusterSafe'. -/
def clusterSafeCard : Claim7 := { stood := { row := clusterSafeRow, standIns := [], harness := (true, "937c2e9ec5dac853def16f86db5a64cdf1433d8547e5313eb1dcb74952c747fd"), looks := true }, kinds := [], alts := [], laidByText := true, laidKinds := [.data, .data, .data, .data, .sentinel, .sentinel, .pinned], laidTests := true, laidLooks := .later }
def ClusterSafeCardSaid : Prop := Claim7.holds Tryz.pinned (.plain (OpenSpec.ofChange clusterSafeSpec)) clusterSafeCard

/-- THE TIED CARD OF 'lapstonelaw26.ClusterKeeps'. -/
def clusterKeepsCard : Claim7 := { stood := { row := clusterKeepsRow, standIns := [], harness := (true, "937c2e9ec5dac853def16f86db5a64cdf1433d8547e5313eb1dcb74952c747fd"), looks := true }, kinds := [], alts := [], laidByText := true, laidKinds := [.data, .data, .data, .data, .sentinel, .sentinel, .pinned], laidTests := true, laidLooks := .later }
def ClusterKeepsCardSaid : Prop := Claim7.holds Tryz.pinned (.plain (OpenSpec.ofChange clusterKeepsSpec)) clusterKeepsCard

/-- THE TIED CARD OF 'lapstonelaw26.ClusterReads'. -/
def clusterReadsCard : Claim7 := { stood := { row := clusterReadsRow, standIns := [], harness := (true, "937c2e9ec5dac853def16f86db5a64cdf1433d8547e5313eb1dcb74952c747fd"), looks := true }, kinds := [], alts := [], laidByText := true, laidKinds := [.data, .data, .data, .data, .sentinel, .sentinel, .pinned], laidTests := true, laidLooks := .later }
def ClusterReadsCardSaid : Prop := Claim7.holds Tryz.pinned (.plain (OpenSpec.ofChange clusterReadsSpec)) clusterReadsCard

/-- THE SECOND FORM's CARD OF 'lapstonelaw26.ClusterRefuses'. -/
def clusterRefusesUptoCard : Claim7 := { stood := { row := clusterRefusesUptoRow, standIns := [], harness := (true, "937c2e9ec5dac853def16f86db5a64cdf1433d8547e5313eb1dcb74952c747fd"), looks := true }, kinds := [], alts := [], laidByText := true, laidKinds := [.data, .data, .data, .data, .sentinel, .sentinel, .pinned], laidTests := true, laidLooks := .later }
def ClusterRefusesUptoCardSaid : Prop := Claim7.holds Tryz.pinned (.plain (OpenSpec.upto clusterRefusesSpec)) clusterRefusesUptoCard

/-- THE SECOND FORM's CARD OF 'lapstonelaw26.ClusterSafe'. -/
def clusterSafeUptoCard : Claim7 := { stood := { row := clusterSafeUptoRow, standIns := [], harness := (true, "937c2e9ec5dac853def16f86db5a64cdf1433d8547e5313eb1dcb74952c747fd"), looks := true }, kinds := [], alts := [], laidByText := true, laidKinds := [.data, .data, .data, .data, .sentinel, .sentinel, .pinned], laidTests := true, laidLooks := .later }
def ClusterSafeUptoCardSaid : Prop := Claim7.holds Tryz.pinned (.plain (OpenSpec.upto clusterSafeSpec)) clusterSafeUptoCard

/-- THE SECOND FORM's CARD OF 'lapstonelaw26.ClusterKeeps'. -/
def clusterKeepsUptoCard : Claim7 := { stood := { row := clusterKeepsUptoRow, standIns := [], harness := (true, "937c2e9ec5dac853def16f86db5a64cdf1433d8547e5313eb1dcb74952c747fd"), looks := true }, kinds := [], alts := [], laidByText := true, laidKinds := [.data, .data, .data, .data, .sentinel, .sentinel, .pinned], laidTests := true, laidLooks := .later }
def ClusterKeepsUptoCardSaid : Prop := Claim7.holds Tryz.pinned (.plain (OpenSpec.upto clusterKeepsSpec)) clusterKeepsUptoCard

/-- THE SECOND FORM's CARD OF 'lapstonelaw26.ClusterReads'. -/
def clusterReadsUptoCard : Claim7 := { stood := { row := clusterReadsUptoRow, standIns := [], harness := (true, "937c2e9ec5dac853def16f86db5a64cdf1433d8547e5313eb1dcb74952c747fd"), looks := true }, kinds := [], alts := [], laidByText := true, laidKinds := [.data, .data, .data, .data, .sentinel, .sentinel, .pinned], laidTests := true, laidLooks := .later }
def ClusterReadsUptoCardSaid : Prop := Claim7.holds Tryz.pinned (.plain (OpenSpec.upto clusterReadsSpec)) clusterReadsUptoCard
end Rows
end Go.Proofs.YtlhlcdjkacglnaaGreatDoor
