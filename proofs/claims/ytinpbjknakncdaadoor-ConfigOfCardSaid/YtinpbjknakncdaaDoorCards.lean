/-
  DERIVED. GIVEN WITH THE SEED: THE CARDS: each row of YtinpbjknakncdaaDoorRows.lean that lists a variable, with what it lists TIED to the program's text (the seventh form; the later family's looks); each row that meets fmt, with fmt's text TOLD by the authors' own Lean function (tested against real Go, not proved from fmt's source: count such statements apart). THE CARD IS WHAT COUNTS. Prove the row's statement (the work); the ties are given (YtinpbjknakncdaaDoorTie.lean); close each card by the builder's one call (the guide's Derived/Test/ToyasCard.lean, 'card_holds'). Laid BY PROGRAM, IN A SANDBOX (cutbox-door.mjs). By AI agents, Wed Nov 11 2026. No macro, syntax, notation, axiom, sorry.
-/
import Derived.Test.YtinpbjknakncdaaDoorRows
import GoSem.ClaimSeven
namespace Go.Proofs.YtinpbjknakncdaaDoor
namespace Rows

/-- THE TIED CARD OF 'lapstonelaw23.ConfigChanges'. -/
def configChangesCard : Claim7 := { stood := { row := configChangesRow, standIns := [], harness := (true, "b52c77971d48de8abf2db28f3b7b6094e1c6a646a08e42d1952bc95716dac106"), looks := true }, kinds := [], alts := [], laidByText := true, laidKinds := [.data, .data, .data, .data, .sentinel, .sentinel, .pinned], laidTests := true, laidLooks := .later }
def ConfigChangesCardSaid : Prop := Claim7.holds Tryd.pinned (.plain (OpenSpec.ofChange configChangesSpec)) configChangesCard

/-- THE TIED CARD OF 'lapstonelaw23.ConfigFolds'. -/
def configFoldsCard : Claim7 := { stood := { row := configFoldsRow, standIns := [], harness := (true, "b52c77971d48de8abf2db28f3b7b6094e1c6a646a08e42d1952bc95716dac106"), looks := true }, kinds := [], alts := [], laidByText := true, laidKinds := [.data, .data, .data, .data, .sentinel, .sentinel, .pinned], laidTests := true, laidLooks := .later }
def ConfigFoldsCardSaid : Prop := Claim7.holds Tryd.pinned (.plain (OpenSpec.ofChange configFoldsSpec)) configFoldsCard

/-- THE TIED CARD OF 'lapstonelaw23.ConfigShows'. -/
def configShowsCard : Claim7 := { stood := { row := configShowsRow, standIns := [], harness := (true, "b52c77971d48de8abf2db28f3b7b6094e1c6a646a08e42d1952bc95716dac106"), looks := true }, kinds := [], alts := [], laidByText := true, laidKinds := [.data, .data, .data, .data, .sentinel, .sentinel, .pinned], laidTests := true, laidLooks := .later }
def ConfigShowsCardSaid : Prop := Claim7.holds Tryd.pinned (.plain (OpenSpec.ofChange configShowsSpec)) configShowsCard

/-- THE TIED CARD OF 'lapstonelaw23.ConfigOnce'. -/
def configOnceCard : Claim7 := { stood := { row := configOnceRow, standIns := [], harness := (true, "b52c77971d48de8abf2db28f3b7b6094e1c6a646a08e42d1952bc95716dac106"), looks := true }, kinds := [], alts := [], laidByText := true, laidKinds := [.data, .data, .data, .data, .sentinel, .sentinel, .pinned], laidTests := true, laidLooks := .later }
def ConfigOnceCardSaid : Prop := Claim7.holds Tryd.pinned (.plain (OpenSpec.ofChange configOnceSpec)) configOnceCard

/-- THE TIED CARD OF 'lapstonelaw23.ConfigRemoves'. -/
def configRemovesCard : Claim7 := { stood := { row := configRemovesRow, standIns := [], harness := (true, "b52c77971d48de8abf2db28f3b7b6094e1c6a646a08e42d1952bc95716dac106"), looks := true }, kinds := [], alts := [], laidByText := true, laidKinds := [.data, .data, .data, .data, .sentinel, .sentinel, .pinned], laidTests := true, laidLooks := .later }
def ConfigRemovesCardSaid : Prop := Claim7.holds Tryd.pinned (.plain (OpenSpec.ofChange configRemovesSpec)) configRemovesCard

/-- THE TIED CARD OF 'lapstonelaw23.ConfigPlaces'. -/
def configPlacesCard : Claim7 := { stood := { row := configPlacesRow, standIns := [], harness := (true, "b52c77971d48de8abf2db28f3b7b6094e1c6a646a08e42d1952bc95716dac106"), looks := true }, kinds := [], alts := [], laidByText := true, laidKinds := [.data, .data, .data, .data, .sentinel, .sentinel, .pinned], laidTests := true, laidLooks := .later }
def ConfigPlacesCardSaid : Prop := Claim7.holds Tryd.pinned (.plain (OpenSpec.ofChange configPlacesSpec)) configPlacesCard

/-- THE TIED CARD OF 'lapstonelaw23.ConfigOf'. -/
def configOfCard : Claim7 := { stood := { row := configOfRow, standIns := [], harness := (true, "b52c77971d48de8abf2db28f3b7b6094e1c6a646a08e42d1952bc95716dac106"), looks := true }, kinds := [], alts := [], laidByText := true, laidKinds := [.data, .data, .data, .data, .sentinel, .sentinel, .pinned], laidTests := true, laidLooks := .later }
def ConfigOfCardSaid : Prop := Claim7.holds Tryd.pinned (.plain (OpenSpec.ofChange configOfSpec)) configOfCard

/-- THE SECOND FORM's CARD OF 'lapstonelaw23.ConfigChanges'. -/
def configChangesUptoCard : Claim7 := { stood := { row := configChangesUptoRow, standIns := [], harness := (true, "b52c77971d48de8abf2db28f3b7b6094e1c6a646a08e42d1952bc95716dac106"), looks := true }, kinds := [], alts := [], laidByText := true, laidKinds := [.data, .data, .data, .data, .sentinel, .sentinel, .pinned], laidTests := true, laidLooks := .later }
def ConfigChangesUptoCardSaid : Prop := Claim7.holds Tryd.pinned (.plain (OpenSpec.upto configChangesSpec)) configChangesUptoCard

/-- THE SECOND FORM's CARD OF 'lapstonelaw23.ConfigFolds'. -/
def configFoldsUptoCard : Claim7 := { stood := { row := configFoldsUptoRow, standIns := [], harness := (true, "b52c77971d48de8abf2db28f3b7b6094e1c6a646a08e42d1952bc95716dac106"), looks := true }, kinds := [], alts := [], laidByText := true, laidKinds := [.data, .data, .data, .data, .sentinel, .sentinel, .pinned], laidTests := true, laidLooks := .later }
def ConfigFoldsUptoCardSaid : Prop := Claim7.holds Tryd.pinned (.plain (OpenSpec.upto configFoldsSpec)) configFoldsUptoCard

/-- THE SECOND FORM's CARD OF 'lapstonelaw23.ConfigShows'. -/
def configShowsUptoCard : Claim7 := { stood := { row := configShowsUptoRow, standIns := [], harness := (true, "b52c77971d48de8abf2db28f3b7b6094e1c6a646a08e42d1952bc95716dac106"), looks := true }, kinds := [], alts := [], laidByText := true, laidKinds := [.data, .data, .data, .data, .sentinel, .sentinel, .pinned], laidTests := true, laidLooks := .later }
def ConfigShowsUptoCardSaid : Prop := Claim7.holds Tryd.pinned (.plain (OpenSpec.upto configShowsSpec)) configShowsUptoCard

/-- THE SECOND FORM's CARD OF 'lapstonelaw23.ConfigOnce'. -/
def configOnceUptoCard : Claim7 := { stood := { row := configOnceUptoRow, standIns := [], harness := (true, "b52c77971d48de8abf2db28f3b7b6094e1c6a646a08e42d1952bc95716dac106"), looks := true }, kinds := [], alts := [], laidByText := true, laidKinds := [.data, .data, .data, .data, .sentinel, .sentinel, .pinned], laidTests := true, laidLooks := .later }
def ConfigOnceUptoCardSaid : Prop := Claim7.holds Tryd.pinned (.plain (OpenSpec.upto configOnceSpec)) configOnceUptoCard

/-- THE SECOND FORM's CARD OF 'lapstonelaw23.ConfigRemoves'. -/
def configRemovesUptoCard : Claim7 := { stood := { row := configRemovesUptoRow, standIns := [], harness := (true, "b52c77971d48de8abf2db28f3b7b6094e1c6a646a08e42d1952bc95716dac106"), looks := true }, kinds := [], alts := [], laidByText := true, laidKinds := [.data, .data, .data, .data, .sentinel, .sentinel, .pinned], laidTests := true, laidLooks := .later }
def ConfigRemovesUptoCardSaid : Prop := Claim7.holds Tryd.pinned (.plain (OpenSpec.upto configRemovesSpec)) configRemovesUptoCard

/-- THE SECOND FORM's CARD OF 'lapstonelaw23.ConfigPlaces'. -/
def configPlacesUptoCard : Claim7 := { stood := { row := configPlacesUptoRow, standIns := [], harness := (true, "b52c77971d48de8abf2db28f3b7b6094e1c6a646a08e42d1952bc95716dac106"), looks := true }, kinds := [], alts := [], laidByText := true, laidKinds := [.data, .data, .data, .data, .sentinel, .sentinel, .pinned], laidTests := true, laidLooks := .later }
def ConfigPlacesUptoCardSaid : Prop := Claim7.holds Tryd.pinned (.plain (OpenSpec.upto configPlacesSpec)) configPlacesUptoCard

/-- THE SECOND FORM's CARD OF 'lapstonelaw23.ConfigOf'. -/
def configOfUptoCard : Claim7 := { stood := { row := configOfUptoRow, standIns := [], harness := (true, "b52c77971d48de8abf2db28f3b7b6094e1c6a646a08e42d1952bc95716dac106"), looks := true }, kinds := [], alts := [], laidByText := true, laidKinds := [.data, .data, .data, .data, .sentinel, .sentinel, .pinned], laidTests := true, laidLooks := .later }
def ConfigOfUptoCardSaid : Prop := Claim7.holds Tryd.pinned (.plain (OpenSpec.upto configOfSpec)) configOfUptoCard
end Rows
end Go.Proofs.YtinpbjknakncdaaDoor
