/-
  DERIVED. GIVEN WITH THE SEED: THE CARDS: each row of YtfdmmnajaebfeaaGreatDoorRows.lean that lists a variable, with what it lists TIED to the program's text (the seventh form; the later family's looks); each row that meets fmt, with fmt's text TOLD by the authors' own Lean function (tested against real Go, not proved from fmt's source: count such statements apart). THE CARD IS WHAT COUNTS. Prove the row's statement (the work); the ties are given (YtfdmmnajaebfeaaGreatDoorTie.lean); close each card by the builder's one call (the guide's Derived/Test/ToyasCard.lean, 'card_holds'). Laid BY PROGRAM, IN A SANDBOX (cutbox-door.mjs). By AI agents, Wed Nov 11 2026. No macro, syntax, notation, axiom, sorry.
-/
import Derived.Test.YtfdmmnajaebfeaaGreatDoorRows
import GoSem.ClaimSeven
namespace Go.Proofs.YtfdmmnajaebfeaaGreatDoor
namespace Rows

/-- THE TIED CARD OF 'castellanlaw21.TruthTables'. -/
def truthTablesCard : Claim7 := { stood := { row := truthTablesRow, standIns := [], harness := (true, "c53ad8e5a9dd8403876c3a341518665503d46260c5ec039f075db291053be582"), looks := true }, kinds := [], alts := [], laidByText := true, laidKinds := [.data, .data, .data, .data, .sentinel, .sentinel, .data, .pinned], laidTests := true, laidLooks := .later }
def TruthTablesCardSaid : Prop := Claim7.holds Tryz.pinned (.plain (OpenSpec.ofChange truthTablesSpec)) truthTablesCard

/-- THE TIED CARD OF 'castellanlaw21.TruthOfs'. -/
def truthOfsCard : Claim7 := { stood := { row := truthOfsRow, standIns := [], harness := (true, "c53ad8e5a9dd8403876c3a341518665503d46260c5ec039f075db291053be582"), looks := true }, kinds := [], alts := [], laidByText := true, laidKinds := [.data, .data, .data, .data, .sentinel, .sentinel, .data, .pinned], laidTests := true, laidLooks := .later }
def TruthOfsCardSaid : Prop := Claim7.holds Tryz.pinned (.plain (OpenSpec.ofChange truthOfsSpec)) truthOfsCard

/-- THE TIED CARD OF 'castellanlaw21.TruthLaws'. -/
def truthLawsCard : Claim7 := { stood := { row := truthLawsRow, standIns := [], harness := (true, "c53ad8e5a9dd8403876c3a341518665503d46260c5ec039f075db291053be582"), looks := true }, kinds := [], alts := [], laidByText := true, laidKinds := [.data, .data, .data, .data, .sentinel, .sentinel, .data, .pinned], laidTests := true, laidLooks := .later }
def TruthLawsCardSaid : Prop := Claim7.holds Tryz.pinned (.plain (OpenSpec.ofChange truthLawsSpec)) truthLawsCard

/-- THE TIED CARD OF 'castellanlaw21.TruthMore'. -/
def truthMoreCard : Claim7 := { stood := { row := truthMoreRow, standIns := [], harness := (true, "c53ad8e5a9dd8403876c3a341518665503d46260c5ec039f075db291053be582"), looks := true }, kinds := [], alts := [], laidByText := true, laidKinds := [.data, .data, .data, .data, .sentinel, .sentinel, .data, .pinned], laidTests := true, laidLooks := .later }
def TruthMoreCardSaid : Prop := Claim7.holds Tryz.pinned (.plain (OpenSpec.ofChange truthMoreSpec)) truthMoreCard

/-- THE TIED CARD OF 'castellanlaw21.TruthCovers'. -/
def truthCoversCard : Claim7 := { stood := { row := truthCoversRow, standIns := [], harness := (true, "c53ad8e5a9dd8403876c3a341518665503d46260c5ec039f075db291053be582"), looks := true }, kinds := [], alts := [], laidByText := true, laidKinds := [.data, .data, .data, .data, .sentinel, .sentinel, .data, .pinned], laidTests := true, laidLooks := .later }
def TruthCoversCardSaid : Prop := Claim7.holds Tryz.pinned (.plain (OpenSpec.ofChange truthCoversSpec)) truthCoversCard

/-- THE SECOND FORM's CARD OF 'castellanlaw21.TruthTables'. -/
def truthTablesUptoCard : Claim7 := { stood := { row := truthTablesUptoRow, standIns := [], harness := (true, "c53ad8e5a9dd8403876c3a341518665503d46260c5ec039f075db291053be582"), looks := true }, kinds := [], alts := [], laidByText := true, laidKinds := [.data, .data, .data, .data, .sentinel, .sentinel, .data, .pinned], laidTests := true, laidLooks := .later }
def TruthTablesUptoCardSaid : Prop := Claim7.holds Tryz.pinned (.plain (OpenSpec.upto truthTablesSpec)) truthTablesUptoCard

/-- THE SECOND FORM's CARD OF 'castellanlaw21.TruthOfs'. -/
def truthOfsUptoCard : Claim7 := { stood := { row := truthOfsUptoRow, standIns := [], harness := (true, "c53ad8e5a9dd8403876c3a341518665503d46260c5ec039f075db291053be582"), looks := true }, kinds := [], alts := [], laidByText := true, laidKinds := [.data, .data, .data, .data, .sentinel, .sentinel, .data, .pinned], laidTests := true, laidLooks := .later }
def TruthOfsUptoCardSaid : Prop := Claim7.holds Tryz.pinned (.plain (OpenSpec.upto truthOfsSpec)) truthOfsUptoCard

/-- THE SECOND FORM's CARD OF 'castellanlaw21.TruthLaws'. -/
def truthLawsUptoCard : Claim7 := { stood := { row := truthLawsUptoRow, standIns := [], harness := (true, "c53ad8e5a9dd8403876c3a341518665503d46260c5ec039f075db291053be582"), looks := true }, kinds := [], alts := [], laidByText := true, laidKinds := [.data, .data, .data, .data, .sentinel, .sentinel, .data, .pinned], laidTests := true, laidLooks := .later }
def TruthLawsUptoCardSaid : Prop := Claim7.holds Tryz.pinned (.plain (OpenSpec.upto truthLawsSpec)) truthLawsUptoCard

/-- THE SECOND FORM's CARD OF 'castellanlaw21.TruthMore'. -/
def truthMoreUptoCard : Claim7 := { stood := { row := truthMoreUptoRow, standIns := [], harness := (true, "c53ad8e5a9dd8403876c3a341518665503d46260c5ec039f075db291053be582"), looks := true }, kinds := [], alts := [], laidByText := true, laidKinds := [.data, .data, .data, .data, .sentinel, .sentinel, .data, .pinned], laidTests := true, laidLooks := .later }
def TruthMoreUptoCardSaid : Prop := Claim7.holds Tryz.pinned (.plain (OpenSpec.upto truthMoreSpec)) truthMoreUptoCard

/-- THE SECOND FORM's CARD OF 'castellanlaw21.TruthCovers'. -/
def truthCoversUptoCard : Claim7 := { stood := { row := truthCoversUptoRow, standIns := [], harness := (true, "c53ad8e5a9dd8403876c3a341518665503d46260c5ec039f075db291053be582"), looks := true }, kinds := [], alts := [], laidByText := true, laidKinds := [.data, .data, .data, .data, .sentinel, .sentinel, .data, .pinned], laidTests := true, laidLooks := .later }
def TruthCoversUptoCardSaid : Prop := Claim7.holds Tryz.pinned (.plain (OpenSpec.upto truthCoversSpec)) truthCoversUptoCard
end Rows
end Go.Proofs.YtfdmmnajaebfeaaGreatDoor
