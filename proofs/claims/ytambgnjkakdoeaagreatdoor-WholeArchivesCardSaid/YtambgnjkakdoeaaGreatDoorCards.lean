/-
  DERIVED. GIVEN WITH THE SEED: THE CARDS: each row of YtambgnjkakdoeaaGreatDoorRows.lean that lists a variable, with what it lists TIED to the program's text (the seventh form; the later family's looks); each row that meets fmt, with fmt's text TOLD by the authors' own Lean function (tested against real Go, not proved from fmt's source: count such statements apart). THE CARD IS WHAT COUNTS. Prove the row's statement (the work); the ties are given (YtambgnjkakdoeaaGreatDoorTie.lean); close each card by the builder's one call (the guide's Derived/Test/ToyasCard.lean, 'card_holds'). Laid BY PROGRAM, IN A SANDBOX (cutbox-door.mjs). By AI agents, Wed Nov 11 2026. No macro, syntax, notation, axiom, sorry.
-/
import Derived.Test.YtambgnjkakdoeaaGreatDoorRows
import GoSem.ClaimSeven
namespace Go.Proofs.YtambgnjkakdoeaaGreatDoor
namespace Rows

/-- THE TIED CARD OF 'amphoralaw12.TarWrites'. -/
def tarWritesCard : Claim7 := { stood := { row := tarWritesRow, standIns := [], harness := (true, "9a27f009568e5a9d23452f5acf9f8ca070d2ce250d64b6051559486034a94d0c"), looks := true }, kinds := [], alts := [], laidByText := true, laidKinds := [.data, .data, .data, .data, .sentinel, .sentinel, .pinned], laidTests := true, laidLooks := .later }
def TarWritesCardSaid : Prop := Claim7.holds Tryz.pinned (.plain (OpenSpec.ofChange tarWritesSpec)) tarWritesCard

/-- THE TIED CARD OF 'amphoralaw12.TarReads'. -/
def tarReadsCard : Claim7 := { stood := { row := tarReadsRow, standIns := [], harness := (true, "9a27f009568e5a9d23452f5acf9f8ca070d2ce250d64b6051559486034a94d0c"), looks := true }, kinds := [], alts := [], laidByText := true, laidKinds := [.data, .data, .data, .data, .sentinel, .sentinel, .pinned], laidTests := true, laidLooks := .later }
def TarReadsCardSaid : Prop := Claim7.holds Tryz.pinned (.plain (OpenSpec.ofChange tarReadsSpec)) tarReadsCard

/-- THE TIED CARD OF 'amphoralaw12.TarPieces'. -/
def tarPiecesCard : Claim7 := { stood := { row := tarPiecesRow, standIns := [], harness := (true, "9a27f009568e5a9d23452f5acf9f8ca070d2ce250d64b6051559486034a94d0c"), looks := true }, kinds := [], alts := [], laidByText := true, laidKinds := [.data, .data, .data, .data, .sentinel, .sentinel, .pinned], laidTests := true, laidLooks := .later }
def TarPiecesCardSaid : Prop := Claim7.holds Tryz.pinned (.plain (OpenSpec.ofChange tarPiecesSpec)) tarPiecesCard

/-- THE TIED CARD OF 'amphoralaw12.TarNone'. -/
def tarNoneCard : Claim7 := { stood := { row := tarNoneRow, standIns := [], harness := (true, "9a27f009568e5a9d23452f5acf9f8ca070d2ce250d64b6051559486034a94d0c"), looks := true }, kinds := [], alts := [], laidByText := true, laidKinds := [.data, .data, .data, .data, .sentinel, .sentinel, .pinned], laidTests := true, laidLooks := .later }
def TarNoneCardSaid : Prop := Claim7.holds Tryz.pinned (.plain (OpenSpec.ofChange tarNoneSpec)) tarNoneCard

/-- THE TIED CARD OF 'amphoralaw12.TarForms'. -/
def tarFormsCard : Claim7 := { stood := { row := tarFormsRow, standIns := [], harness := (true, "9a27f009568e5a9d23452f5acf9f8ca070d2ce250d64b6051559486034a94d0c"), looks := true }, kinds := [], alts := [], laidByText := true, laidKinds := [.data, .data, .data, .data, .sentinel, .sentinel, .pinned], laidTests := true, laidLooks := .later }
def TarFormsCardSaid : Prop := Claim7.holds Tryz.pinned (.plain (OpenSpec.ofChange tarFormsSpec)) tarFormsCard

/-- THE TIED CARD OF 'amphoralaw12.TarBack'. -/
def tarBackCard : Claim7 := { stood := { row := tarBackRow, standIns := [], harness := (true, "9a27f009568e5a9d23452f5acf9f8ca070d2ce250d64b6051559486034a94d0c"), looks := true }, kinds := [], alts := [], laidByText := true, laidKinds := [.data, .data, .data, .data, .sentinel, .sentinel, .pinned], laidTests := true, laidLooks := .later }
def TarBackCardSaid : Prop := Claim7.holds Tryz.pinned (.plain (OpenSpec.ofChange tarBackSpec)) tarBackCard

/-- THE TIED CARD OF 'amphoratop.WholeStrangers'. -/
def wholeStrangersCard : Claim7 := { stood := { row := wholeStrangersRow, standIns := [], harness := (true, "9a27f009568e5a9d23452f5acf9f8ca070d2ce250d64b6051559486034a94d0c"), looks := true }, kinds := [], alts := [], laidByText := true, laidKinds := [.data, .data, .data, .data, .sentinel, .sentinel, .pinned], laidTests := true, laidLooks := .later }
def WholeStrangersCardSaid : Prop := Claim7.holds Tryz.pinned (.plain (OpenSpec.ofChange wholeStrangersSpec)) wholeStrangersCard

/-- THE TIED CARD OF 'amphoratop.WholeBlocks'. -/
def wholeBlocksCard : Claim7 := { stood := { row := wholeBlocksRow, standIns := [], harness := (true, "9a27f009568e5a9d23452f5acf9f8ca070d2ce250d64b6051559486034a94d0c"), looks := true }, kinds := [], alts := [], laidByText := true, laidKinds := [.data, .data, .data, .data, .sentinel, .sentinel, .pinned], laidTests := true, laidLooks := .later }
def WholeBlocksCardSaid : Prop := Claim7.holds Tryz.pinned (.plain (OpenSpec.ofChange wholeBlocksSpec)) wholeBlocksCard

/-- THE TIED CARD OF 'amphoratop.WholeArchives'. -/
def wholeArchivesCard : Claim7 := { stood := { row := wholeArchivesRow, standIns := [], harness := (true, "9a27f009568e5a9d23452f5acf9f8ca070d2ce250d64b6051559486034a94d0c"), looks := true }, kinds := [], alts := [], laidByText := true, laidKinds := [.data, .data, .data, .data, .sentinel, .sentinel, .pinned], laidTests := true, laidLooks := .later }
def WholeArchivesCardSaid : Prop := Claim7.holds Tryz.pinned (.plain (OpenSpec.ofChange wholeArchivesSpec)) wholeArchivesCard

/-- THE TIED CARD OF 'amphoratop.WholeTampers'. -/
def wholeTampersCard : Claim7 := { stood := { row := wholeTampersRow, standIns := [], harness := (true, "9a27f009568e5a9d23452f5acf9f8ca070d2ce250d64b6051559486034a94d0c"), looks := true }, kinds := [], alts := [], laidByText := true, laidKinds := [.data, .data, .data, .data, .sentinel, .sentinel, .pinned], laidTests := true, laidLooks := .later }
def WholeTampersCardSaid : Prop := Claim7.holds Tryz.pinned (.plain (OpenSpec.ofChange wholeTampersSpec)) wholeTampersCard

/-- THE TIED CARD OF 'amphoratop.WholeChunks'. -/
def wholeChunksCard : Claim7 := { stood := { row := wholeChunksRow, standIns := [], harness := (true, "9a27f009568e5a9d23452f5acf9f8ca070d2ce250d64b6051559486034a94d0c"), looks := true }, kinds := [], alts := [], laidByText := true, laidKinds := [.data, .data, .data, .data, .sentinel, .sentinel, .pinned], laidTests := true, laidLooks := .later }
def WholeChunksCardSaid : Prop := Claim7.holds Tryz.pinned (.plain (OpenSpec.ofChange wholeChunksSpec)) wholeChunksCard

/-- THE SECOND FORM's CARD OF 'amphoralaw12.TarWrites'. -/
def tarWritesUptoCard : Claim7 := { stood := { row := tarWritesUptoRow, standIns := [], harness := (true, "9a27f009568e5a9d23452f5acf9f8ca070d2ce250d64b6051559486034a94d0c"), looks := true }, kinds := [], alts := [], laidByText := true, laidKinds := [.data, .data, .data, .data, .sentinel, .sentinel, .pinned], laidTests := true, laidLooks := .later }
def TarWritesUptoCardSaid : Prop := Claim7.holds Tryz.pinned (.plain (OpenSpec.upto tarWritesSpec)) tarWritesUptoCard

/-- THE SECOND FORM's CARD OF 'amphoralaw12.TarReads'. -/
def tarReadsUptoCard : Claim7 := { stood := { row := tarReadsUptoRow, standIns := [], harness := (true, "9a27f009568e5a9d23452f5acf9f8ca070d2ce250d64b6051559486034a94d0c"), looks := true }, kinds := [], alts := [], laidByText := true, laidKinds := [.data, .data, .data, .data, .sentinel, .sentinel, .pinned], laidTests := true, laidLooks := .later }
def TarReadsUptoCardSaid : Prop := Claim7.holds Tryz.pinned (.plain (OpenSpec.upto tarReadsSpec)) tarReadsUptoCard

/-- THE SECOND FORM's CARD OF 'amphoralaw12.TarPieces'. -/
def tarPiecesUptoCard : Claim7 := { stood := { row := tarPiecesUptoRow, standIns := [], harness := (true, "9a27f009568e5a9d23452f5acf9f8ca070d2ce250d64b6051559486034a94d0c"), looks := true }, kinds := [], alts := [], laidByText := true, laidKinds := [.data, .data, .data, .data, .sentinel, .sentinel, .pinned], laidTests := true, laidLooks := .later }
def TarPiecesUptoCardSaid : Prop := Claim7.holds Tryz.pinned (.plain (OpenSpec.upto tarPiecesSpec)) tarPiecesUptoCard

/-- THE SECOND FORM's CARD OF 'amphoralaw12.TarNone'. -/
def tarNoneUptoCard : Claim7 := { stood := { row := tarNoneUptoRow, standIns := [], harness := (true, "9a27f009568e5a9d23452f5acf9f8ca070d2ce250d64b6051559486034a94d0c"), looks := true }, kinds := [], alts := [], laidByText := true, laidKinds := [.data, .data, .data, .data, .sentinel, .sentinel, .pinned], laidTests := true, laidLooks := .later }
def TarNoneUptoCardSaid : Prop := Claim7.holds Tryz.pinned (.plain (OpenSpec.upto tarNoneSpec)) tarNoneUptoCard

/-- THE SECOND FORM's CARD OF 'amphoralaw12.TarForms'. -/
def tarFormsUptoCard : Claim7 := { stood := { row := tarFormsUptoRow, standIns := [], harness := (true, "9a27f009568e5a9d23452f5acf9f8ca070d2ce250d64b6051559486034a94d0c"), looks := true }, kinds := [], alts := [], laidByText := true, laidKinds := [.data, .data, .data, .data, .sentinel, .sentinel, .pinned], laidTests := true, laidLooks := .later }
def TarFormsUptoCardSaid : Prop := Claim7.holds Tryz.pinned (.plain (OpenSpec.upto tarFormsSpec)) tarFormsUptoCard

/-- THE SECOND FORM's CARD OF 'amphoralaw12.TarBack'. -/
def tarBackUptoCard : Claim7 := { stood := { row := tarBackUptoRow, standIns := [], harness := (true, "9a27f009568e5a9d23452f5acf9f8ca070d2ce250d64b6051559486034a94d0c"), looks := true }, kinds := [], alts := [], laidByText := true, laidKinds := [.data, .data, .data, .data, .sentinel, .sentinel, .pinned], laidTests := true, laidLooks := .later }
def TarBackUptoCardSaid : Prop := Claim7.holds Tryz.pinned (.plain (OpenSpec.upto tarBackSpec)) tarBackUptoCard

/-- THE SECOND FORM's CARD OF 'amphoratop.WholeStrangers'. -/
def wholeStrangersUptoCard : Claim7 := { stood := { row := wholeStrangersUptoRow, standIns := [], harness := (true, "9a27f009568e5a9d23452f5acf9f8ca070d2ce250d64b6051559486034a94d0c"), looks := true }, kinds := [], alts := [], laidByText := true, laidKinds := [.data, .data, .data, .data, .sentinel, .sentinel, .pinned], laidTests := true, laidLooks := .later }
def WholeStrangersUptoCardSaid : Prop := Claim7.holds Tryz.pinned (.plain (OpenSpec.upto wholeStrangersSpec)) wholeStrangersUptoCard

/-- THE SECOND FORM's CARD OF 'amphoratop.WholeBlocks'. -/
def wholeBlocksUptoCard : Claim7 := { stood := { row := wholeBlocksUptoRow, standIns := [], harness := (true, "9a27f009568e5a9d23452f5acf9f8ca070d2ce250d64b6051559486034a94d0c"), looks := true }, kinds := [], alts := [], laidByText := true, laidKinds := [.data, .data, .data, .data, .sentinel, .sentinel, .pinned], laidTests := true, laidLooks := .later }
def WholeBlocksUptoCardSaid : Prop := Claim7.holds Tryz.pinned (.plain (OpenSpec.upto wholeBlocksSpec)) wholeBlocksUptoCard

/-- THE SECOND FORM's CARD OF 'amphoratop.WholeArchives'. -/
def wholeArchivesUptoCard : Claim7 := { stood := { row := wholeArchivesUptoRow, standIns := [], harness := (true, "9a27f009568e5a9d23452f5acf9f8ca070d2ce250d64b6051559486034a94d0c"), looks := true }, kinds := [], alts := [], laidByText := true, laidKinds := [.data, .data, .data, .data, .sentinel, .sentinel, .pinned], laidTests := true, laidLooks := .later }
def WholeArchivesUptoCardSaid : Prop := Claim7.holds Tryz.pinned (.plain (OpenSpec.upto wholeArchivesSpec)) wholeArchivesUptoCard

/-- THE SECOND FORM's CARD OF 'amphoratop.WholeTampers'. -/
def wholeTampersUptoCard : Claim7 := { stood := { row := wholeTampersUptoRow, standIns := [], harness := (true, "9a27f009568e5a9d23452f5acf9f8ca070d2ce250d64b6051559486034a94d0c"), looks := true }, kinds := [], alts := [], laidByText := true, laidKinds := [.data, .data, .data, .data, .sentinel, .sentinel, .pinned], laidTests := true, laidLooks := .later }
def WholeTampersUptoCardSaid : Prop := Claim7.holds Tryz.pinned (.plain (OpenSpec.upto wholeTampersSpec)) wholeTampersUptoCard

/-- THE SECOND FORM's CARD OF 'amphoratop.WholeChunks'. -/
def wholeChunksUptoCard : Claim7 := { stood := { row := wholeChunksUptoRow, standIns := [], harness := (true, "9a27f009568e5a9d23452f5acf9f8ca070d2ce250d64b6051559486034a94d0c"), looks := true }, kinds := [], alts := [], laidByText := true, laidKinds := [.data, .data, .data, .data, .sentinel, .sentinel, .pinned], laidTests := true, laidLooks := .later }
def WholeChunksUptoCardSaid : Prop := Claim7.holds Tryz.pinned (.plain (OpenSpec.upto wholeChunksSpec)) wholeChunksUptoCard
end Rows
end Go.Proofs.YtambgnjkakdoeaaGreatDoor
