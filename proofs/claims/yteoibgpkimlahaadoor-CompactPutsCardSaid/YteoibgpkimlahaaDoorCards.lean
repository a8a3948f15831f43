/-
  DERIVED. GIVEN WITH THE SEED: THE CARDS: each row of YteoibgpkimlahaaDoorRows.lean that lists a variable, with what it lists TIED to the program's text (the seventh form; the later family's looks); each row that meets fmt, with fmt's text TOLD by the authors' own Lean function (tested against real Go, not proved from fmt's source: count such statements apart). THE CARD IS WHAT COUNTS. Prove the row's statement (the work); the ties are given (YteoibgpkimlahaaDoorTie.lean); close each card by the builder's one call (the guide's Derived/Test/ToyasCard.lean, 'card_holds'). Laid BY PROGRAM, IN A SANDBOX (cutbox-door.mjs). By AI agents, Wed Nov 11 2026. No macro, syntax, notation, axiom, sorry.
-/
import Derived.Test.YteoibgpkimlahaaDoorRows
import GoSem.ClaimSeven
namespace Go.Proofs.YteoibgpkimlahaaDoor
namespace Rows

/-- THE TIED CARD OF 'hatchwaylaw04.CompactPuts'. -/
def compactPutsCard : Claim7 := { stood := { row := compactPutsRow, standIns := [], harness := (true, "e1c92dcf435de3162aad8d7f92c558f21907fd0394cdd974d3d077ae67692b2d"), looks := true }, kinds := [], alts := [], laidByText := true, laidKinds := [.data], laidTests := true, laidLooks := .later }
def CompactPutsCardSaid : Prop := Claim7.holds Tryd.pinned (.plain (OpenSpec.ofChange compactPutsSpec)) compactPutsCard

/-- THE TIED CARD OF 'hatchwaylaw04.CompactReads'. -/
def compactReadsCard : Claim7 := { stood := { row := compactReadsRow, standIns := [], harness := (true, "e1c92dcf435de3162aad8d7f92c558f21907fd0394cdd974d3d077ae67692b2d"), looks := true }, kinds := [], alts := [], laidByText := true, laidKinds := [.data], laidTests := true, laidLooks := .later }
def CompactReadsCardSaid : Prop := Claim7.holds Tryd.pinned (.plain (OpenSpec.ofChange compactReadsSpec)) compactReadsCard

/-- THE TIED CARD OF 'hatchwaylaw20.SchemaSame'. -/
def schemaSameCard : Claim7 := { stood := { row := schemaSameRow, standIns := [], harness := (true, "e1c92dcf435de3162aad8d7f92c558f21907fd0394cdd974d3d077ae67692b2d"), looks := true }, kinds := [], alts := [], laidByText := true, laidKinds := [.data, .data, .data, .sentinel, .sentinel, .data], laidTests := true, laidLooks := .later }
def SchemaSameCardSaid : Prop := Claim7.holds Tryd.pinned (.plain (OpenSpec.ofChange schemaSameSpec)) schemaSameCard

/-- THE TIED CARD OF 'hatchwaylaw20.SchemaGets'. -/
def schemaGetsCard : Claim7 := { stood := { row := schemaGetsRow, standIns := [], harness := (true, "e1c92dcf435de3162aad8d7f92c558f21907fd0394cdd974d3d077ae67692b2d"), looks := true }, kinds := [], alts := [], laidByText := true, laidKinds := [.data, .data, .data, .sentinel, .sentinel, .data], laidTests := true, laidLooks := .later }
def SchemaGetsCardSaid : Prop := Claim7.holds Tryd.pinned (.plain (OpenSpec.ofChange schemaGetsSpec)) schemaGetsCard

/-- THE TIED CARD OF 'hatchwaylaw20.SchemaPuts'. -/
def schemaPutsCard : Claim7 := { stood := { row := schemaPutsRow, standIns := [], harness := (true, "e1c92dcf435de3162aad8d7f92c558f21907fd0394cdd974d3d077ae67692b2d"), looks := true }, kinds := [], alts := [], laidByText := true, laidKinds := [.data, .data, .data, .sentinel, .sentinel, .data], laidTests := true, laidLooks := .later }
def SchemaPutsCardSaid : Prop := Claim7.holds Tryd.pinned (.plain (OpenSpec.ofChange schemaPutsSpec)) schemaPutsCard

/-- THE SECOND FORM's CARD OF 'hatchwaylaw04.CompactPuts'. -/
def compactPutsUptoCard : Claim7 := { stood := { row := compactPutsUptoRow, standIns := [], harness := (true, "e1c92dcf435de3162aad8d7f92c558f21907fd0394cdd974d3d077ae67692b2d"), looks := true }, kinds := [], alts := [], laidByText := true, laidKinds := [.data], laidTests := true, laidLooks := .later }
def CompactPutsUptoCardSaid : Prop := Claim7.holds Tryd.pinned (.plain (OpenSpec.upto compactPutsSpec)) compactPutsUptoCard

/-- THE SECOND FORM's CARD OF 'hatchwaylaw04.CompactReads'. -/
def compactReadsUptoCard : Claim7 := { stood := { row := compactReadsUptoRow, standIns := [], harness := (true, "e1c92dcf435de3162aad8d7f92c558f21907fd0394cdd974d3d077ae67692b2d"), looks := true }, kinds := [], alts := [], laidByText := true, laidKinds := [.data], laidTests := true, laidLooks := .later }
def CompactReadsUptoCardSaid : Prop := Claim7.holds Tryd.pinned (.plain (OpenSpec.upto compactReadsSpec)) compactReadsUptoCard

/-- THE SECOND FORM's CARD OF 'hatchwaylaw20.SchemaSame'. -/
def schemaSameUptoCard : Claim7 := { stood := { row := schemaSameUptoRow, standIns := [], harness := (true, "e1c92dcf435de3162aad8d7f92c558f21907fd0394cdd974d3d077ae67692b2d"), looks := true }, kinds := [], alts := [], laidByText := true, laidKinds := [.data, .data, .data, .sentinel, .sentinel, .data], laidTests := true, laidLooks := .later }
def SchemaSameUptoCardSaid : Prop := Claim7.holds Tryd.pinned (.plain (OpenSpec.upto schemaSameSpec)) schemaSameUptoCard

/-- THE SECOND FORM's CARD OF 'hatchwaylaw20.SchemaGets'. -/
def schemaGetsUptoCard : Claim7 := { stood := { row := schemaGetsUptoRow, standIns := [], harness := (true, "e1c92dcf435de3162aad8d7f92c558f21907fd0394cdd974d3d077ae67692b2d"), looks := true }, kinds := [], alts := [], laidByText := true, laidKinds := [.data, .data, .data, .sentinel, .sentinel, .data], laidTests := true, laidLooks := .later }
def SchemaGetsUptoCardSaid : Prop := Claim7.holds Tryd.pinned (.plain (OpenSpec.upto schemaGetsSpec)) schemaGetsUptoCard

/-- THE SECOND FORM's CARD OF 'hatchwaylaw20.SchemaPuts'. -/
def schemaPutsUptoCard : Claim7 := { stood := { row := schemaPutsUptoRow, standIns := [], harness := (true, "e1c92dcf435de3162aad8d7f92c558f21907fd0394cdd974d3d077ae67692b2d"), looks := true }, kinds := [], alts := [], laidByText := true, laidKinds := [.data, .data, .data, .sentinel, .sentinel, .data], laidTests := true, laidLooks := .later }
def SchemaPutsUptoCardSaid : Prop := Claim7.holds Tryd.pinned (.plain (OpenSpec.upto schemaPutsSpec)) schemaPutsUptoCard
end Rows
end Go.Proofs.YteoibgpkimlahaaDoor
