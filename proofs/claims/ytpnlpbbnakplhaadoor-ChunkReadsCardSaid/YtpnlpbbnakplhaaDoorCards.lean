/-
  DERIVED. GIVEN WITH THE SEED: THE CARDS: each row of YtpnlpbbnakplhaaDoorRows.lean that lists a variable, with what it lists TIED to the program's text (the seventh form; the later family's looks); each row that meets fmt, with fmt's text TOLD by the authors' own Lean function (tested against real Go, not proved from fmt's source: count such statements apart). THE CARD IS WHAT COUNTS. Prove the row's statement (the work); the ties are given (YtpnlpbbnakplhaaDoorTie.lean); close each card by the builder's one call (the guide's Derived/Test/ToyasCard.lean, 'card_holds'). Laid BY PROGRAM, IN A SANDBOX (cutbox-door.mjs). By AI agents, Wed Nov 11 2026. No macro, syntax, notation, axiom, sorry.
-/
import Derived.Test.YtpnlpbbnakplhaaDoorRows
import GoSem.ClaimSeven
namespace Go.Proofs.YtpnlpbbnakplhaaDoor
namespace Rows

/-- THE TIED CARD OF 'roadsteadlaw18.ChunkReads'. -/
def chunkReadsCard : Claim7 := { stood := { row := chunkReadsRow, standIns := [], harness := (true, "d408a66be6cf1eb3c9610d2e995033ece19c4d2499e8a04db4e247591b8cf36d"), looks := false }, kinds := [], alts := [], laidByText := true, laidKinds := [.data, .data], laidTests := true, laidLooks := .later }
def ChunkReadsCardSaid : Prop := Claim7.holds Tryd.pinned (.plain (OpenSpec.ofChange chunkReadsSpec)) chunkReadsCard

/-- THE TIED CARD OF 'roadsteadlaw18.ChunkSizes'. -/
def chunkSizesCard : Claim7 := { stood := { row := chunkSizesRow, standIns := [], harness := (true, "d408a66be6cf1eb3c9610d2e995033ece19c4d2499e8a04db4e247591b8cf36d"), looks := false }, kinds := [], alts := [], laidByText := true, laidKinds := [.data, .data], laidTests := true, laidLooks := .later }
def ChunkSizesCardSaid : Prop := Claim7.holds Tryd.pinned (.plain (OpenSpec.ofChange chunkSizesSpec)) chunkSizesCard

/-- THE TIED CARD OF 'roadsteadlaw18.ChunkPuts'. -/
def chunkPutsCard : Claim7 := { stood := { row := chunkPutsRow, standIns := [], harness := (true, "d408a66be6cf1eb3c9610d2e995033ece19c4d2499e8a04db4e247591b8cf36d"), looks := false }, kinds := [], alts := [], laidByText := true, laidKinds := [.data, .data], laidTests := true, laidLooks := .later }
def ChunkPutsCardSaid : Prop := Claim7.holds Tryd.pinned (.plain (OpenSpec.ofChange chunkPutsSpec)) chunkPutsCard

/-- THE TIED CARD OF 'roadsteadlaw18.ChunkBack'. -/
def chunkBackCard : Claim7 := { stood := { row := chunkBackRow, standIns := [], harness := (true, "d408a66be6cf1eb3c9610d2e995033ece19c4d2499e8a04db4e247591b8cf36d"), looks := false }, kinds := [], alts := [], laidByText := true, laidKinds := [.data, .data], laidTests := true, laidLooks := .later }
def ChunkBackCardSaid : Prop := Claim7.holds Tryd.pinned (.plain (OpenSpec.ofChange chunkBackSpec)) chunkBackCard

/-- THE TIED CARD OF 'roadsteadlaw18.ChunkBurst'. -/
def chunkBurstCard : Claim7 := { stood := { row := chunkBurstRow, standIns := [], harness := (true, "d408a66be6cf1eb3c9610d2e995033ece19c4d2499e8a04db4e247591b8cf36d"), looks := false }, kinds := [], alts := [], laidByText := true, laidKinds := [.data, .data], laidTests := true, laidLooks := .later }
def ChunkBurstCardSaid : Prop := Claim7.holds Tryd.pinned (.plain (OpenSpec.ofChange chunkBurstSpec)) chunkBurstCard

/-- THE TIED CARD OF 'roadsteadlaw18.ChunkOrder'. -/
def chunkOrderCard : Claim7 := { stood := { row := chunkOrderRow, standIns := [], harness := (true, "d408a66be6cf1eb3c9610d2e995033ece19c4d2499e8a04db4e247591b8cf36d"), looks := false }, kinds := [], alts := [], laidByText := true, laidKinds := [.data, .data], laidTests := true, laidLooks := .later }
def ChunkOrderCardSaid : Prop := Claim7.holds Tryd.pinned (.plain (OpenSpec.ofChange chunkOrderSpec)) chunkOrderCard

/-- THE SECOND FORM's CARD OF 'roadsteadlaw18.ChunkReads'. -/
def chunkReadsUptoCard : Claim7 := { stood := { row := chunkReadsUptoRow, standIns := [], harness := (true, "d408a66be6cf1eb3c9610d2e995033ece19c4d2499e8a04db4e247591b8cf36d"), looks := false }, kinds := [], alts := [], laidByText := true, laidKinds := [.data, .data], laidTests := true, laidLooks := .later }
def ChunkReadsUptoCardSaid : Prop := Claim7.holds Tryd.pinned (.plain (OpenSpec.upto chunkReadsSpec)) chunkReadsUptoCard

/-- THE SECOND FORM's CARD OF 'roadsteadlaw18.ChunkSizes'. -/
def chunkSizesUptoCard : Claim7 := { stood := { row := chunkSizesUptoRow, standIns := [], harness := (true, "d408a66be6cf1eb3c9610d2e995033ece19c4d2499e8a04db4e247591b8cf36d"), looks := false }, kinds := [], alts := [], laidByText := true, laidKinds := [.data, .data], laidTests := true, laidLooks := .later }
def ChunkSizesUptoCardSaid : Prop := Claim7.holds Tryd.pinned (.plain (OpenSpec.upto chunkSizesSpec)) chunkSizesUptoCard

/-- THE SECOND FORM's CARD OF 'roadsteadlaw18.ChunkPuts'. -/
def chunkPutsUptoCard : Claim7 := { stood := { row := chunkPutsUptoRow, standIns := [], harness := (true, "d408a66be6cf1eb3c9610d2e995033ece19c4d2499e8a04db4e247591b8cf36d"), looks := false }, kinds := [], alts := [], laidByText := true, laidKinds := [.data, .data], laidTests := true, laidLooks := .later }
def ChunkPutsUptoCardSaid : Prop := Claim7.holds Tryd.pinned (.plain (OpenSpec.upto chunkPutsSpec)) chunkPutsUptoCard

/-- THE SECOND FORM's CARD OF 'roadsteadlaw18.ChunkBack'. -/
def chunkBackUptoCard : Claim7 := { stood := { row := chunkBackUptoRow, standIns := [], harness := (true, "d408a66be6cf1eb3c9610d2e995033ece19c4d2499e8a04db4e247591b8cf36d"), looks := false }, kinds := [], alts := [], laidByText := true, laidKinds := [.data, .data], laidTests := true, laidLooks := .later }
def ChunkBackUptoCardSaid : Prop := Claim7.holds Tryd.pinned (.plain (OpenSpec.upto chunkBackSpec)) chunkBackUptoCard

/-- THE SECOND FORM's CARD OF 'roadsteadlaw18.ChunkBurst'. -/
def chunkBurstUptoCard : Claim7 := { stood := { row := chunkBurstUptoRow, standIns := [], harness := (true, "d408a66be6cf1eb3c9610d2e995033ece19c4d2499e8a04db4e247591b8cf36d"), looks := false }, kinds := [], alts := [], laidByText := true, laidKinds := [.data, .data], laidTests := true, laidLooks := .later }
def ChunkBurstUptoCardSaid : Prop := Claim7.holds Tryd.pinned (.plain (OpenSpec.upto chunkBurstSpec)) chunkBurstUptoCard

/-- THE SECOND FORM's CARD OF 'roadsteadlaw18.ChunkOrder'. -/
def chunkOrderUptoCard : Claim7 := { stood := { row := chunkOrderUptoRow, standIns := [], harness := (true, "d408a66be6cf1eb3c9610d2e995033ece19c4d2499e8a04db4e247591b8cf36d"), looks := false }, kinds := [], alts := [], laidByText := true, laidKinds := [.data, .data], laidTests := true, laidLooks := .later }
def ChunkOrderUptoCardSaid : Prop := Claim7.holds Tryd.pinned (.plain (OpenSpec.upto chunkOrderSpec)) chunkOrderUptoCard
end Rows
end Go.Proofs.YtpnlpbbnakplhaaDoor
