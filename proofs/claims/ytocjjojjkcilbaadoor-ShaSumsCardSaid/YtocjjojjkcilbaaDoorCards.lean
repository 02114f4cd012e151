/-
  DERIVED. GIVEN WITH THE SEED: THE CARDS: each row of YtocjjojjkcilbaaDoorRows.lean that lists a variable, with what it lists TIED to the program's text (the seventh form; the later family's looks); each row that meets fmt, with fmt's text TOLD by the authors' own Lean function (tested against real Go, not proved from fmt's source: count such statements apart). THE CARD IS WHAT COUNTS. Prove the row's statement (the work); the ties are given (YtocjjojjkcilbaaDoorTie.lean); close each card by the builder's one call (the guide's Derived/Test/ToyasCard.lean, 'card_holds'). Laid BY PROGRAM, IN A SANDBOX (cutbox-door.mjs). By AI agents, Wed Nov 11 2026. No macro, syntax, notation, axiom, sorry.
-/
import Derived.Test.YtocjjojjkcilbaaDoorRows
import GoSem.ClaimSeven
namespace Go.Proofs.YtocjjojjkcilbaaDoor
namespace Rows

/-- THE TIED CARD OF 'roadsteadlaw03.ShaSums'. -/
def shaSumsCard : Claim7 := { stood := { row := shaSumsRow, standIns := [], harness := (true, "a72e20a631c1d691cb44440e1d0558efd4fc80be1de7208c7f8e2eb4b44b9c69"), looks := false }, kinds := [], alts := [], laidByText := true, laidKinds := [.data, .data], laidTests := true, laidLooks := .later }
def ShaSumsCardSaid : Prop := Claim7.holds Tryd.pinned (.plain (OpenSpec.ofChange shaSumsSpec)) shaSumsCard

/-- THE TIED CARD OF 'roadsteadlaw03.ShaRounds'. -/
def shaRoundsCard : Claim7 := { stood := { row := shaRoundsRow, standIns := [], harness := (true, "a72e20a631c1d691cb44440e1d0558efd4fc80be1de7208c7f8e2eb4b44b9c69"), looks := false }, kinds := [], alts := [], laidByText := true, laidKinds := [.data, .data], laidTests := true, laidLooks := .later }
def ShaRoundsCardSaid : Prop := Claim7.holds Tryd.pinned (.plain (OpenSpec.ofChange shaRoundsSpec)) shaRoundsCard

/-- THE TIED CARD OF 'roadsteadlaw03.ShaBits'. -/
def shaBitsCard : Claim7 := { stood := { row := shaBitsRow, standIns := [], harness := (true, "a72e20a631c1d691cb44440e1d0558efd4fc80be1de7208c7f8e2eb4b44b9c69"), looks := false }, kinds := [], alts := [], laidByText := true, laidKinds := [.data, .data], laidTests := true, laidLooks := .later }
def ShaBitsCardSaid : Prop := Claim7.holds Tryd.pinned (.plain (OpenSpec.ofChange shaBitsSpec)) shaBitsCard

/-- THE SECOND FORM's CARD OF 'roadsteadlaw03.ShaSums'. -/
def shaSumsUptoCard : Claim7 := { stood := { row := shaSumsUptoRow, standIns := [], harness := (true, "a72e20a631c1d691cb44440e1d0558efd4fc80be1de7208c7f8e2eb4b44b9c69"), looks := false }, kinds := [], alts := [], laidByText := true, laidKinds := [.data, .data], laidTests := true, laidLooks := .later }
def ShaSumsUptoCardSaid : Prop := Claim7.holds Tryd.pinned (.plain (OpenSpec.upto shaSumsSpec)) shaSumsUptoCard

/-- THE SECOND FORM's CARD OF 'roadsteadlaw03.ShaRounds'. -/
def shaRoundsUptoCard : Claim7 := { stood := { row := shaRoundsUptoRow, standIns := [], harness := (true, "a72e20a631c1d691cb44440e1d0558efd4fc80be1de7208c7f8e2eb4b44b9c69"), looks := false }, kinds := [], alts := [], laidByText := true, laidKinds := [.data, .data], laidTests := true, laidLooks := .later }
def ShaRoundsUptoCardSaid : Prop := Claim7.holds Tryd.pinned (.plain (OpenSpec.upto shaRoundsSpec)) shaRoundsUptoCard

/-- THE SECOND FORM's CARD OF 'roadsteadlaw03.ShaBits'. -/
def shaBitsUptoCard : Claim7 := { stood := { row := shaBitsUptoRow, standIns := [], harness := (true, "a72e20a631c1d691cb44440e1d0558efd4fc80be1de7208c7f8e2eb4b44b9c69"), looks := false }, kinds := [], alts := [], laidByText := true, laidKinds := [.data, .data], laidTests := true, laidLooks := .later }
def ShaBitsUptoCardSaid : Prop := Claim7.holds Tryd.pinned (.plain (OpenSpec.upto shaBitsSpec)) shaBitsUptoCard
end Rows
end Go.Proofs.YtocjjojjkcilbaaDoor
