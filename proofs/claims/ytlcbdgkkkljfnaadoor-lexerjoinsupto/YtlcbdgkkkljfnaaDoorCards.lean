/-
  DERIVED. GIVEN WITH THE SEED: THE CARDS: each row of YtlcbdgkkkljfnaaDoorRows.lean that lists a variable, with what it lists TIED to the program's text (the seventh form; the later family's looks); each row that meets fmt, with fmt's text TOLD by the authors' own Lean function (tested against real Go, not proved from fmt's source: count such statements apart). THE CARD IS WHAT COUNTS. Prove the row's statement (the work); the ties are given (YtlcbdgkkkljfnaaDoorTie.lean); close each card by the builder's one call (the guide's Derived/Test/ToyasCard.lean, 'card_holds'). Laid BY PROGRAM, IN A SANDBOX (cutbox-door.mjs). By AI agents, Wed Nov 11 2026. No macro, syntax, notation, axiom, sorry.
-/
import Derived.Test.YtlcbdgkkkljfnaaDoorRows
import GoSem.ClaimSeven
namespace Go.Proofs.YtlcbdgkkkljfnaaDoor
namespace Rows

/-- THE TIED CARD OF 'helmsmanlaw11.LexerReads'. -/
def lexerReadsCard : Claim7 := { stood := { row := lexerReadsRow, standIns := [], harness := (true, "d2798441b2eac4049cee20533da8efde3a8eb1fd71007f75e41b244c3772ef7d"), looks := false }, kinds := [], alts := [], laidByText := true, laidKinds := [.listed, .data], laidTests := true, laidLooks := .later }
def LexerReadsCardSaid : Prop := Claim7.holds Tryd.pinned (.plain (OpenSpec.ofChange lexerReadsSpec)) lexerReadsCard

/-- THE TIED CARD OF 'helmsmanlaw11.LexerJoins'. -/
def lexerJoinsCard : Claim7 := { stood := { row := lexerJoinsRow, standIns := [], harness := (true, "d2798441b2eac4049cee20533da8efde3a8eb1fd71007f75e41b244c3772ef7d"), looks := false }, kinds := [], alts := [], laidByText := true, laidKinds := [.listed, .data], laidTests := true, laidLooks := .later }
def LexerJoinsCardSaid : Prop := Claim7.holds Tryd.pinned (.plain (OpenSpec.ofChange lexerJoinsSpec)) lexerJoinsCard

/-- THE TIED CARD OF 'helmsmanlaw11.LexerRight'. -/
def lexerRightCard : Claim7 := { stood := { row := lexerRightRow, standIns := [], harness := (true, "d2798441b2eac4049cee20533da8efde3a8eb1fd71007f75e41b244c3772ef7d"), looks := false }, kinds := [], alts := [], laidByText := true, laidKinds := [.listed, .data], laidTests := true, laidLooks := .later }
def LexerRightCardSaid : Prop := Claim7.holds Tryd.pinned (.plain (OpenSpec.ofChange lexerRightSpec)) lexerRightCard

/-- THE TIED CARD OF 'helmsmanlaw11.LexerLines'. -/
def lexerLinesCard : Claim7 := { stood := { row := lexerLinesRow, standIns := [], harness := (true, "d2798441b2eac4049cee20533da8efde3a8eb1fd71007f75e41b244c3772ef7d"), looks := false }, kinds := [], alts := [], laidByText := true, laidKinds := [.listed, .data], laidTests := true, laidLooks := .later }
def LexerLinesCardSaid : Prop := Claim7.holds Tryd.pinned (.plain (OpenSpec.ofChange lexerLinesSpec)) lexerLinesCard

/-- THE TIED CARD OF 'helmsmanlaw11.LexerPlaces'. -/
def lexerPlacesCard : Claim7 := { stood := { row := lexerPlacesRow, standIns := [], harness := (true, "d2798441b2eac4049cee20533da8efde3a8eb1fd71007f75e41b244c3772ef7d"), looks := false }, kinds := [], alts := [], laidByText := true, laidKinds := [.listed, .data], laidTests := true, laidLooks := .later }
def LexerPlacesCardSaid : Prop := Claim7.holds Tryd.pinned (.plain (OpenSpec.ofChange lexerPlacesSpec)) lexerPlacesCard

/-- THE SECOND FORM's CARD OF 'helmsmanlaw11.LexerReads'. -/
def lexerReadsUptoCard : Claim7 := { stood := { row := lexerReadsUptoRow, standIns := [], harness := (true, "d2798441b2eac4049cee20533da8efde3a8eb1fd71007f75e41b244c3772ef7d"), looks := false }, kinds := [], alts := [], laidByText := true, laidKinds := [.listed, .data], laidTests := true, laidLooks := .later }
def LexerReadsUptoCardSaid : Prop := Claim7.holds Tryd.pinned (.plain (OpenSpec.upto lexerReadsSpec)) lexerReadsUptoCard

/-- THE SECOND FORM's CARD OF 'helmsmanlaw11.LexerJoins'. -/
def lexerJoinsUptoCard : Claim7 := { stood := { row := lexerJoinsUptoRow, standIns := [], harness := (true, "d2798441b2eac4049cee20533da8efde3a8eb1fd71007f75e41b244c3772ef7d"), looks := false }, kinds := [], alts := [], laidByText := true, laidKinds := [.listed, .data], laidTests := true, laidLooks := .later }
def LexerJoinsUptoCardSaid : Prop := Claim7.holds Tryd.pinned (.plain (OpenSpec.upto lexerJoinsSpec)) lexerJoinsUptoCard

/-- THE SECOND FORM's CARD OF 'helmsmanlaw11.LexerRight'. -/
def lexerRightUptoCard : Claim7 := { stood := { row := lexerRightUptoRow, standIns := [], harness := (true, "d2798441b2eac4049cee20533da8efde3a8eb1fd71007f75e41b244c3772ef7d"), looks := false }, kinds := [], alts := [], laidByText := true, laidKinds := [.listed, .data], laidTests := true, laidLooks := .later }
def LexerRightUptoCardSaid : Prop := Claim7.holds Tryd.pinned (.plain (OpenSpec.upto lexerRightSpec)) lexerRightUptoCard

/-- THE SECOND FORM's CARD OF 'helmsmanlaw11.LexerLines'. -/
def lexerLinesUptoCard : Claim7 := { stood := { row := lexerLinesUptoRow, standIns := [], harness := (true, "d2798441b2eac4049cee20533da8efde3a8eb1fd71007f75e41b244c3772ef7d"), looks := false }, kinds := [], alts := [], laidByText := true, laidKinds := [.listed, .data], laidTests := true, laidLooks := .later }
def LexerLinesUptoCardSaid : Prop := Claim7.holds Tryd.pinned (.plain (OpenSpec.upto lexerLinesSpec)) lexerLinesUptoCard

/-- THE SECOND FORM's CARD OF 'helmsmanlaw11.LexerPlaces'. -/
def lexerPlacesUptoCard : Claim7 := { stood := { row := lexerPlacesUptoRow, standIns := [], harness := (true, "d2798441b2eac4049cee20533da8efde3a8eb1fd71007f75e41b244c3772ef7d"), looks := false }, kinds := [], alts := [], laidByText := true, laidKinds := [.listed, .data], laidTests := true, laidLooks := .later }
def LexerPlacesUptoCardSaid : Prop := Claim7.holds Tryd.pinned (.plain (OpenSpec.upto lexerPlacesSpec)) lexerPlacesUptoCard
end Rows
end Go.Proofs.YtlcbdgkkkljfnaaDoor
