/-
  DERIVED. GIVEN WITH THE SEED: THE CARDS: each row of YtfgoedndpcblpaaGreatDoorRows.lean that lists a variable, with what it lists TIED to the program's text (the seventh form; the later family's looks); each row that meets fmt, with fmt's text TOLD by the authors' own Lean function (tested against real Go, not proved from fmt's source: count such statements apart). THE CARD IS WHAT COUNTS. Prove the row's statement (the work); the ties are given (YtfgoedndpcblpaaGreatDoorTie.lean); close each card by the builder's one call (the guide's Derived/Test/ToyasCard.lean, 'card_holds'). Laid BY PROGRAM, IN A SANDBOX (cutbox-door.mjs). By AI agents, Wed Nov 11 2026. No macro, syntax, notation, axiom, sorry.
-/
import Derived.Test.YtfgoedndpcblpaaGreatDoorRows
import GoSem.ClaimSeven
namespace Go.Proofs.YtfgoedndpcblpaaGreatDoor
namespace Rows

/-- THE TIED CARD OF 'helmsmanlaw13.ParsePrints'. -/
def parsePrintsCard : Claim7 := { stood := { row := parsePrintsRow, standIns := [], harness := (true, "423e8aea83b6a92ee6ee6e93c51191be3253aa836e41d34a0680b92c20727514"), looks := false }, kinds := [], alts := [], laidByText := true, laidKinds := [.data, .data, .data, .listed, .data], laidTests := true, laidLooks := .later }
def ParsePrintsCardSaid : Prop := Claim7.holds Tryz.pinned (.plain (OpenSpec.ofChange parsePrintsSpec)) parsePrintsCard

/-- THE TIED CARD OF 'helmsmanlaw13.ParseTrees'. -/
def parseTreesCard : Claim7 := { stood := { row := parseTreesRow, standIns := [], harness := (true, "423e8aea83b6a92ee6ee6e93c51191be3253aa836e41d34a0680b92c20727514"), looks := false }, kinds := [], alts := [], laidByText := true, laidKinds := [.data, .data, .data, .listed, .data], laidTests := true, laidLooks := .later }
def ParseTreesCardSaid : Prop := Claim7.holds Tryz.pinned (.plain (OpenSpec.ofChange parseTreesSpec)) parseTreesCard

/-- THE TIED CARD OF 'helmsmanlaw13.ParseBlanks'. -/
def parseBlanksCard : Claim7 := { stood := { row := parseBlanksRow, standIns := [], harness := (true, "423e8aea83b6a92ee6ee6e93c51191be3253aa836e41d34a0680b92c20727514"), looks := false }, kinds := [], alts := [], laidByText := true, laidKinds := [.data, .data, .data, .listed, .data], laidTests := true, laidLooks := .later }
def ParseBlanksCardSaid : Prop := Claim7.holds Tryz.pinned (.plain (OpenSpec.ofChange parseBlanksSpec)) parseBlanksCard

/-- THE TIED CARD OF 'helmsmanlaw14.CheckLaid'. -/
def checkLaidCard : Claim7 := { stood := { row := checkLaidRow, standIns := [], harness := (true, "423e8aea83b6a92ee6ee6e93c51191be3253aa836e41d34a0680b92c20727514"), looks := false }, kinds := [], alts := [], laidByText := true, laidKinds := [.data, .data, .data, .listed, .data], laidTests := true, laidLooks := .later }
def CheckLaidCardSaid : Prop := Claim7.holds Tryz.pinned (.plain (OpenSpec.ofChange checkLaidSpec)) checkLaidCard

/-- THE TIED CARD OF 'helmsmanlaw14.CheckValues'. -/
def checkValuesCard : Claim7 := { stood := { row := checkValuesRow, standIns := [], harness := (true, "423e8aea83b6a92ee6ee6e93c51191be3253aa836e41d34a0680b92c20727514"), looks := false }, kinds := [], alts := [], laidByText := true, laidKinds := [.data, .data, .data, .listed, .data], laidTests := true, laidLooks := .later }
def CheckValuesCardSaid : Prop := Claim7.holds Tryz.pinned (.plain (OpenSpec.ofChange checkValuesSpec)) checkValuesCard

/-- THE TIED CARD OF 'helmsmanlaw14.CheckTexts'. -/
def checkTextsCard : Claim7 := { stood := { row := checkTextsRow, standIns := [], harness := (true, "423e8aea83b6a92ee6ee6e93c51191be3253aa836e41d34a0680b92c20727514"), looks := false }, kinds := [], alts := [], laidByText := true, laidKinds := [.data, .data, .data, .listed, .data], laidTests := true, laidLooks := .later }
def CheckTextsCardSaid : Prop := Claim7.holds Tryz.pinned (.plain (OpenSpec.ofChange checkTextsSpec)) checkTextsCard

/-- THE TIED CARD OF 'helmsmanlaw14.CheckTrees'. -/
def checkTreesCard : Claim7 := { stood := { row := checkTreesRow, standIns := [], harness := (true, "423e8aea83b6a92ee6ee6e93c51191be3253aa836e41d34a0680b92c20727514"), looks := false }, kinds := [], alts := [], laidByText := true, laidKinds := [.data, .data, .data, .listed, .data], laidTests := true, laidLooks := .later }
def CheckTreesCardSaid : Prop := Claim7.holds Tryz.pinned (.plain (OpenSpec.ofChange checkTreesSpec)) checkTreesCard

/-- THE TIED CARD OF 'helmsmanlaw15.InlineOrder'. -/
def inlineOrderCard : Claim7 := { stood := { row := inlineOrderRow, standIns := [], harness := (true, "423e8aea83b6a92ee6ee6e93c51191be3253aa836e41d34a0680b92c20727514"), looks := false }, kinds := [], alts := [], laidByText := true, laidKinds := [.data, .data, .data, .listed, .data], laidTests := true, laidLooks := .later }
def InlineOrderCardSaid : Prop := Claim7.holds Tryz.pinned (.plain (OpenSpec.ofChange inlineOrderSpec)) inlineOrderCard

/-- THE TIED CARD OF 'helmsmanlaw15.InlineLong'. -/
def inlineLongCard : Claim7 := { stood := { row := inlineLongRow, standIns := [], harness := (true, "423e8aea83b6a92ee6ee6e93c51191be3253aa836e41d34a0680b92c20727514"), looks := false }, kinds := [], alts := [], laidByText := true, laidKinds := [.data, .data, .data, .listed, .data], laidTests := true, laidLooks := .later }
def InlineLongCardSaid : Prop := Claim7.holds Tryz.pinned (.plain (OpenSpec.ofChange inlineLongSpec)) inlineLongCard

/-- THE TIED CARD OF 'helmsmanlaw15.InlineCalls'. -/
def inlineCallsCard : Claim7 := { stood := { row := inlineCallsRow, standIns := [], harness := (true, "423e8aea83b6a92ee6ee6e93c51191be3253aa836e41d34a0680b92c20727514"), looks := false }, kinds := [], alts := [], laidByText := true, laidKinds := [.data, .data, .data, .listed, .data], laidTests := true, laidLooks := .later }
def InlineCallsCardSaid : Prop := Claim7.holds Tryz.pinned (.plain (OpenSpec.ofChange inlineCallsSpec)) inlineCallsCard

/-- THE SECOND FORM's CARD OF 'helmsmanlaw13.ParsePrints'. -/
def parsePrintsUptoCard : Claim7 := { stood := { row := parsePrintsUptoRow, standIns := [], harness := (true, "423e8aea83b6a92ee6ee6e93c51191be3253aa836e41d34a0680b92c20727514"), looks := false }, kinds := [], alts := [], laidByText := true, laidKinds := [.data, .data, .data, .listed, .data], laidTests := true, laidLooks := .later }
def ParsePrintsUptoCardSaid : Prop := Claim7.holds Tryz.pinned (.plain (OpenSpec.upto parsePrintsSpec)) parsePrintsUptoCard

/-- THE SECOND FORM's CARD OF 'helmsmanlaw13.ParseTrees'. -/
def parseTreesUptoCard : Claim7 := { stood := { row := parseTreesUptoRow, standIns := [], harness := (true, "423e8aea83b6a92ee6ee6e93c51191be3253aa836e41d34a0680b92c20727514"), looks := false }, kinds := [], alts := [], laidByText := true, laidKinds := [.data, .data, .data, .listed, .data], laidTests := true, laidLooks := .later }
def ParseTreesUptoCardSaid : Prop := Claim7.holds Tryz.pinned (.plain (OpenSpec.upto parseTreesSpec)) parseTreesUptoCard

/-- THE SECOND FORM's CARD OF 'helmsmanlaw13.ParseBlanks'. -/
def parseBlanksUptoCard : Claim7 := { stood := { row := parseBlanksUptoRow, standIns := [], harness := (true, "423e8aea83b6a92ee6ee6e93c51191be3253aa836e41d34a0680b92c20727514"), looks := false }, kinds := [], alts := [], laidByText := true, laidKinds := [.data, .data, .data, .listed, .data], laidTests := true, laidLooks := .later }
def ParseBlanksUptoCardSaid : Prop := Claim7.holds Tryz.pinned (.plain (OpenSpec.upto parseBlanksSpec)) parseBlanksUptoCard

/-- THE SECOND FORM's CARD OF 'helmsmanlaw14.CheckLaid'. -/
def checkLaidUptoCard : Claim7 := { stood := { row := checkLaidUptoRow, standIns := [], harness := (true, "423e8aea83b6a92ee6ee6e93c51191be3253aa836e41d34a0680b92c20727514"), looks := false }, kinds := [], alts := [], laidByText := true, laidKinds := [.data, .data, .data, .listed, .data], laidTests := true, laidLooks := .later }
def CheckLaidUptoCardSaid : Prop := Claim7.holds Tryz.pinned (.plain (OpenSpec.upto checkLaidSpec)) checkLaidUptoCard

/-- THE SECOND FORM's CARD OF 'helmsmanlaw14.CheckValues'. -/
def checkValuesUptoCard : Claim7 := { stood := { row := checkValuesUptoRow, standIns := [], harness := (true, "423e8aea83b6a92ee6ee6e93c51191be3253aa836e41d34a0680b92c20727514"), looks := false }, kinds := [], alts := [], laidByText := true, laidKinds := [.data, .data, .data, .listed, .data], laidTests := true, laidLooks := .later }
def CheckValuesUptoCardSaid : Prop := Claim7.holds Tryz.pinned (.plain (OpenSpec.upto checkValuesSpec)) checkValuesUptoCard

/-- THE SECOND FORM's CARD OF 'helmsmanlaw14.CheckTexts'. -/
def checkTextsUptoCard : Claim7 := { stood := { row := checkTextsUptoRow, standIns := [], harness := (true, "423e8aea83b6a92ee6ee6e93c51191be3253aa836e41d34a0680b92c20727514"), looks := false }, kinds := [], alts := [], laidByText := true, laidKinds := [.data, .data, .data, .listed, .data], laidTests := true, laidLooks := .later }
def CheckTextsUptoCardSaid : Prop := Claim7.holds Tryz.pinned (.plain (OpenSpec.upto checkTextsSpec)) checkTextsUptoCard

/-- THE SECOND FORM's CARD OF 'helmsmanlaw14.CheckTrees'. -/
def checkTreesUptoCard : Claim7 := { stood := { row := checkTreesUptoRow, standIns := [], harness := (true, "423e8aea83b6a92ee6ee6e93c51191be3253aa836e41d34a0680b92c20727514"), looks := false }, kinds := [], alts := [], laidByText := true, laidKinds := [.data, .data, .data, .listed, .data], laidTests := true, laidLooks := .later }
def CheckTreesUptoCardSaid : Prop := Claim7.holds Tryz.pinned (.plain (OpenSpec.upto checkTreesSpec)) checkTreesUptoCard

/-- THE SECOND FORM's CARD OF 'helmsmanlaw15.InlineOrder'. -/
def inlineOrderUptoCard : Claim7 := { stood := { row := inlineOrderUptoRow, standIns := [], harness := (true, "423e8aea83b6a92ee6ee6e93c51191be3253aa836e41d34a0680b92c20727514"), looks := false }, kinds := [], alts := [], laidByText := true, laidKinds := [.data, .data, .data, .listed, .data], laidTests := true, laidLooks := .later }
def InlineOrderUptoCardSaid : Prop := Claim7.holds Tryz.pinned (.plain (OpenSpec.upto inlineOrderSpec)) inlineOrderUptoCard

/-- THE SECOND FORM's CARD OF 'helmsmanlaw15.InlineLong'. -/
def inlineLongUptoCard : Claim7 := { stood := { row := inlineLongUptoRow, standIns := [], harness := (true, "423e8aea83b6a92ee6ee6e93c51191be3253aa836e41d34a0680b92c20727514"), looks := false }, kinds := [], alts := [], laidByText := true, laidKinds := [.data, .data, .data, .listed, .data], laidTests := true, laidLooks := .later }
def InlineLongUptoCardSaid : Prop := Claim7.holds Tryz.pinned (.plain (OpenSpec.upto inlineLongSpec)) inlineLongUptoCard

/-- THE SECOND FORM's CARD OF 'helmsmanlaw15.InlineCalls'. -/
def inlineCallsUptoCard : Claim7 := { stood := { row := inlineCallsUptoRow, standIns := [], harness := (true, "423e8aea83b6a92ee6ee6e93c51191be3253aa836e41d34a0680b92c20727514"), looks := false }, kinds := [], alts := [], laidByText := true, laidKinds := [.data, .data, .data, .listed, .data], laidTests := true, laidLooks := .later }
def InlineCallsUptoCardSaid : Prop := Claim7.holds Tryz.pinned (.plain (OpenSpec.upto inlineCallsSpec)) inlineCallsUptoCard
end Rows
end Go.Proofs.YtfgoedndpcblpaaGreatDoor
