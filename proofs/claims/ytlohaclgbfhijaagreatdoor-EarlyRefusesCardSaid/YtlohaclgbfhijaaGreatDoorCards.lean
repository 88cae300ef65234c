/-
  DERIVED. GIVEN WITH THE SEED: THE CARDS: each row of YtlohaclgbfhijaaGreatDoorRows.lean that lists a variable, with what it lists TIED to the program's text (the seventh form; the later family's looks); each row that meets fmt, with fmt's text TOLD by the authors' own Lean function (tested against real Go, not proved from fmt's source: count such statements apart). THE CARD IS WHAT COUNTS. Prove the row's statement (the work); the ties are given (YtlohaclgbfhijaaGreatDoorTie.lean); close each card by the builder's one call (the guide's Derived/Test/ToyasCard.lean, 'card_holds'). Laid BY PROGRAM, IN A SANDBOX (cutbox-door.mjs). By AI agents, Wed Nov 11 2026. No macro, syntax, notation, axiom, sorry.
-/
import Derived.Test.YtlohaclgbfhijaaGreatDoorRows
import GoSem.ClaimSeven
namespace Go.Proofs.YtlohaclgbfhijaaGreatDoor
namespace Rows

/-- THE TIED CARD OF 'renlaw7.ParseEnds'. -/
def parseEndsCard : Claim7 := { stood := { row := parseEndsRow, standIns := [], harness := (true, "bf282ecfd57a6d4411c61a745f3a4c5aa9879595110fb2596363e6495ba9cbb1"), looks := false }, kinds := [], alts := [], laidByText := true, laidKinds := [.data, .data, .data], laidTests := true, laidLooks := .later }
def ParseEndsCardSaid : Prop := Claim7.holds Tryz.pinned (.plain (OpenSpec.ofChange parseEndsSpec)) parseEndsCard

/-- THE TIED CARD OF 'renlaw7.ParseBlanks'. -/
def parseBlanksCard : Claim7 := { stood := { row := parseBlanksRow, standIns := [], harness := (true, "bf282ecfd57a6d4411c61a745f3a4c5aa9879595110fb2596363e6495ba9cbb1"), looks := false }, kinds := [], alts := [], laidByText := true, laidKinds := [.data, .data, .data], laidTests := true, laidLooks := .later }
def ParseBlanksCardSaid : Prop := Claim7.holds Tryz.pinned (.plain (OpenSpec.ofChange parseBlanksSpec)) parseBlanksCard

/-- THE TIED CARD OF 'renlaw7.ParseLines'. -/
def parseLinesCard : Claim7 := { stood := { row := parseLinesRow, standIns := [], harness := (true, "bf282ecfd57a6d4411c61a745f3a4c5aa9879595110fb2596363e6495ba9cbb1"), looks := false }, kinds := [], alts := [], laidByText := true, laidKinds := [.data, .data, .data], laidTests := true, laidLooks := .later }
def ParseLinesCardSaid : Prop := Claim7.holds Tryz.pinned (.plain (OpenSpec.ofChange parseLinesSpec)) parseLinesCard

/-- THE TIED CARD OF 'renlaw7.ParseBrackets'. -/
def parseBracketsCard : Claim7 := { stood := { row := parseBracketsRow, standIns := [], harness := (true, "bf282ecfd57a6d4411c61a745f3a4c5aa9879595110fb2596363e6495ba9cbb1"), looks := false }, kinds := [], alts := [], laidByText := true, laidKinds := [.data, .data, .data], laidTests := true, laidLooks := .later }
def ParseBracketsCardSaid : Prop := Claim7.holds Tryz.pinned (.plain (OpenSpec.ofChange parseBracketsSpec)) parseBracketsCard

/-- THE TIED CARD OF 'renlaw7.ParseBlocks'. -/
def parseBlocksCard : Claim7 := { stood := { row := parseBlocksRow, standIns := [], harness := (true, "bf282ecfd57a6d4411c61a745f3a4c5aa9879595110fb2596363e6495ba9cbb1"), looks := false }, kinds := [], alts := [], laidByText := true, laidKinds := [.data, .data, .data], laidTests := true, laidLooks := .later }
def ParseBlocksCardSaid : Prop := Claim7.holds Tryz.pinned (.plain (OpenSpec.ofChange parseBlocksSpec)) parseBlocksCard

/-- THE TIED CARD OF 'renlaw8.EarlyTotal'. -/
def earlyTotalCard : Claim7 := { stood := { row := earlyTotalRow, standIns := [], harness := (true, "bf282ecfd57a6d4411c61a745f3a4c5aa9879595110fb2596363e6495ba9cbb1"), looks := false }, kinds := [], alts := [], laidByText := true, laidKinds := [.data, .data, .data, .data, .pinned], laidTests := true, laidLooks := .later }
def EarlyTotalCardSaid : Prop := Claim7.holds Tryz.pinned (.plain (OpenSpec.ofChange earlyTotalSpec)) earlyTotalCard

/-- THE TIED CARD OF 'renlaw8.EarlyRefuses'. -/
def earlyRefusesCard : Claim7 := { stood := { row := earlyRefusesRow, standIns := [], harness := (true, "bf282ecfd57a6d4411c61a745f3a4c5aa9879595110fb2596363e6495ba9cbb1"), looks := false }, kinds := [], alts := [], laidByText := true, laidKinds := [.data, .data, .data, .data, .pinned], laidTests := true, laidLooks := .later }
def EarlyRefusesCardSaid : Prop := Claim7.holds Tryz.pinned (.plain (OpenSpec.ofChange earlyRefusesSpec)) earlyRefusesCard

/-- THE TIED CARD OF 'renlaw8.EarlyBlocks'. -/
def earlyBlocksCard : Claim7 := { stood := { row := earlyBlocksRow, standIns := [], harness := (true, "bf282ecfd57a6d4411c61a745f3a4c5aa9879595110fb2596363e6495ba9cbb1"), looks := false }, kinds := [], alts := [], laidByText := true, laidKinds := [.data, .data, .data, .data, .pinned], laidTests := true, laidLooks := .later }
def EarlyBlocksCardSaid : Prop := Claim7.holds Tryz.pinned (.plain (OpenSpec.ofChange earlyBlocksSpec)) earlyBlocksCard

/-- THE TIED CARD OF 'renlaw8.EarlyTwice'. -/
def earlyTwiceCard : Claim7 := { stood := { row := earlyTwiceRow, standIns := [], harness := (true, "bf282ecfd57a6d4411c61a745f3a4c5aa9879595110fb2596363e6495ba9cbb1"), looks := false }, kinds := [], alts := [], laidByText := true, laidKinds := [.data, .data, .data, .data, .pinned], laidTests := true, laidLooks := .later }
def EarlyTwiceCardSaid : Prop := Claim7.holds Tryz.pinned (.plain (OpenSpec.ofChange earlyTwiceSpec)) earlyTwiceCard

/-- THE TIED CARD OF 'renlaw7.ParseBack'. -/
def parseBackCard : Claim7 := { stood := { row := parseBackRow, standIns := [], harness := (true, "bf282ecfd57a6d4411c61a745f3a4c5aa9879595110fb2596363e6495ba9cbb1"), looks := false }, kinds := [], alts := [], laidByText := true, laidKinds := [.data, .data, .data], laidTests := true, laidLooks := .later }
def ParseBackCardSaid : Prop := Claim7.holds Tryz.pinned (.plain (OpenSpec.ofChange parseBackSpec)) parseBackCard

/-- THE TIED CARD OF 'renlaw7.ParseGood'. -/
def parseGoodCard : Claim7 := { stood := { row := parseGoodRow, standIns := [], harness := (true, "bf282ecfd57a6d4411c61a745f3a4c5aa9879595110fb2596363e6495ba9cbb1"), looks := false }, kinds := [], alts := [], laidByText := true, laidKinds := [.data, .data, .data], laidTests := true, laidLooks := .later }
def ParseGoodCardSaid : Prop := Claim7.holds Tryz.pinned (.plain (OpenSpec.ofChange parseGoodSpec)) parseGoodCard

/-- THE TIED CARD OF 'renlaw8.EarlySame'. -/
def earlySameCard : Claim7 := { stood := { row := earlySameRow, standIns := [], harness := (true, "bf282ecfd57a6d4411c61a745f3a4c5aa9879595110fb2596363e6495ba9cbb1"), looks := false }, kinds := [], alts := [], laidByText := true, laidKinds := [.data, .data, .data, .data, .pinned], laidTests := true, laidLooks := .later }
def EarlySameCardSaid : Prop := Claim7.holds Tryz.pinned (.plain (OpenSpec.ofChange earlySameSpec)) earlySameCard

/-- THE SECOND FORM's CARD OF 'renlaw7.ParseEnds'. -/
def parseEndsUptoCard : Claim7 := { stood := { row := parseEndsUptoRow, standIns := [], harness := (true, "bf282ecfd57a6d4411c61a745f3a4c5aa9879595110fb2596363e6495ba9cbb1"), looks := false }, kinds := [], alts := [], laidByText := true, laidKinds := [.data, .data, .data], laidTests := true, laidLooks := .later }
def ParseEndsUptoCardSaid : Prop := Claim7.holds Tryz.pinned (.plain (OpenSpec.upto parseEndsSpec)) parseEndsUptoCard

/-- THE SECOND FORM's CARD OF 'renlaw7.ParseBlanks'. -/
def parseBlanksUptoCard : Claim7 := { stood := { row := parseBlanksUptoRow, standIns := [], harness := (true, "bf282ecfd57a6d4411c61a745f3a4c5aa9879595110fb2596363e6495ba9cbb1"), looks := false }, kinds := [], alts := [], laidByText := true, laidKinds := [.data, .data, .data], laidTests := true, laidLooks := .later }
def ParseBlanksUptoCardSaid : Prop := Claim7.holds Tryz.pinned (.plain (OpenSpec.upto parseBlanksSpec)) parseBlanksUptoCard

/-- THE SECOND FORM's CARD OF 'renlaw7.ParseLines'. -/
def parseLinesUptoCard : Claim7 := { stood := { row := parseLinesUptoRow, standIns := [], harness := (true, "bf282ecfd57a6d4411c61a745f3a4c5aa9879595110fb2596363e6495ba9cbb1"), looks := false }, kinds := [], alts := [], laidByText := true, laidKinds := [.data, .data, .data], laidTests := true, laidLooks := .later }
def ParseLinesUptoCardSaid : Prop := Claim7.holds Tryz.pinned (.plain (OpenSpec.upto parseLinesSpec)) parseLinesUptoCard

/-- THE SECOND FORM's CARD OF 'renlaw7.ParseBrackets'. -/
def parseBracketsUptoCard : Claim7 := { stood := { row := parseBracketsUptoRow, standIns := [], harness := (true, "bf282ecfd57a6d4411c61a745f3a4c5aa9879595110fb2596363e6495ba9cbb1"), looks := false }, kinds := [], alts := [], laidByText := true, laidKinds := [.data, .data, .data], laidTests := true, laidLooks := .later }
def ParseBracketsUptoCardSaid : Prop := Claim7.holds Tryz.pinned (.plain (OpenSpec.upto parseBracketsSpec)) parseBracketsUptoCard

/-- THE SECOND FORM's CARD OF 'renlaw7.ParseBlocks'. -/
def parseBlocksUptoCard : Claim7 := { stood := { row := parseBlocksUptoRow, standIns := [], harness := (true, "bf282ecfd57a6d4411c61a745f3a4c5aa9879595110fb2596363e6495ba9cbb1"), looks := false }, kinds := [], alts := [], laidByText := true, laidKinds := [.data, .data, .data], laidTests := true, laidLooks := .later }
def ParseBlocksUptoCardSaid : Prop := Claim7.holds Tryz.pinned (.plain (OpenSpec.upto parseBlocksSpec)) parseBlocksUptoCard

/-- THE SECOND FORM's CARD OF 'renlaw8.EarlyTotal'. -/
def earlyTotalUptoCard : Claim7 := { stood := { row := earlyTotalUptoRow, standIns := [], harness := (true, "bf282ecfd57a6d4411c61a745f3a4c5aa9879595110fb2596363e6495ba9cbb1"), looks := false }, kinds := [], alts := [], laidByText := true, laidKinds := [.data, .data, .data, .data, .pinned], laidTests := true, laidLooks := .later }
def EarlyTotalUptoCardSaid : Prop := Claim7.holds Tryz.pinned (.plain (OpenSpec.upto earlyTotalSpec)) earlyTotalUptoCard

/-- THE SECOND FORM's CARD OF 'renlaw8.EarlyRefuses'. -/
def earlyRefusesUptoCard : Claim7 := { stood := { row := earlyRefusesUptoRow, standIns := [], harness := (true, "bf282ecfd57a6d4411c61a745f3a4c5aa9879595110fb2596363e6495ba9cbb1"), looks := false }, kinds := [], alts := [], laidByText := true, laidKinds := [.data, .data, .data, .data, .pinned], laidTests := true, laidLooks := .later }
def EarlyRefusesUptoCardSaid : Prop := Claim7.holds Tryz.pinned (.plain (OpenSpec.upto earlyRefusesSpec)) earlyRefusesUptoCard

/-- THE SECOND FORM's CARD OF 'renlaw8.EarlyBlocks'. -/
def earlyBlocksUptoCard : Claim7 := { stood := { row := earlyBlocksUptoRow, standIns := [], harness := (true, "bf282ecfd57a6d4411c61a745f3a4c5aa9879595110fb2596363e6495ba9cbb1"), looks := false }, kinds := [], alts := [], laidByText := true, laidKinds := [.data, .data, .data, .data, .pinned], laidTests := true, laidLooks := .later }
def EarlyBlocksUptoCardSaid : Prop := Claim7.holds Tryz.pinned (.plain (OpenSpec.upto earlyBlocksSpec)) earlyBlocksUptoCard

/-- THE SECOND FORM's CARD OF 'renlaw8.EarlyTwice'. -/
def earlyTwiceUptoCard : Claim7 := { stood := { row := earlyTwiceUptoRow, standIns := [], harness := (true, "bf282ecfd57a6d4411c61a745f3a4c5aa9879595110fb2596363e6495ba9cbb1"), looks := false }, kinds := [], alts := [], laidByText := true, laidKinds := [.data, .data, .data, .data, .pinned], laidTests := true, laidLooks := .later }
def EarlyTwiceUptoCardSaid : Prop := Claim7.holds Tryz.pinned (.plain (OpenSpec.upto earlyTwiceSpec)) earlyTwiceUptoCard

/-- THE SECOND FORM's CARD OF 'renlaw7.ParseBack'. -/
def parseBackUptoCard : Claim7 := { stood := { row := parseBackUptoRow, standIns := [], harness := (true, "bf282ecfd57a6d4411c61a745f3a4c5aa9879595110fb2596363e6495ba9cbb1"), looks := false }, kinds := [], alts := [], laidByText := true, laidKinds := [.data, .data, .data], laidTests := true, laidLooks := .later }
def ParseBackUptoCardSaid : Prop := Claim7.holds Tryz.pinned (.plain (OpenSpec.upto parseBackSpec)) parseBackUptoCard

/-- THE SECOND FORM's CARD OF 'renlaw7.ParseGood'. -/
def parseGoodUptoCard : Claim7 := { stood := { row := parseGoodUptoRow, standIns := [], harness := (true, "bf282ecfd57a6d4411c61a745f3a4c5aa9879595110fb2596363e6495ba9cbb1"), looks := false }, kinds := [], alts := [], laidByText := true, laidKinds := [.data, .data, .data], laidTests := true, laidLooks := .later }
def ParseGoodUptoCardSaid : Prop := Claim7.holds Tryz.pinned (.plain (OpenSpec.upto parseGoodSpec)) parseGoodUptoCard

/-- THE SECOND FORM's CARD OF 'renlaw8.EarlySame'. -/
def earlySameUptoCard : Claim7 := { stood := { row := earlySameUptoRow, standIns := [], harness := (true, "bf282ecfd57a6d4411c61a745f3a4c5aa9879595110fb2596363e6495ba9cbb1"), looks := false }, kinds := [], alts := [], laidByText := true, laidKinds := [.data, .data, .data, .data, .pinned], laidTests := true, laidLooks := .later }
def EarlySameUptoCardSaid : Prop := Claim7.holds Tryz.pinned (.plain (OpenSpec.upto earlySameSpec)) earlySameUptoCard
end Rows
end Go.Proofs.YtlohaclgbfhijaaGreatDoor
