/-
  DERIVED. GIVEN WITH THE SEED: THE CARDS: each row of YtelcjdblnagdgaaDoorRows.lean that lists a variable, with what it lists TIED to the program's text (the seventh form; the later family's looks); each row that meets fmt, with fmt's text TOLD by the authors' own Lean function (tested against real Go, not proved from fmt's source: count such statements apart). THE CARD IS WHAT COUNTS. Prove the row's statement (the work); the ties are given (YtelcjdblnagdgaaDoorTie.lean); close each card by the builder's one call (the guide's Derived/Test/ToyasCard.lean, 'card_holds'). Laid BY PROGRAM, IN A SANDBOX (cutbox-door.mjs). By AI agents, Wed Nov 11 2026. No macro, syntax, notation, axiom, sorry.
-/
import Derived.Test.YtelcjdblnagdgaaDoorRows
import GoSem.ClaimSeven
namespace Go.Proofs.YtelcjdblnagdgaaDoor
namespace Rows

/-- THE TIED CARD OF 'renlaw6.TreeOrder'. -/
def treeOrderCard : Claim7 := { stood := { row := treeOrderRow, standIns := [], harness := (true, "3e6963ac07c8ed1ba88020e6740226387038a7e107f8dec65d9b4d9a2c217711"), looks := false }, kinds := [], alts := [], laidByText := true, laidKinds := [.data, .data, .data], laidTests := true, laidLooks := .later }
def TreeOrderCardSaid : Prop := Claim7.holds Tryd.pinned (.plain (OpenSpec.ofChange treeOrderSpec)) treeOrderCard

/-- THE TIED CARD OF 'renlaw6.TreeAscii'. -/
def treeAsciiCard : Claim7 := { stood := { row := treeAsciiRow, standIns := [], harness := (true, "3e6963ac07c8ed1ba88020e6740226387038a7e107f8dec65d9b4d9a2c217711"), looks := false }, kinds := [], alts := [], laidByText := true, laidKinds := [.data, .data, .data], laidTests := true, laidLooks := .later }
def TreeAsciiCardSaid : Prop := Claim7.holds Tryd.pinned (.plain (OpenSpec.ofChange treeAsciiSpec)) treeAsciiCard

/-- THE TIED CARD OF 'renlaw6.TreeMore'. -/
def treeMoreCard : Claim7 := { stood := { row := treeMoreRow, standIns := [], harness := (true, "3e6963ac07c8ed1ba88020e6740226387038a7e107f8dec65d9b4d9a2c217711"), looks := false }, kinds := [], alts := [], laidByText := true, laidKinds := [.data, .data, .data], laidTests := true, laidLooks := .later }
def TreeMoreCardSaid : Prop := Claim7.holds Tryd.pinned (.plain (OpenSpec.ofChange treeMoreSpec)) treeMoreCard

/-- THE TIED CARD OF 'renlaw6.TreeNest'. -/
def treeNestCard : Claim7 := { stood := { row := treeNestRow, standIns := [], harness := (true, "3e6963ac07c8ed1ba88020e6740226387038a7e107f8dec65d9b4d9a2c217711"), looks := false }, kinds := [], alts := [], laidByText := true, laidKinds := [.data, .data, .data], laidTests := true, laidLooks := .later }
def TreeNestCardSaid : Prop := Claim7.holds Tryd.pinned (.plain (OpenSpec.ofChange treeNestSpec)) treeNestCard

/-- THE TIED CARD OF 'renlaw6.TreeSame'. -/
def treeSameCard : Claim7 := { stood := { row := treeSameRow, standIns := [], harness := (true, "3e6963ac07c8ed1ba88020e6740226387038a7e107f8dec65d9b4d9a2c217711"), looks := false }, kinds := [], alts := [], laidByText := true, laidKinds := [.data, .data, .data], laidTests := true, laidLooks := .later }
def TreeSameCardSaid : Prop := Claim7.holds Tryd.pinned (.plain (OpenSpec.ofChange treeSameSpec)) treeSameCard

/-- THE TIED CARD OF 'renlaw6.TreeTurns'. -/
def treeTurnsCard : Claim7 := { stood := { row := treeTurnsRow, standIns := [], harness := (true, "3e6963ac07c8ed1ba88020e6740226387038a7e107f8dec65d9b4d9a2c217711"), looks := false }, kinds := [], alts := [], laidByText := true, laidKinds := [.data, .data, .data], laidTests := true, laidLooks := .later }
def TreeTurnsCardSaid : Prop := Claim7.holds Tryd.pinned (.plain (OpenSpec.ofChange treeTurnsSpec)) treeTurnsCard

/-- THE SECOND FORM's CARD OF 'renlaw6.TreeOrder'. -/
def treeOrderUptoCard : Claim7 := { stood := { row := treeOrderUptoRow, standIns := [], harness := (true, "3e6963ac07c8ed1ba88020e6740226387038a7e107f8dec65d9b4d9a2c217711"), looks := false }, kinds := [], alts := [], laidByText := true, laidKinds := [.data, .data, .data], laidTests := true, laidLooks := .later }
def TreeOrderUptoCardSaid : Prop := Claim7.holds Tryd.pinned (.plain (OpenSpec.upto treeOrderSpec)) treeOrderUptoCard

/-- THE SECOND FORM's CARD OF 'renlaw6.TreeAscii'. -/
def treeAsciiUptoCard : Claim7 := { stood := { row := treeAsciiUptoRow, standIns := [], harness := (true, "3e6963ac07c8ed1ba88020e6740226387038a7e107f8dec65d9b4d9a2c217711"), looks := false }, kinds := [], alts := [], laidByText := true, laidKinds := [.data, .data, .data], laidTests := true, laidLooks := .later }
def TreeAsciiUptoCardSaid : Prop := Claim7.holds Tryd.pinned (.plain (OpenSpec.upto treeAsciiSpec)) treeAsciiUptoCard

/-- THE SECOND FORM's CARD OF 'renlaw6.TreeMore'. -/
def treeMoreUptoCard : Claim7 := { stood := { row := treeMoreUptoRow, standIns := [], harness := (true, "3e6963ac07c8ed1ba88020e6740226387038a7e107f8dec65d9b4d9a2c217711"), looks := false }, kinds := [], alts := [], laidByText := true, laidKinds := [.data, .data, .data], laidTests := true, laidLooks := .later }
def TreeMoreUptoCardSaid : Prop := Claim7.holds Tryd.pinned (.plain (OpenSpec.upto treeMoreSpec)) treeMoreUptoCard

/-- THE SECOND FORM's CARD OF 'renlaw6.TreeNest'. -/
def treeNestUptoCard : Claim7 := { stood := { row := treeNestUptoRow, standIns := [], harness := (true, "3e6963ac07c8ed1ba88020e6740226387038a7e107f8dec65d9b4d9a2c217711"), looks := false }, kinds := [], alts := [], laidByText := true, laidKinds := [.data, .data, .data], laidTests := true, laidLooks := .later }
def TreeNestUptoCardSaid : Prop := Claim7.holds Tryd.pinned (.plain (OpenSpec.upto treeNestSpec)) treeNestUptoCard

/-- THE SECOND FORM's CARD OF 'renlaw6.TreeSame'. -/
def treeSameUptoCard : Claim7 := { stood := { row := treeSameUptoRow, standIns := [], harness := (true, "3e6963ac07c8ed1ba88020e6740226387038a7e107f8dec65d9b4d9a2c217711"), looks := false }, kinds := [], alts := [], laidByText := true, laidKinds := [.data, .data, .data], laidTests := true, laidLooks := .later }
def TreeSameUptoCardSaid : Prop := Claim7.holds Tryd.pinned (.plain (OpenSpec.upto treeSameSpec)) treeSameUptoCard

/-- THE SECOND FORM's CARD OF 'renlaw6.TreeTurns'. -/
def treeTurnsUptoCard : Claim7 := { stood := { row := treeTurnsUptoRow, standIns := [], harness := (true, "3e6963ac07c8ed1ba88020e6740226387038a7e107f8dec65d9b4d9a2c217711"), looks := false }, kinds := [], alts := [], laidByText := true, laidKinds := [.data, .data, .data], laidTests := true, laidLooks := .later }
def TreeTurnsUptoCardSaid : Prop := Claim7.holds Tryd.pinned (.plain (OpenSpec.upto treeTurnsSpec)) treeTurnsUptoCard
end Rows
end Go.Proofs.YtelcjdblnagdgaaDoor
