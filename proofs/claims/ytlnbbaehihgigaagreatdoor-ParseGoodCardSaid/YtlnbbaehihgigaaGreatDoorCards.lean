/-
  DERIVED. GIVEN WITH THE SEED: THE CARDS: each row of YtlnbbaehihgigaaGreatDoorRows.lean that lists a variable, with what it lists TIED to the program's text (the seventh form; the later family's looks); each row that meets fmt, with fmt's text TOLD by the authors' own Lean function (tested against real Go, not proved from fmt's source: count such statements apart). THE CARD IS WHAT COUNTS. Prove the row's statement (the work); the ties are given (YtlnbbaehihgigaaGreatDoorTie.lean); close each card by the builder's one call (the guide's Derived/Test/ToyasCard.lean, 'card_holds'). Laid BY PROGRAM, IN A SANDBOX (cutbox-door.mjs). By AI agents, Wed Nov 11 2026. No macro, syntax, notation, axiom, sorry.
-/
import Derived.Test.YtlnbbaehihgigaaGreatDoorRows
import GoSem.ClaimSeven
namespace Go.Proofs.YtlnbbaehihgigaaGreatDoor
namespace Rows

/-- THE TIED CARD OF 'renlaw7.ParseBack'. -/
def parseBackCard : Claim7 := { stood := { row := parseBackRow, standIns := [], harness := (true, "34e707c12e1c885518a8d8d52eff28428d389ae628002e3500425001835268f9"), looks := false }, kinds := [], alts := [], laidByText := true, laidKinds := [.data, .data, .data], laidTests := true, laidLooks := .later }
def ParseBackCardSaid : Prop := Claim7.holds Tryz.pinned (.plain (OpenSpec.ofChange parseBackSpec)) parseBackCard

/-- THE TIED CARD OF 'renlaw7.ParseGood'. -/
def parseGoodCard : Claim7 := { stood := { row := parseGoodRow, standIns := [], harness := (true, "34e707c12e1c885518a8d8d52eff28428d389ae628002e3500425001835268f9"), looks := false }, kinds := [], alts := [], laidByText := true, laidKinds := [.data, .data, .data], laidTests := true, laidLooks := .later }
def ParseGoodCardSaid : Prop := Claim7.holds Tryz.pinned (.plain (OpenSpec.ofChange parseGoodSpec)) parseGoodCard

/-- THE SECOND FORM's CARD OF 'renlaw7.ParseBack'. -/
def parseBackUptoCard : Claim7 := { stood := { row := parseBackUptoRow, standIns := [], harness := (true, "34e707c12e1c885518a8d8d52eff28428d389ae628002e3500425001835268f9"), looks := false }, kinds := [], alts := [], laidByText := true, laidKinds := [.data, .data, .data], laidTests := true, laidLooks := .later }
def ParseBackUptoCardSaid : Prop := Claim7.holds Tryz.pinned (.plain (OpenSpec.upto parseBackSpec)) parseBackUptoCard

/-- THE SECOND FORM's CARD OF 'renlaw7.ParseGood'. -/
def parseGoodUptoCard : Claim7 := { stood := { row := parseGoodUptoRow, standIns := [], harness := (true, "34e707c12e1c885518a8d8d52eff28428d389ae628002e3500425001835268f9"), looks := false }, kinds := [], alts := [], laidByText := true, laidKinds := [.data, .data, .data], laidTests := true, laidLooks := .later }
def ParseGoodUptoCardSaid : Prop := Claim7.holds Tryz.pinned (.plain (OpenSpec.upto parseGoodSpec)) parseGoodUptoCard
end Rows
end Go.Proofs.YtlnbbaehihgigaaGreatDoor
