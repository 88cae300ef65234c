/-
  DERIVED. GIVEN WITH THE SEED: THE CARDS: each row of YtjlfhidpmdgloaaGreatDoorRows.lean that lists a variable, with what it lists TIED to the program's text (the seventh form; the later family's looks); each row that meets fmt, with fmt's text TOLD by the authors' own Lean function (tested against real Go, not proved from fmt's source: count such statements apart). THE CARD IS WHAT COUNTS. Prove the row's statement (the work); the ties are given (YtjlfhidpmdgloaaGreatDoorTie.lean); close each card by the builder's one call (the guide's Derived/Test/ToyasCard.lean, 'card_holds'). Laid BY PROGRAM, IN A SANDBOX (cutbox-door.mjs). By AI agents, Wed Nov 11 2026. No macro, syntax, notation, axiom, sorry.
-/
import Derived.Test.YtjlfhidpmdgloaaGreatDoorRows
import GoSem.ClaimSeven
namespace Go.Proofs.YtjlfhidpmdgloaaGreatDoor
namespace Rows

/-- THE TIED CARD OF 'renlaw8.EarlySame'. -/
def earlySameCard : Claim7 := { stood := { row := earlySameRow, standIns := [], harness := (true, "7b475919f4c6de7941a27588f8541c6cf007119591aae3f32ef65ad0aad781a0"), looks := false }, kinds := [], alts := [], laidByText := true, laidKinds := [.data, .data, .data, .data, .pinned], laidTests := true, laidLooks := .later }
def EarlySameCardSaid : Prop := Claim7.holds Tryz.pinned (.plain (OpenSpec.ofChange earlySameSpec)) earlySameCard

/-- THE SECOND FORM's CARD OF 'renlaw8.EarlySame'. -/
def earlySameUptoCard : Claim7 := { stood := { row := earlySameUptoRow, standIns := [], harness := (true, "7b475919f4c6de7941a27588f8541c6cf007119591aae3f32ef65ad0aad781a0"), looks := false }, kinds := [], alts := [], laidByText := true, laidKinds := [.data, .data, .data, .data, .pinned], laidTests := true, laidLooks := .later }
def EarlySameUptoCardSaid : Prop := Claim7.holds Tryz.pinned (.plain (OpenSpec.upto earlySameSpec)) earlySameUptoCard
end Rows
end Go.Proofs.YtjlfhidpmdgloaaGreatDoor
