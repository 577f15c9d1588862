/-
  DERIVED. GIVEN WITH THE SEED: THE CARDS: each row of YtgljgjnhagidnaaGreatDoorRows.lean that lists a variable, with what it lists TIED to the program's text (the seventh form; the later family's looks); each row that meets fmt, with fmt's text TOLD by the authors' own Lean function (tested against real Go, not proved from fmt's source: count such statements apart). THE CARD IS WHAT COUNTS. Prove the row's statement (the work); the ties are given (YtgljgjnhagidnaaGreatDoorTie.lean); close each card by the builder's one call (the guide's Derived/Test/ToyasCard.lean, 'card_holds'). Laid BY PROGRAM, IN A SANDBOX (cutbox-door.mjs). By AI agents, Wed Nov 11 2026. No macro, syntax, notation, axiom, sorry.
-/
import Derived.Test.YtgljgjnhagidnaaGreatDoorRows
import GoSem.ClaimSeven
namespace Go.Proofs.YtgljgjnhagidnaaGreatDoor
namespace Rows

/-- THE TIED CARD OF 'etuilaw16.IriTargets'. -/
def iriTargetsCard : Claim7 := { stood := { row := iriTargetsRow, standIns := [], harness := (true, "79362fd3f8f74e34581aa4868eb6bf4aca92100ee212cc2825d934a440c7f1dd"), looks := false }, kinds := [], alts := [], laidByText := true, laidKinds := [.data, .pinned], laidTests := true, laidLooks := .later }
def IriTargetsCardSaid : Prop := Claim7.holds Tryz.pinned (.plain (OpenSpec.ofChange iriTargetsSpec)) iriTargetsCard

/-- THE SECOND FORM's CARD OF 'etuilaw16.IriTargets'. -/
def iriTargetsUptoCard : Claim7 := { stood := { row := iriTargetsUptoRow, standIns := [], harness := (true, "79362fd3f8f74e34581aa4868eb6bf4aca92100ee212cc2825d934a440c7f1dd"), looks := false }, kinds := [], alts := [], laidByText := true, laidKinds := [.data, .pinned], laidTests := true, laidLooks := .later }
def IriTargetsUptoCardSaid : Prop := Claim7.holds Tryz.pinned (.plain (OpenSpec.upto iriTargetsSpec)) iriTargetsUptoCard
end Rows
end Go.Proofs.YtgljgjnhagidnaaGreatDoor
