/-
  DERIVED. GIVEN WITH THE SEED: THE CARDS: each row of YtgljgjnhagidnaaDoorRows.lean that lists a variable, with what it lists TIED to the program's text (the seventh form; the later family's looks); each row that meets fmt, with fmt's text TOLD by the authors' own Lean function (tested against real Go, not proved from fmt's source: count such statements apart). THE CARD IS WHAT COUNTS. Prove the row's statement (the work); the ties are given (YtgljgjnhagidnaaDoorTie.lean); close each card by the builder's one call (the guide's Derived/Test/ToyasCard.lean, 'card_holds'). Laid BY PROGRAM, IN A SANDBOX (cutbox-door.mjs). By AI agents, Wed Nov 11 2026. No macro, syntax, notation, axiom, sorry.
-/
import Derived.Test.YtgljgjnhagidnaaDoorRows
import GoSem.ClaimSeven
namespace Go.Proofs.YtgljgjnhagidnaaDoor
namespace Rows

/-- THE TIED CARD OF 'etuilaw16.IriCuts'. -/
def iriCutsCard : Claim7 := { stood := { row := iriCutsRow, standIns := [], harness := (true, "5fcecb29393c22b9d8ea2d909b6dd5a15ee52920d8cbf4699c90d2646bf28e96"), looks := false }, kinds := [], alts := [], laidByText := true, laidKinds := [.data, .pinned], laidTests := true, laidLooks := .later }
def IriCutsCardSaid : Prop := Claim7.holds Tryd.pinned (.plain (OpenSpec.ofChange iriCutsSpec)) iriCutsCard

/-- THE TIED CARD OF 'etuilaw16.IriBack'. -/
def iriBackCard : Claim7 := { stood := { row := iriBackRow, standIns := [], harness := (true, "5fcecb29393c22b9d8ea2d909b6dd5a15ee52920d8cbf4699c90d2646bf28e96"), looks := false }, kinds := [], alts := [], laidByText := true, laidKinds := [.data, .pinned], laidTests := true, laidLooks := .later }
def IriBackCardSaid : Prop := Claim7.holds Tryd.pinned (.plain (OpenSpec.ofChange iriBackSpec)) iriBackCard

/-- THE TIED CARD OF 'etuilaw16.IriDots'. -/
def iriDotsCard : Claim7 := { stood := { row := iriDotsRow, standIns := [], harness := (true, "5fcecb29393c22b9d8ea2d909b6dd5a15ee52920d8cbf4699c90d2646bf28e96"), looks := false }, kinds := [], alts := [], laidByText := true, laidKinds := [.data, .pinned], laidTests := true, laidLooks := .later }
def IriDotsCardSaid : Prop := Claim7.holds Tryd.pinned (.plain (OpenSpec.ofChange iriDotsSpec)) iriDotsCard

/-- THE TIED CARD OF 'etuilaw16.IriWhole'. -/
def iriWholeCard : Claim7 := { stood := { row := iriWholeRow, standIns := [], harness := (true, "5fcecb29393c22b9d8ea2d909b6dd5a15ee52920d8cbf4699c90d2646bf28e96"), looks := false }, kinds := [], alts := [], laidByText := true, laidKinds := [.data, .pinned], laidTests := true, laidLooks := .later }
def IriWholeCardSaid : Prop := Claim7.holds Tryd.pinned (.plain (OpenSpec.ofChange iriWholeSpec)) iriWholeCard

/-- THE TIED CARD OF 'etuilaw16.IriFragments'. -/
def iriFragmentsCard : Claim7 := { stood := { row := iriFragmentsRow, standIns := [], harness := (true, "5fcecb29393c22b9d8ea2d909b6dd5a15ee52920d8cbf4699c90d2646bf28e96"), looks := false }, kinds := [], alts := [], laidByText := true, laidKinds := [.data, .pinned], laidTests := true, laidLooks := .later }
def IriFragmentsCardSaid : Prop := Claim7.holds Tryd.pinned (.plain (OpenSpec.ofChange iriFragmentsSpec)) iriFragmentsCard

/-- THE SECOND FORM's CARD OF 'etuilaw16.IriCuts'. -/
def iriCutsUptoCard : Claim7 := { stood := { row := iriCutsUptoRow, standIns := [], harness := (true, "5fcecb29393c22b9d8ea2d909b6dd5a15ee52920d8cbf4699c90d2646bf28e96"), looks := false }, kinds := [], alts := [], laidByText := true, laidKinds := [.data, .pinned], laidTests := true, laidLooks := .later }
def IriCutsUptoCardSaid : Prop := Claim7.holds Tryd.pinned (.plain (OpenSpec.upto iriCutsSpec)) iriCutsUptoCard

/-- THE SECOND FORM's CARD OF 'etuilaw16.IriBack'. -/
def iriBackUptoCard : Claim7 := { stood := { row := iriBackUptoRow, standIns := [], harness := (true, "5fcecb29393c22b9d8ea2d909b6dd5a15ee52920d8cbf4699c90d2646bf28e96"), looks := false }, kinds := [], alts := [], laidByText := true, laidKinds := [.data, .pinned], laidTests := true, laidLooks := .later }
def IriBackUptoCardSaid : Prop := Claim7.holds Tryd.pinned (.plain (OpenSpec.upto iriBackSpec)) iriBackUptoCard

/-- THE SECOND FORM's CARD OF 'etuilaw16.IriDots'. -/
def iriDotsUptoCard : Claim7 := { stood := { row := iriDotsUptoRow, standIns := [], harness := (true, "5fcecb29393c22b9d8ea2d909b6dd5a15ee52920d8cbf4699c90d2646bf28e96"), looks := false }, kinds := [], alts := [], laidByText := true, laidKinds := [.data, .pinned], laidTests := true, laidLooks := .later }
def IriDotsUptoCardSaid : Prop := Claim7.holds Tryd.pinned (.plain (OpenSpec.upto iriDotsSpec)) iriDotsUptoCard

/-- THE SECOND FORM's CARD OF 'etuilaw16.IriWhole'. -/
def iriWholeUptoCard : Claim7 := { stood := { row := iriWholeUptoRow, standIns := [], harness := (true, "5fcecb29393c22b9d8ea2d909b6dd5a15ee52920d8cbf4699c90d2646bf28e96"), looks := false }, kinds := [], alts := [], laidByText := true, laidKinds := [.data, .pinned], laidTests := true, laidLooks := .later }
def IriWholeUptoCardSaid : Prop := Claim7.holds Tryd.pinned (.plain (OpenSpec.upto iriWholeSpec)) iriWholeUptoCard

/-- THE SECOND FORM's CARD OF 'etuilaw16.IriFragments'. -/
def iriFragmentsUptoCard : Claim7 := { stood := { row := iriFragmentsUptoRow, standIns := [], harness := (true, "5fcecb29393c22b9d8ea2d909b6dd5a15ee52920d8cbf4699c90d2646bf28e96"), looks := false }, kinds := [], alts := [], laidByText := true, laidKinds := [.data, .pinned], laidTests := true, laidLooks := .later }
def IriFragmentsUptoCardSaid : Prop := Claim7.holds Tryd.pinned (.plain (OpenSpec.upto iriFragmentsSpec)) iriFragmentsUptoCard
end Rows
end Go.Proofs.YtgljgjnhagidnaaDoor
