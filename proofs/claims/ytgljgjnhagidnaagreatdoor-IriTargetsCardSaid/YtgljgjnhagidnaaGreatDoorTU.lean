/- The start: what is known of the package-level variables, and the laws' own test that all is alive. -/
import Derived.Test.YtgljgjnhagidnaaGreatDoorTC
import Derived.Test.YtgljgjnhagidnaaGreatDoorDen04
namespace Go.Proofs.YtgljgjnhagidnaaGreatDoor.Den
open Go Go.Dn Go.Dn.M Go.Dn.Pl
set_option maxRecDepth 100000
set_option linter.unusedVariables false
set_option linter.unusedSimpArgs false

/-- What is known of the package-level variables. -/
def G0 (m : Int) : List AObj := [.row [.int .i64 m] 3 .ro, .gone, .gone]
theorem G0_max (m : Int) : MaxIs (G0 m) := ⟨_, m, rfl⟩
theorem alive1 (m : Int) (o : AObj) : seenOf 4 (f4 (apN 6) ((heapA (G0 m)).set 3 o) 4) = some (.bool true, gets ((heapA (G0 m)).set 3 o) 0 4, true) := by kernel_rfl
theorem alive1_ev (m : Int) (o : AObj) : Ev (f4 (apN 6)) ((heapA (G0 m)).set 3 o) 4 fun v H' n' => v = .bool true ∧ Fr 4 ((heapA (G0 m)).set 3 o) n' H' := ran (alive1 m o)
theorem alive0 (m : Int) : seenOf 3 (f4 (apN 6) (heapA (G0 m)) 3) = some (.bool true, gets (heapA (G0 m)) 0 3, true) := by kernel_rfl
theorem alive0_ev (m : Int) : Ev (f4 (apN 6)) (heapA (G0 m)) 3 fun v H' n' => v = .bool true ∧ Fr 3 (heapA (G0 m)) n' H' := ran (alive0 m)
end Go.Proofs.YtgljgjnhagidnaaGreatDoor.Den
