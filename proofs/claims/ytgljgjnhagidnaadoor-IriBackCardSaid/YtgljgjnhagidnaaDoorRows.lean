/-
  NARROWER THAN 'FOR EVERY INPUT', by the rows' own cells (each row's printed sentence says how): IriCuts: laid · IriBack: laid · IriDots: laid · IriWhole: laid · IriFragments: laid.
  DERIVED. THE GIVEN ROWS OF THIS SEAT. 5 by the template 'for every input the law returns true; each argument reads behind the call as it read before'; 0 by the template 'total and deterministic' (their statements: YtgljgjnhagidnaaDoorTotals.lean).
  GIVEN WITH THE SEED: the statements are not yours to turn. If you find one false, say at which input.
  Laid BY PROGRAM, IN A SANDBOX (cutbox-rows.mjs): the forced cells as the released guide's own fill.sh prints them over the translation 6938c954a0651a17… (all of the seat's roots in one cut). By AI agents, Wed Nov 11 2026. No macro, syntax, notation, axiom, sorry.
-/
import Derived.Test.YtgljgjnhagidnaaDoorChecked
import GoSem.PinnedTables
import GoSem.Claim
import GoSem.ClaimJoined
import GoSem.ClaimMapViews
import Derived.JoinedTies
import Derived.KernelRfl
namespace Go.Proofs.YtgljgjnhagidnaaDoor
/- THE CELL 'sum', in the pinned program and in every row, IS THE sha256 OF THE DUMP (.gsa) THAT YtgljgjnhagidnaaDoorProg.lean LOADS. Nothing in Lean hashes anything: it is a label: what it is worth is what the hold of that sum in a sandbox is worth. -/
noncomputable def Tryd.pinned : Pinned := { name := "ytgljgjnhagidnaadoor", sum := "6938c954a0651a178013e82debeb1d49033f5fb4734f912283ddc96feec0dd31", checked := Tryd.checked }
namespace Rows
def none {H : Type} : Left H := { results := [], args := [] }

/- WHAT THE LISTED PACKAGE-LEVEL VARIABLES READ AS WHEN THE CALL BEGINS. Each datum BY PROGRAM (the guide's laid-datum.mjs) off the statement by which the dump's own 'gosem.cut.vars' lays the variable. In a bare row this is a premise. The card (YtgljgjnhagidnaaDoorCards.lean) ties it to the program's text. -/
def laid_unicode_utf8_acceptRanges {H : Type} : DataW H := .agg [.agg [.lit (.int .u8 128), .lit (.int .u8 191)], .agg [.lit (.int .u8 160), .lit (.int .u8 191)], .agg [.lit (.int .u8 128), .lit (.int .u8 159)], .agg [.lit (.int .u8 144), .lit (.int .u8 191)], .agg [.lit (.int .u8 128), .lit (.int .u8 143)], .agg [.lit (.int .u8 0), .lit (.int .u8 0)], .agg [.lit (.int .u8 0), .lit (.int .u8 0)], .agg [.lit (.int .u8 0), .lit (.int .u8 0)], .agg [.lit (.int .u8 0), .lit (.int .u8 0)], .agg [.lit (.int .u8 0), .lit (.int .u8 0)], .agg [.lit (.int .u8 0), .lit (.int .u8 0)], .agg [.lit (.int .u8 0), .lit (.int .u8 0)], .agg [.lit (.int .u8 0), .lit (.int .u8 0)], .agg [.lit (.int .u8 0), .lit (.int .u8 0)], .agg [.lit (.int .u8 0), .lit (.int .u8 0)], .agg [.lit (.int .u8 0), .lit (.int .u8 0)]]
/-- One of Go's own tables, pinned by name: the form's constant. -/
def laid_unicode_utf8_first : DataW Unit := Go.Pinned.utf8First

/-- 'etuilaw16.IriCuts': WHATEVER THE INPUT: true; the input reads as it did. -/
def iriCutsSpec : ChangeSpec := { name := "iriCuts", fn := fun _ => fun
  | [d1, d2] => { results := [.lit (.bool true)], args := [d1, d2] }
  | _ => none }
def iriCutsRow : OpenClaim := { program := "ytgljgjnhagidnaadoor", sum := "6938c954a0651a178013e82debeb1d49033f5fb4734f912283ddc96feec0dd31", func := "etui/etuilaw16.IriCuts", spec := "iriCuts", inPlace := ["internal/bytealg.IndexByteString", "internal/bytealg.IndexString", "internal/bytealg.CountString", "internal/abi.NoEscape", "internal/bytealg.MakeNoZero"], unfollowed := true, recurses := true, named := ["internal/bytealg.MaxLen", "unicode/utf8.first", "unicode/utf8.acceptRanges"], apart := false, laid := [("unicode/utf8.acceptRanges", laid_unicode_utf8_acceptRanges), ("unicode/utf8.first", laid_unicode_utf8_first)] }
def IriCutsSaid : Prop := iriCutsRow.holds Tryd.pinned (OpenSpec.ofChange iriCutsSpec)

/-- ITS FALSE NEIGHBOUR: 'it returns false'. Refute it at one input. -/
def iriCutsWrong : ChangeSpec := { name := "iriCuts", fn := fun _ => fun
  | [d1, d2] => { results := [.lit (.bool false)], args := [d1, d2] }
  | _ => none }
def IriCutsWrongFalsely : Prop := iriCutsRow.holds Tryd.pinned (OpenSpec.ofChange iriCutsWrong)

/-- 'etuilaw16.IriBack': WHATEVER THE INPUT: true; the input reads as it did. -/
def iriBackSpec : ChangeSpec := { name := "iriBack", fn := fun _ => fun
  | [d1, d2] => { results := [.lit (.bool true)], args := [d1, d2] }
  | _ => none }
def iriBackRow : OpenClaim := { program := "ytgljgjnhagidnaadoor", sum := "6938c954a0651a178013e82debeb1d49033f5fb4734f912283ddc96feec0dd31", func := "etui/etuilaw16.IriBack", spec := "iriBack", inPlace := ["internal/bytealg.IndexByteString", "internal/bytealg.IndexString", "internal/bytealg.CountString", "internal/abi.NoEscape", "internal/bytealg.MakeNoZero"], unfollowed := true, recurses := true, named := ["internal/bytealg.MaxLen", "unicode/utf8.first", "unicode/utf8.acceptRanges"], apart := false, laid := [("unicode/utf8.acceptRanges", laid_unicode_utf8_acceptRanges), ("unicode/utf8.first", laid_unicode_utf8_first)] }
def IriBackSaid : Prop := iriBackRow.holds Tryd.pinned (OpenSpec.ofChange iriBackSpec)

/-- ITS FALSE NEIGHBOUR: 'it returns false'. Refute it at one input. -/
def iriBackWrong : ChangeSpec := { name := "iriBack", fn := fun _ => fun
  | [d1, d2] => { results := [.lit (.bool false)], args := [d1, d2] }
  | _ => none }
def IriBackWrongFalsely : Prop := iriBackRow.holds Tryd.pinned (OpenSpec.ofChange iriBackWrong)

/-- 'etuilaw16.IriDots': WHATEVER THE INPUT: true; the input reads as it did. -/
def iriDotsSpec : ChangeSpec := { name := "iriDots", fn := fun _ => fun
  | [d1, d2] => { results := [.lit (.bool true)], args := [d1, d2] }
  | _ => none }
def iriDotsRow : OpenClaim := { program := "ytgljgjnhagidnaadoor", sum := "6938c954a0651a178013e82debeb1d49033f5fb4734f912283ddc96feec0dd31", func := "etui/etuilaw16.IriDots", spec := "iriDots", inPlace := ["internal/bytealg.IndexByteString", "internal/bytealg.IndexString", "internal/bytealg.CountString", "internal/abi.NoEscape", "internal/bytealg.MakeNoZero"], unfollowed := true, recurses := true, named := ["internal/bytealg.MaxLen", "unicode/utf8.first", "unicode/utf8.acceptRanges"], apart := false, laid := [("unicode/utf8.acceptRanges", laid_unicode_utf8_acceptRanges), ("unicode/utf8.first", laid_unicode_utf8_first)] }
def IriDotsSaid : Prop := iriDotsRow.holds Tryd.pinned (OpenSpec.ofChange iriDotsSpec)

/-- ITS FALSE NEIGHBOUR: 'it returns false'. Refute it at one input. -/
def iriDotsWrong : ChangeSpec := { name := "iriDots", fn := fun _ => fun
  | [d1, d2] => { results := [.lit (.bool false)], args := [d1, d2] }
  | _ => none }
def IriDotsWrongFalsely : Prop := iriDotsRow.holds Tryd.pinned (OpenSpec.ofChange iriDotsWrong)

/-- 'etuilaw16.IriWhole': WHATEVER THE INPUT: true; the input reads as it did. -/
def iriWholeSpec : ChangeSpec := { name := "iriWhole", fn := fun _ => fun
  | [d1, d2, d3] => { results := [.lit (.bool true)], args := [d1, d2, d3] }
  | _ => none }
def iriWholeRow : OpenClaim := { program := "ytgljgjnhagidnaadoor", sum := "6938c954a0651a178013e82debeb1d49033f5fb4734f912283ddc96feec0dd31", func := "etui/etuilaw16.IriWhole", spec := "iriWhole", inPlace := ["internal/bytealg.IndexByteString", "internal/bytealg.IndexString", "internal/bytealg.CountString", "internal/abi.NoEscape", "internal/bytealg.MakeNoZero"], unfollowed := true, recurses := true, named := ["internal/bytealg.MaxLen", "unicode/utf8.first", "unicode/utf8.acceptRanges"], apart := false, laid := [("unicode/utf8.acceptRanges", laid_unicode_utf8_acceptRanges), ("unicode/utf8.first", laid_unicode_utf8_first)] }
def IriWholeSaid : Prop := iriWholeRow.holds Tryd.pinned (OpenSpec.ofChange iriWholeSpec)

/-- ITS FALSE NEIGHBOUR: 'it returns false'. Refute it at one input. -/
def iriWholeWrong : ChangeSpec := { name := "iriWhole", fn := fun _ => fun
  | [d1, d2, d3] => { results := [.lit (.bool false)], args := [d1, d2, d3] }
  | _ => none }
def IriWholeWrongFalsely : Prop := iriWholeRow.holds Tryd.pinned (OpenSpec.ofChange iriWholeWrong)

/-- 'etuilaw16.IriFragments': WHATEVER THE INPUT: true; the input reads as it did. -/
def iriFragmentsSpec : ChangeSpec := { name := "iriFragments", fn := fun _ => fun
  | [d1, d2, d3] => { results := [.lit (.bool true)], args := [d1, d2, d3] }
  | _ => none }
def iriFragmentsRow : OpenClaim := { program := "ytgljgjnhagidnaadoor", sum := "6938c954a0651a178013e82debeb1d49033f5fb4734f912283ddc96feec0dd31", func := "etui/etuilaw16.IriFragments", spec := "iriFragments", inPlace := ["internal/bytealg.IndexByteString", "internal/bytealg.IndexString", "internal/bytealg.CountString", "internal/abi.NoEscape", "internal/bytealg.MakeNoZero"], unfollowed := true, recurses := true, named := ["internal/bytealg.MaxLen", "unicode/utf8.first", "unicode/utf8.acceptRanges"], apart := false, laid := [("unicode/utf8.acceptRanges", laid_unicode_utf8_acceptRanges), ("unicode/utf8.first", laid_unicode_utf8_first)] }
def IriFragmentsSaid : Prop := iriFragmentsRow.holds Tryd.pinned (OpenSpec.ofChange iriFragmentsSpec)

/-- ITS FALSE NEIGHBOUR: 'it returns false'. Refute it at one input. -/
def iriFragmentsWrong : ChangeSpec := { name := "iriFragments", fn := fun _ => fun
  | [d1, d2, d3] => { results := [.lit (.bool false)], args := [d1, d2, d3] }
  | _ => none }
def IriFragmentsWrongFalsely : Prop := iriFragmentsRow.holds Tryd.pinned (OpenSpec.ofChange iriFragmentsWrong)

/- THE SECOND FORM. 'bulk': how many values and letters a reading holds, each counted each time it is reached (what is shared counts as often as it is met; a slice's spare places count too). A statement '..UptoSaid' is the law's where the arguments, and the package variables that the reading takes, are together of bulk at most 1048576: NARROWER than '..Said'. Prove '..Said' where nothing that the law and all that it calls make is longer than what came in: it says more and counts as full. Else prove '..UptoSaid'. A law counts once. -/
mutual
def uptoBulk {H : Type} : DataW H → Nat
  | .lit (.string bytes) => bytes.length + 1
  | .lit _ => 1
  | .nil => 1
  | .ptr d => uptoBulk d + 1
  | .slice elems spare => uptoBulkAll elems + uptoBulkAll spare + 1
  | .agg parts => uptoBulkAll parts + 1
  | .iface _ d => uptoBulk d + 1
  | .map entries => uptoBulkEntries entries + 1
  | .held _ => 1
def uptoBulkAll {H : Type} : List (DataW H) → Nat
  | [] => 0
  | d :: r => uptoBulk d + uptoBulkAll r
def uptoBulkEntries {H : Type} : List (Lit × DataW H) → Nat
  | [] => 0
  | x :: r => uptoBulkEntry x + uptoBulkEntries r
def uptoBulkEntry {H : Type} : Lit × DataW H → Nat
  | (.string bytes, d) => bytes.length + uptoBulk d + 1
  | (_, d) => uptoBulk d + 1
 end
def uptoSmall : (H : Type) → List (DataW H) → Bool := fun _ ds => decide (uptoBulkAll ds ≤ 1048576)
def OpenSpec.upto (s : _root_.Go.ChangeSpec) : _root_.Go.OpenSpec := { _root_.Go.OpenSpec.ofChange s with cond := some uptoSmall }

/-- 'etuilaw16.IriCuts', WHERE WHAT IT READS IS OF BULK AT MOST 1048576: true; the input reads as it did. -/
def iriCutsUptoRow : OpenClaim := { program := "ytgljgjnhagidnaadoor", sum := "6938c954a0651a178013e82debeb1d49033f5fb4734f912283ddc96feec0dd31", func := "etui/etuilaw16.IriCuts", spec := "iriCuts", inPlace := ["internal/bytealg.IndexByteString", "internal/bytealg.IndexString", "internal/bytealg.CountString", "internal/abi.NoEscape", "internal/bytealg.MakeNoZero"], unfollowed := true, recurses := true, named := ["internal/bytealg.MaxLen", "unicode/utf8.first", "unicode/utf8.acceptRanges"], apart := false, laid := [("unicode/utf8.acceptRanges", laid_unicode_utf8_acceptRanges), ("unicode/utf8.first", laid_unicode_utf8_first)], narrowed := true }
def IriCutsUptoSaid : Prop := iriCutsUptoRow.holds Tryd.pinned (OpenSpec.upto iriCutsSpec)

/-- 'etuilaw16.IriBack', WHERE WHAT IT READS IS OF BULK AT MOST 1048576: true; the input reads as it did. -/
def iriBackUptoRow : OpenClaim := { program := "ytgljgjnhagidnaadoor", sum := "6938c954a0651a178013e82debeb1d49033f5fb4734f912283ddc96feec0dd31", func := "etui/etuilaw16.IriBack", spec := "iriBack", inPlace := ["internal/bytealg.IndexByteString", "internal/bytealg.IndexString", "internal/bytealg.CountString", "internal/abi.NoEscape", "internal/bytealg.MakeNoZero"], unfollowed := true, recurses := true, named := ["internal/bytealg.MaxLen", "unicode/utf8.first", "unicode/utf8.acceptRanges"], apart := false, laid := [("unicode/utf8.acceptRanges", laid_unicode_utf8_acceptRanges), ("unicode/utf8.first", laid_unicode_utf8_first)], narrowed := true }
def IriBackUptoSaid : Prop := iriBackUptoRow.holds Tryd.pinned (OpenSpec.upto iriBackSpec)

/-- 'etuilaw16.IriDots', WHERE WHAT IT READS IS OF BULK AT MOST 1048576: true; the input reads as it did. -/
def iriDotsUptoRow : OpenClaim := { program := "ytgljgjnhagidnaadoor", sum := "6938c954a0651a178013e82debeb1d49033f5fb4734f912283ddc96feec0dd31", func := "etui/etuilaw16.IriDots", spec := "iriDots", inPlace := ["internal/bytealg.IndexByteString", "internal/bytealg.IndexString", "internal/bytealg.CountString", "internal/abi.NoEscape", "internal/bytealg.MakeNoZero"], unfollowed := true, recurses := true, named := ["internal/bytealg.MaxLen", "unicode/utf8.first", "unicode/utf8.acceptRanges"], apart := false, laid := [("unicode/utf8.acceptRanges", laid_unicode_utf8_acceptRanges), ("unicode/utf8.first", laid_unicode_utf8_first)], narrowed := true }
def IriDotsUptoSaid : Prop := iriDotsUptoRow.holds Tryd.pinned (OpenSpec.upto iriDotsSpec)

/-- 'etuilaw16.IriWhole', WHERE WHAT IT READS IS OF BULK AT MOST 1048576: true; the input reads as it did. -/
def iriWholeUptoRow : OpenClaim := { program := "ytgljgjnhagidnaadoor", sum := "6938c954a0651a178013e82debeb1d49033f5fb4734f912283ddc96feec0dd31", func := "etui/etuilaw16.IriWhole", spec := "iriWhole", inPlace := ["internal/bytealg.IndexByteString", "internal/bytealg.IndexString", "internal/bytealg.CountString", "internal/abi.NoEscape", "internal/bytealg.MakeNoZero"], unfollowed := true, recurses := true, named := ["internal/bytealg.MaxLen", "unicode/utf8.first", "unicode/utf8.acceptRanges"], apart := false, laid := [("unicode/utf8.acceptRanges", laid_unicode_utf8_acceptRanges), ("unicode/utf8.first", laid_unicode_utf8_first)], narrowed := true }
def IriWholeUptoSaid : Prop := iriWholeUptoRow.holds Tryd.pinned (OpenSpec.upto iriWholeSpec)

/-- 'etuilaw16.IriFragments', WHERE WHAT IT READS IS OF BULK AT MOST 1048576: true; the input reads as it did. -/
def iriFragmentsUptoRow : OpenClaim := { program := "ytgljgjnhagidnaadoor", sum := "6938c954a0651a178013e82debeb1d49033f5fb4734f912283ddc96feec0dd31", func := "etui/etuilaw16.IriFragments", spec := "iriFragments", inPlace := ["internal/bytealg.IndexByteString", "internal/bytealg.IndexString", "internal/bytealg.CountString", "internal/abi.NoEscape", "internal/bytealg.MakeNoZero"], unfollowed := true, recurses := true, named := ["internal/bytealg.MaxLen", "unicode/utf8.first", "unicode/utf8.acceptRanges"], apart := false, laid := [("unicode/utf8.acceptRanges", laid_unicode_utf8_acceptRanges), ("unicode/utf8.first", laid_unicode_utf8_first)], narrowed := true }
def IriFragmentsUptoSaid : Prop := iriFragmentsUptoRow.holds Tryd.pinned (OpenSpec.upto iriFragmentsSpec)

end Rows
end Go.Proofs.YtgljgjnhagidnaaDoor
