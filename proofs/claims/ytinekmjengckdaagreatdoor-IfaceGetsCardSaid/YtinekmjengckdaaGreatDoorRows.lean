/-
  NARROWER THAN 'FOR EVERY INPUT', by the rows' own cells (each row's printed sentence says how): IfacePuts: laid · IfaceGets: laid · IfaceBack: laid · IfaceOnly: laid · IfaceTurned: laid · IfaceDigests: laid.
  DERIVED. THE GIVEN ROWS OF THIS SEAT. 6 by the template 'for every input the law returns true; each argument reads behind the call as it read before'; 0 by the template 'total and deterministic' (their statements: YtinekmjengckdaaGreatDoorTotals.lean).
  GIVEN WITH THE SEED: the statements are not yours to turn. If you find one false, say at which input.
  Laid BY PROGRAM, IN A SANDBOX (cutbox-rows.mjs): the forced cells as the released guide's own fill.sh prints them over the translation 3cdaa1af1603eb35… (all of the seat's roots in one cut). By AI agents, Wed Nov 11 2026. No macro, syntax, notation, axiom, sorry.
-/
import Derived.Test.YtinekmjengckdaaGreatDoorChecked
import GoSem.Claim
import GoSem.ClaimJoined
import GoSem.ClaimMapViews
import Derived.JoinedTies
import Derived.KernelRfl
namespace Go.Proofs.YtinekmjengckdaaGreatDoor
/- THE CELL 'sum', in the pinned program and in every row, IS THE sha256 OF THE DUMP (.gsa) THAT YtinekmjengckdaaGreatDoorProg.lean LOADS. Nothing in Lean hashes anything: it is a label: what it is worth is what the hold of that sum in a sandbox is worth. -/
noncomputable def Tryz.pinned : Pinned := { name := "ytinekmjengckdaagreatdoor", sum := "3cdaa1af1603eb35e3047e67c050e0dbf119dd29d7e7b1f95946cee0f83112cc", checked := Tryz.checked }
namespace Rows
def none {H : Type} : Left H := { results := [], args := [] }

/- WHAT THE LISTED PACKAGE-LEVEL VARIABLES READ AS WHEN THE CALL BEGINS. Each datum BY PROGRAM (the guide's laid-datum.mjs) off the statement by which the dump's own 'gosem.cut.vars' lays the variable. In a bare row this is a premise. The card (YtinekmjengckdaaGreatDoorCards.lean) ties it to the program's text. -/
def laid_unicode_White_Space {H : Type} : DataW H := .ptr (.agg [.slice [.agg [.lit (.int .u16 9), .lit (.int .u16 13), .lit (.int .u16 1)], .agg [.lit (.int .u16 32), .lit (.int .u16 133), .lit (.int .u16 101)], .agg [.lit (.int .u16 160), .lit (.int .u16 5760), .lit (.int .u16 5600)], .agg [.lit (.int .u16 8192), .lit (.int .u16 8202), .lit (.int .u16 1)], .agg [.lit (.int .u16 8232), .lit (.int .u16 8233), .lit (.int .u16 1)], .agg [.lit (.int .u16 8239), .lit (.int .u16 8287), .lit (.int .u16 48)], .agg [.lit (.int .u16 12288), .lit (.int .u16 12288), .lit (.int .u16 1)]] [], .nil, .lit (.int .i64 2)])
def laid_strings_asciiSpace {H : Type} : DataW H := .agg [.lit (.int .u8 0), .lit (.int .u8 0), .lit (.int .u8 0), .lit (.int .u8 0), .lit (.int .u8 0), .lit (.int .u8 0), .lit (.int .u8 0), .lit (.int .u8 0), .lit (.int .u8 0), .lit (.int .u8 1), .lit (.int .u8 1), .lit (.int .u8 1), .lit (.int .u8 1), .lit (.int .u8 1), .lit (.int .u8 0), .lit (.int .u8 0), .lit (.int .u8 0), .lit (.int .u8 0), .lit (.int .u8 0), .lit (.int .u8 0), .lit (.int .u8 0), .lit (.int .u8 0), .lit (.int .u8 0), .lit (.int .u8 0), .lit (.int .u8 0), .lit (.int .u8 0), .lit (.int .u8 0), .lit (.int .u8 0), .lit (.int .u8 0), .lit (.int .u8 0), .lit (.int .u8 0), .lit (.int .u8 0), .lit (.int .u8 1), .lit (.int .u8 0), .lit (.int .u8 0), .lit (.int .u8 0), .lit (.int .u8 0), .lit (.int .u8 0), .lit (.int .u8 0), .lit (.int .u8 0), .lit (.int .u8 0), .lit (.int .u8 0), .lit (.int .u8 0), .lit (.int .u8 0), .lit (.int .u8 0), .lit (.int .u8 0), .lit (.int .u8 0), .lit (.int .u8 0), .lit (.int .u8 0), .lit (.int .u8 0), .lit (.int .u8 0), .lit (.int .u8 0), .lit (.int .u8 0), .lit (.int .u8 0), .lit (.int .u8 0), .lit (.int .u8 0), .lit (.int .u8 0), .lit (.int .u8 0), .lit (.int .u8 0), .lit (.int .u8 0), .lit (.int .u8 0), .lit (.int .u8 0), .lit (.int .u8 0), .lit (.int .u8 0), .lit (.int .u8 0), .lit (.int .u8 0), .lit (.int .u8 0), .lit (.int .u8 0), .lit (.int .u8 0), .lit (.int .u8 0), .lit (.int .u8 0), .lit (.int .u8 0), .lit (.int .u8 0), .lit (.int .u8 0), .lit (.int .u8 0), .lit (.int .u8 0), .lit (.int .u8 0), .lit (.int .u8 0), .lit (.int .u8 0), .lit (.int .u8 0), .lit (.int .u8 0), .lit (.int .u8 0), .lit (.int .u8 0), .lit (.int .u8 0), .lit (.int .u8 0), .lit (.int .u8 0), .lit (.int .u8 0), .lit (.int .u8 0), .lit (.int .u8 0), .lit (.int .u8 0), .lit (.int .u8 0), .lit (.int .u8 0), .lit (.int .u8 0), .lit (.int .u8 0), .lit (.int .u8 0), .lit (.int .u8 0), .lit (.int .u8 0), .lit (.int .u8 0), .lit (.int .u8 0), .lit (.int .u8 0), .lit (.int .u8 0), .lit (.int .u8 0), .lit (.int .u8 0), .lit (.int .u8 0), .lit (.int .u8 0), .lit (.int .u8 0), .lit (.int .u8 0), .lit (.int .u8 0), .lit (.int .u8 0), .lit (.int .u8 0), .lit (.int .u8 0), .lit (.int .u8 0), .lit (.int .u8 0), .lit (.int .u8 0), .lit (.int .u8 0), .lit (.int .u8 0), .lit (.int .u8 0), .lit (.int .u8 0), .lit (.int .u8 0), .lit (.int .u8 0), .lit (.int .u8 0), .lit (.int .u8 0), .lit (.int .u8 0), .lit (.int .u8 0), .lit (.int .u8 0), .lit (.int .u8 0), .lit (.int .u8 0), .lit (.int .u8 0), .lit (.int .u8 0), .lit (.int .u8 0), .lit (.int .u8 0), .lit (.int .u8 0), .lit (.int .u8 0), .lit (.int .u8 0), .lit (.int .u8 0), .lit (.int .u8 0), .lit (.int .u8 0), .lit (.int .u8 0), .lit (.int .u8 0), .lit (.int .u8 0), .lit (.int .u8 0), .lit (.int .u8 0), .lit (.int .u8 0), .lit (.int .u8 0), .lit (.int .u8 0), .lit (.int .u8 0), .lit (.int .u8 0), .lit (.int .u8 0), .lit (.int .u8 0), .lit (.int .u8 0), .lit (.int .u8 0), .lit (.int .u8 0), .lit (.int .u8 0), .lit (.int .u8 0), .lit (.int .u8 0), .lit (.int .u8 0), .lit (.int .u8 0), .lit (.int .u8 0), .lit (.int .u8 0), .lit (.int .u8 0), .lit (.int .u8 0), .lit (.int .u8 0), .lit (.int .u8 0), .lit (.int .u8 0), .lit (.int .u8 0), .lit (.int .u8 0), .lit (.int .u8 0), .lit (.int .u8 0), .lit (.int .u8 0), .lit (.int .u8 0), .lit (.int .u8 0), .lit (.int .u8 0), .lit (.int .u8 0), .lit (.int .u8 0), .lit (.int .u8 0), .lit (.int .u8 0), .lit (.int .u8 0), .lit (.int .u8 0), .lit (.int .u8 0), .lit (.int .u8 0), .lit (.int .u8 0), .lit (.int .u8 0), .lit (.int .u8 0), .lit (.int .u8 0), .lit (.int .u8 0), .lit (.int .u8 0), .lit (.int .u8 0), .lit (.int .u8 0), .lit (.int .u8 0), .lit (.int .u8 0), .lit (.int .u8 0), .lit (.int .u8 0), .lit (.int .u8 0), .lit (.int .u8 0), .lit (.int .u8 0), .lit (.int .u8 0), .lit (.int .u8 0), .lit (.int .u8 0), .lit (.int .u8 0), .lit (.int .u8 0), .lit (.int .u8 0), .lit (.int .u8 0), .lit (.int .u8 0), .lit (.int .u8 0), .lit (.int .u8 0), .lit (.int .u8 0), .lit (.int .u8 0), .lit (.int .u8 0), .lit (.int .u8 0), .lit (.int .u8 0), .lit (.int .u8 0), .lit (.int .u8 0), .lit (.int .u8 0), .lit (.int .u8 0), .lit (.int .u8 0), .lit (.int .u8 0), .lit (.int .u8 0), .lit (.int .u8 0), .lit (.int .u8 0), .lit (.int .u8 0), .lit (.int .u8 0), .lit (.int .u8 0), .lit (.int .u8 0), .lit (.int .u8 0), .lit (.int .u8 0), .lit (.int .u8 0), .lit (.int .u8 0), .lit (.int .u8 0), .lit (.int .u8 0), .lit (.int .u8 0), .lit (.int .u8 0), .lit (.int .u8 0), .lit (.int .u8 0), .lit (.int .u8 0), .lit (.int .u8 0), .lit (.int .u8 0), .lit (.int .u8 0), .lit (.int .u8 0), .lit (.int .u8 0), .lit (.int .u8 0), .lit (.int .u8 0), .lit (.int .u8 0), .lit (.int .u8 0), .lit (.int .u8 0), .lit (.int .u8 0), .lit (.int .u8 0), .lit (.int .u8 0), .lit (.int .u8 0), .lit (.int .u8 0), .lit (.int .u8 0), .lit (.int .u8 0), .lit (.int .u8 0), .lit (.int .u8 0), .lit (.int .u8 0), .lit (.int .u8 0), .lit (.int .u8 0)]

/-- 'triglyphlaw23.IfacePuts': WHATEVER THE INPUT: true; the input reads as it did. -/
def ifacePutsSpec : ChangeSpec := { name := "ifacePuts", fn := fun _ => fun
  | [d1, d2] => { results := [.lit (.bool true)], args := [d1, d2] }
  | _ => none }
def ifacePutsRow : OpenClaim := { program := "ytinekmjengckdaagreatdoor", sum := "3cdaa1af1603eb35e3047e67c050e0dbf119dd29d7e7b1f95946cee0f83112cc", func := "triglyph/triglyphlaw23.IfacePuts", spec := "ifacePuts", inPlace := ["internal/bytealg.IndexByteString"], unfollowed := true, recurses := true, named := ["strings.asciiSpace", "unicode.White_Space"], apart := false, laid := [("unicode.White_Space", laid_unicode_White_Space), ("strings.asciiSpace", laid_strings_asciiSpace)] }
def IfacePutsSaid : Prop := ifacePutsRow.holds Tryz.pinned (OpenSpec.ofChange ifacePutsSpec)

/-- ITS FALSE NEIGHBOUR: 'it returns false'. Refute it at one input. -/
def ifacePutsWrong : ChangeSpec := { name := "ifacePuts", fn := fun _ => fun
  | [d1, d2] => { results := [.lit (.bool false)], args := [d1, d2] }
  | _ => none }
def IfacePutsWrongFalsely : Prop := ifacePutsRow.holds Tryz.pinned (OpenSpec.ofChange ifacePutsWrong)

/-- 'triglyphlaw23.IfaceGets': WHATEVER THE INPUT: true; the input reads as it did. -/
def ifaceGetsSpec : ChangeSpec := { name := "ifaceGets", fn := fun _ => fun
  | [d] => { results := [.lit (.bool true)], args := [d] }
  | _ => none }
def ifaceGetsRow : OpenClaim := { program := "ytinekmjengckdaagreatdoor", sum := "3cdaa1af1603eb35e3047e67c050e0dbf119dd29d7e7b1f95946cee0f83112cc", func := "triglyph/triglyphlaw23.IfaceGets", spec := "ifaceGets", inPlace := ["internal/bytealg.IndexByteString"], unfollowed := true, recurses := true, named := ["strings.asciiSpace", "unicode.White_Space"], apart := false, laid := [("unicode.White_Space", laid_unicode_White_Space), ("strings.asciiSpace", laid_strings_asciiSpace)] }
def IfaceGetsSaid : Prop := ifaceGetsRow.holds Tryz.pinned (OpenSpec.ofChange ifaceGetsSpec)

/-- ITS FALSE NEIGHBOUR: 'it returns false'. Refute it at one input. -/
def ifaceGetsWrong : ChangeSpec := { name := "ifaceGets", fn := fun _ => fun
  | [d] => { results := [.lit (.bool false)], args := [d] }
  | _ => none }
def IfaceGetsWrongFalsely : Prop := ifaceGetsRow.holds Tryz.pinned (OpenSpec.ofChange ifaceGetsWrong)

/-- 'triglyphlaw23.IfaceBack': WHATEVER THE INPUT: true; the input reads as it did. -/
def ifaceBackSpec : ChangeSpec := { name := "ifaceBack", fn := fun _ => fun
  | [d] => { results := [.lit (.bool true)], args := [d] }
  | _ => none }
def ifaceBackRow : OpenClaim := { program := "ytinekmjengckdaagreatdoor", sum := "3cdaa1af1603eb35e3047e67c050e0dbf119dd29d7e7b1f95946cee0f83112cc", func := "triglyph/triglyphlaw23.IfaceBack", spec := "ifaceBack", inPlace := ["internal/bytealg.IndexByteString"], unfollowed := true, recurses := true, named := ["strings.asciiSpace", "unicode.White_Space"], apart := false, laid := [("unicode.White_Space", laid_unicode_White_Space), ("strings.asciiSpace", laid_strings_asciiSpace)] }
def IfaceBackSaid : Prop := ifaceBackRow.holds Tryz.pinned (OpenSpec.ofChange ifaceBackSpec)

/-- ITS FALSE NEIGHBOUR: 'it returns false'. Refute it at one input. -/
def ifaceBackWrong : ChangeSpec := { name := "ifaceBack", fn := fun _ => fun
  | [d] => { results := [.lit (.bool false)], args := [d] }
  | _ => none }
def IfaceBackWrongFalsely : Prop := ifaceBackRow.holds Tryz.pinned (OpenSpec.ofChange ifaceBackWrong)

/-- 'triglyphlaw23.IfaceOnly': WHATEVER THE INPUT: true; the input reads as it did. -/
def ifaceOnlySpec : ChangeSpec := { name := "ifaceOnly", fn := fun _ => fun
  | [d] => { results := [.lit (.bool true)], args := [d] }
  | _ => none }
def ifaceOnlyRow : OpenClaim := { program := "ytinekmjengckdaagreatdoor", sum := "3cdaa1af1603eb35e3047e67c050e0dbf119dd29d7e7b1f95946cee0f83112cc", func := "triglyph/triglyphlaw23.IfaceOnly", spec := "ifaceOnly", inPlace := ["internal/bytealg.IndexByteString"], unfollowed := true, recurses := true, named := ["strings.asciiSpace", "unicode.White_Space"], apart := false, laid := [("unicode.White_Space", laid_unicode_White_Space), ("strings.asciiSpace", laid_strings_asciiSpace)] }
def IfaceOnlySaid : Prop := ifaceOnlyRow.holds Tryz.pinned (OpenSpec.ofChange ifaceOnlySpec)

/-- ITS FALSE NEIGHBOUR: 'it returns false'. Refute it at one input. -/
def ifaceOnlyWrong : ChangeSpec := { name := "ifaceOnly", fn := fun _ => fun
  | [d] => { results := [.lit (.bool false)], args := [d] }
  | _ => none }
def IfaceOnlyWrongFalsely : Prop := ifaceOnlyRow.holds Tryz.pinned (OpenSpec.ofChange ifaceOnlyWrong)

/-- 'triglyphlaw23.IfaceTurned': WHATEVER THE INPUT: true; the input reads as it did. -/
def ifaceTurnedSpec : ChangeSpec := { name := "ifaceTurned", fn := fun _ => fun
  | [d1, d2, d3] => { results := [.lit (.bool true)], args := [d1, d2, d3] }
  | _ => none }
def ifaceTurnedRow : OpenClaim := { program := "ytinekmjengckdaagreatdoor", sum := "3cdaa1af1603eb35e3047e67c050e0dbf119dd29d7e7b1f95946cee0f83112cc", func := "triglyph/triglyphlaw23.IfaceTurned", spec := "ifaceTurned", inPlace := ["internal/bytealg.IndexByteString"], unfollowed := true, recurses := true, named := ["strings.asciiSpace", "unicode.White_Space"], apart := false, laid := [("unicode.White_Space", laid_unicode_White_Space), ("strings.asciiSpace", laid_strings_asciiSpace)] }
def IfaceTurnedSaid : Prop := ifaceTurnedRow.holds Tryz.pinned (OpenSpec.ofChange ifaceTurnedSpec)

/-- ITS FALSE NEIGHBOUR: 'it returns false'. Refute it at one input. -/
def ifaceTurnedWrong : ChangeSpec := { name := "ifaceTurned", fn := fun _ => fun
  | [d1, d2, d3] => { results := [.lit (.bool false)], args := [d1, d2, d3] }
  | _ => none }
def IfaceTurnedWrongFalsely : Prop := ifaceTurnedRow.holds Tryz.pinned (OpenSpec.ofChange ifaceTurnedWrong)

/-- 'triglyphlaw23.IfaceDigests': WHATEVER THE INPUT: true; the input reads as it did. -/
def ifaceDigestsSpec : ChangeSpec := { name := "ifaceDigests", fn := fun _ => fun
  | [d1, d2] => { results := [.lit (.bool true)], args := [d1, d2] }
  | _ => none }
def ifaceDigestsRow : OpenClaim := { program := "ytinekmjengckdaagreatdoor", sum := "3cdaa1af1603eb35e3047e67c050e0dbf119dd29d7e7b1f95946cee0f83112cc", func := "triglyph/triglyphlaw23.IfaceDigests", spec := "ifaceDigests", inPlace := ["internal/bytealg.IndexByteString"], unfollowed := true, recurses := true, named := ["strings.asciiSpace", "unicode.White_Space"], apart := false, laid := [("unicode.White_Space", laid_unicode_White_Space), ("strings.asciiSpace", laid_strings_asciiSpace)] }
def IfaceDigestsSaid : Prop := ifaceDigestsRow.holds Tryz.pinned (OpenSpec.ofChange ifaceDigestsSpec)

/-- ITS FALSE NEIGHBOUR: 'it returns false'. Refute it at one input. -/
def ifaceDigestsWrong : ChangeSpec := { name := "ifaceDigests", fn := fun _ => fun
  | [d1, d2] => { results := [.lit (.bool false)], args := [d1, d2] }
  | _ => none }
def IfaceDigestsWrongFalsely : Prop := ifaceDigestsRow.holds Tryz.pinned (OpenSpec.ofChange ifaceDigestsWrong)

/- THE SECOND FORM. 'bulk': how many values and letters a reading holds, each counted each time it is reached (what is shared counts as often as it is met; a slice's spare places count too). A statement '..UptoSaid' is the law's where the arguments, and the package variables that the reading takes, are together of bulk at most 1048576: NARROWER than '..Said'. Prove '..Said' where nothing that the law and all that it calls make is longer than what came in: it says more and counts as full. Else prove '..UptoSaid'. A law counts once. -/
mutual
def uptoBulk {H : Type} : DataW H → Nat
  | .lit (.string bytes) => bytes.length + 1
  | .lit _ => 1
  | .nil => 1
  | .ptr d => uptoBulk d + 1
  | .slice elems spare => uptoBulkAll elems + uptoBulkAll spare + 1
  | .agg parts => uptoBulkAll parts + 1
  | .iface _ d => uptoBulk d + 1
  | .map entries => uptoBulkEntries entries + 1
  | .held _ => 1
def uptoBulkAll {H : Type} : List (DataW H) → Nat
  | [] => 0
  | d :: r => uptoBulk d + uptoBulkAll r
def uptoBulkEntries {H : Type} : List (Lit × DataW H) → Nat
  | [] => 0
  | x :: r => uptoBulkEntry x + uptoBulkEntries r
def uptoBulkEntry {H : Type} : Lit × DataW H → Nat
  | (.string bytes, d) => bytes.length + uptoBulk d + 1
  | (_, d) => uptoBulk d + 1
 end
def uptoSmall : (H : Type) → List (DataW H) → Bool := fun _ ds => decide (uptoBulkAll ds ≤ 1048576)
def OpenSpec.upto (s : _root_.Go.ChangeSpec) : _root_.Go.OpenSpec := { _root_.Go.OpenSpec.ofChange s with cond := some uptoSmall }

/-- 'triglyphlaw23.IfacePuts', WHERE WHAT IT READS IS OF BULK AT MOST 1048576: true; the input reads as it did. -/
def ifacePutsUptoRow : OpenClaim := { program := "ytinekmjengckdaagreatdoor", sum := "3cdaa1af1603eb35e3047e67c050e0dbf119dd29d7e7b1f95946cee0f83112cc", func := "triglyph/triglyphlaw23.IfacePuts", spec := "ifacePuts", inPlace := ["internal/bytealg.IndexByteString"], unfollowed := true, recurses := true, named := ["strings.asciiSpace", "unicode.White_Space"], apart := false, laid := [("unicode.White_Space", laid_unicode_White_Space), ("strings.asciiSpace", laid_strings_asciiSpace)], narrowed := true }
def IfacePutsUptoSaid : Prop := ifacePutsUptoRow.holds Tryz.pinned (OpenSpec.upto ifacePutsSpec)

/-- 'triglyphlaw23.IfaceGets', WHERE WHAT IT READS IS OF BULK AT MOST 1048576: true; the input reads as it did. -/
def ifaceGetsUptoRow : OpenClaim := { program := "ytinekmjengckdaagreatdoor", sum := "3cdaa1af1603eb35e3047e67c050e0dbf119dd29d7e7b1f95946cee0f83112cc", func := "triglyph/triglyphlaw23.IfaceGets", spec := "ifaceGets", inPlace := ["internal/bytealg.IndexByteString"], unfollowed := true, recurses := true, named := ["strings.asciiSpace", "unicode.White_Space"], apart := false, laid := [("unicode.White_Space", laid_unicode_White_Space), ("strings.asciiSpace", laid_strings_asciiSpace)], narrowed := true }
def IfaceGetsUptoSaid : Prop := ifaceGetsUptoRow.holds Tryz.pinned (OpenSpec.upto ifaceGetsSpec)

/-- 'triglyphlaw23.IfaceBack', WHERE WHAT IT READS IS OF BULK AT MOST 1048576: true; the input reads as it did. -/
def ifaceBackUptoRow : OpenClaim := { program := "ytinekmjengckdaagreatdoor", sum := "3cdaa1af1603eb35e3047e67c050e0dbf119dd29d7e7b1f95946cee0f83112cc", func := "triglyph/triglyphlaw23.IfaceBack", spec := "ifaceBack", inPlace := ["internal/bytealg.IndexByteString"], unfollowed := true, recurses := true, named := ["strings.asciiSpace", "unicode.White_Space"], apart := false, laid := [("unicode.White_Space", laid_unicode_White_Space), ("strings.asciiSpace", laid_strings_asciiSpace)], narrowed := true }
def IfaceBackUptoSaid : Prop := ifaceBackUptoRow.holds Tryz.pinned (OpenSpec.upto ifaceBackSpec)

/-- 'triglyphlaw23.IfaceOnly', WHERE WHAT IT READS IS OF BULK AT MOST 1048576: true; the input reads as it did. -/
def ifaceOnlyUptoRow : OpenClaim := { program := "ytinekmjengckdaagreatdoor", sum := "3cdaa1af1603eb35e3047e67c050e0dbf119dd29d7e7b1f95946cee0f83112cc", func := "triglyph/triglyphlaw23.IfaceOnly", spec := "ifaceOnly", inPlace := ["internal/bytealg.IndexByteString"], unfollowed := true, recurses := true, named := ["strings.asciiSpace", "unicode.White_Space"], apart := false, laid := [("unicode.White_Space", laid_unicode_White_Space), ("strings.asciiSpace", laid_strings_asciiSpace)], narrowed := true }
def IfaceOnlyUptoSaid : Prop := ifaceOnlyUptoRow.holds Tryz.pinned (OpenSpec.upto ifaceOnlySpec)

/-- 'triglyphlaw23.IfaceTurned', WHERE WHAT IT READS IS OF BULK AT MOST 1048576: true; the input reads as it did. -/
def ifaceTurnedUptoRow : OpenClaim := { program := "ytinekmjengckdaagreatdoor", sum := "3cdaa1af1603eb35e3047e67c050e0dbf119dd29d7e7b1f95946cee0f83112cc", func := "triglyph/triglyphlaw23.IfaceTurned", spec := "ifaceTurned", inPlace := ["internal/bytealg.IndexByteString"], unfollowed := true, recurses := true, named := ["strings.asciiSpace", "unicode.White_Space"], apart := false, laid := [("unicode.White_Space", laid_unicode_White_Space), ("strings.asciiSpace", laid_strings_asciiSpace)], narrowed := true }
def IfaceTurnedUptoSaid : Prop := ifaceTurnedUptoRow.holds Tryz.pinned (OpenSpec.upto ifaceTurnedSpec)

/-- 'triglyphlaw23.IfaceDigests', WHERE WHAT IT READS IS OF BULK AT MOST 1048576: true; the input reads as it did. -/
def ifaceDigestsUptoRow : OpenClaim := { program := "ytinekmjengckdaagreatdoor", sum := "3cdaa1af1603eb35e3047e67c050e0dbf119dd29d7e7b1f95946cee0f83112cc", func := "triglyph/triglyphlaw23.IfaceDigests", spec := "ifaceDigests", inPlace := ["internal/bytealg.IndexByteString"], unfollowed := true, recurses := true, named := ["strings.asciiSpace", "unicode.White_Space"], apart := false, laid := [("unicode.White_Space", laid_unicode_White_Space), ("strings.asciiSpace", laid_strings_asciiSpace)], narrowed := true }
def IfaceDigestsUptoSaid : Prop := ifaceDigestsUptoRow.holds Tryz.pinned (OpenSpec.upto ifaceDigestsSpec)

end Rows
end Go.Proofs.YtinekmjengckdaaGreatDoor
