/-
  No cell of these rows narrows 'for every input' (looked for: loops, veiled, ifaces, maps, wideKeys, modest, calm, conditions, laid).
  DERIVED. THE GIVEN ROWS OF THIS SEAT. 3 by the template 'for every input the law returns true; each argument reads behind the call as it read before'; 0 by the template 'total and deterministic' (their statements: YtlgkgglecgdkgaaTotals.lean).
  GIVEN WITH THE SEED: the statements are not yours to turn. If you find one false, say at which input.
  Laid BY PROGRAM, IN A SANDBOX (cutbox-rows.mjs): the forced cells as the released guide's own fill.sh prints them over the translation 05c3125a076e02c2… (all of the seat's roots in one cut). By AI agents, Wed Nov 11 2026. No macro, syntax, notation, axiom, sorry.
-/
import Derived.Test.YtlgkgglecgdkgaaChecked
import GoSem.Claim
import GoSem.ClaimJoined
import GoSem.ClaimMapViews
import Derived.JoinedTies
import Derived.KernelRfl
namespace Go.Proofs.Ytlgkgglecgdkgaa
/- THE CELL 'sum', in the pinned program and in every row, IS THE sha256 OF THE DUMP (.gsa) THAT YtlgkgglecgdkgaaProg.lean LOADS. Nothing in Lean hashes anything: it is a label: what it is worth is what the hold of that sum in a sandbox is worth. -/
noncomputable def Try.pinned : Pinned := { name := "ytlgkgglecgdkgaa", sum := "05c3125a076e02c20a7076eedf558ccb3cd012a54e1e58cfc47f47b0f907fb25", checked := Try.checked }
namespace Rows
def none {H : Type} : Left H := { results := [], args := [] }

/-- 'triglyphlaw20.HeapNums': WHATEVER THE INPUT: true; the input reads as it did. -/
def heapNumsSpec : ChangeSpec := { name := "heapNums", fn := fun _ => fun
  | [d1, d2, d3, d4] => { results := [.lit (.bool true)], args := [d1, d2, d3, d4] }
  | _ => none }
def heapNumsRow : OpenClaim := { program := "ytlgkgglecgdkgaa", sum := "05c3125a076e02c20a7076eedf558ccb3cd012a54e1e58cfc47f47b0f907fb25", func := "triglyph/triglyphlaw20.HeapNums", spec := "heapNums", unfollowed := true, recurses := true, apart := false }
def HeapNumsSaid : Prop := heapNumsRow.holds Try.pinned (OpenSpec.ofChange heapNumsSpec)

/-- ITS FALSE NEIGHBOUR: 'it returns false'. Refute it at one input. -/
def heapNumsWrong : ChangeSpec := { name := "heapNums", fn := fun _ => fun
  | [d1, d2, d3, d4] => { results := [.lit (.bool false)], args := [d1, d2, d3, d4] }
  | _ => none }
def HeapNumsWrongFalsely : Prop := heapNumsRow.holds Try.pinned (OpenSpec.ofChange heapNumsWrong)

/-- 'triglyphlaw20.HeapPlays': WHATEVER THE INPUT: true; the input reads as it did. -/
def heapPlaysSpec : ChangeSpec := { name := "heapPlays", fn := fun _ => fun
  | [d1, d2] => { results := [.lit (.bool true)], args := [d1, d2] }
  | _ => none }
def heapPlaysRow : OpenClaim := { program := "ytlgkgglecgdkgaa", sum := "05c3125a076e02c20a7076eedf558ccb3cd012a54e1e58cfc47f47b0f907fb25", func := "triglyph/triglyphlaw20.HeapPlays", spec := "heapPlays", unfollowed := true, recurses := true, apart := false }
def HeapPlaysSaid : Prop := heapPlaysRow.holds Try.pinned (OpenSpec.ofChange heapPlaysSpec)

/-- ITS FALSE NEIGHBOUR: 'it returns false'. Refute it at one input. -/
def heapPlaysWrong : ChangeSpec := { name := "heapPlays", fn := fun _ => fun
  | [d1, d2] => { results := [.lit (.bool false)], args := [d1, d2] }
  | _ => none }
def HeapPlaysWrongFalsely : Prop := heapPlaysRow.holds Try.pinned (OpenSpec.ofChange heapPlaysWrong)

/-- 'triglyphlaw20.HeapReads': WHATEVER THE INPUT: true; the input reads as it did. -/
def heapReadsSpec : ChangeSpec := { name := "heapReads", fn := fun _ => fun
  | [d1, d2, d3, d4] => { results := [.lit (.bool true)], args := [d1, d2, d3, d4] }
  | _ => none }
def heapReadsRow : OpenClaim := { program := "ytlgkgglecgdkgaa", sum := "05c3125a076e02c20a7076eedf558ccb3cd012a54e1e58cfc47f47b0f907fb25", func := "triglyph/triglyphlaw20.HeapReads", spec := "heapReads", unfollowed := true, recurses := true, apart := false }
def HeapReadsSaid : Prop := heapReadsRow.holds Try.pinned (OpenSpec.ofChange heapReadsSpec)

/-- ITS FALSE NEIGHBOUR: 'it returns false'. Refute it at one input. -/
def heapReadsWrong : ChangeSpec := { name := "heapReads", fn := fun _ => fun
  | [d1, d2, d3, d4] => { results := [.lit (.bool false)], args := [d1, d2, d3, d4] }
  | _ => none }
def HeapReadsWrongFalsely : Prop := heapReadsRow.holds Try.pinned (OpenSpec.ofChange heapReadsWrong)

/- THE SECOND FORM. 'bulk': how many values and letters a reading holds, each counted each time it is reached (what is shared counts as often as it is met; a slice's spare places count too). A statement '..UptoSaid' is the law's where the arguments, and the package variables that the reading takes, are together of bulk at most 1048576: NARROWER than '..Said'. Prove '..Said' where nothing that the law and all that it calls make is longer than what came in: it says more and counts as full. Else prove '..UptoSaid'. A law counts once. -/
mutual
def uptoBulk {H : Type} : DataW H → Nat
  | .lit (.string bytes) => bytes.length + 1
  | .lit _ => 1
  | .nil => 1
  | .ptr d => uptoBulk d + 1
  | .slice elems spare => uptoBulkAll elems + uptoBulkAll spare + 1
  | .agg parts => uptoBulkAll parts + 1
  | .iface _ d => uptoBulk d + 1
  | .map entries => uptoBulkEntries entries + 1
  | .held _ => 1
def uptoBulkAll {H : Type} : List (DataW H) → Nat
  | [] => 0
  | d :: r => uptoBulk d + uptoBulkAll r
def uptoBulkEntries {H : Type} : List (Lit × DataW H) → Nat
  | [] => 0
  | x :: r => uptoBulkEntry x + uptoBulkEntries r
def uptoBulkEntry {H : Type} : Lit × DataW H → Nat
  | (.string bytes, d) => bytes.length + uptoBulk d + 1
  | (_, d) => uptoBulk d + 1
 end
def uptoSmall : (H : Type) → List (DataW H) → Bool := fun _ ds => decide (uptoBulkAll ds ≤ 1048576)
def OpenSpec.upto (s : _root_.Go.ChangeSpec) : _root_.Go.OpenSpec := { _root_.Go.OpenSpec.ofChange s with cond := some uptoSmall }

/-- 'triglyphlaw20.HeapNums', WHERE WHAT IT READS IS OF BULK AT MOST 1048576: true; the input reads as it did. -/
def heapNumsUptoRow : OpenClaim := { program := "ytlgkgglecgdkgaa", sum := "05c3125a076e02c20a7076eedf558ccb3cd012a54e1e58cfc47f47b0f907fb25", func := "triglyph/triglyphlaw20.HeapNums", spec := "heapNums", unfollowed := true, recurses := true, apart := false, narrowed := true }
def HeapNumsUptoSaid : Prop := heapNumsUptoRow.holds Try.pinned (OpenSpec.upto heapNumsSpec)

/-- 'triglyphlaw20.HeapPlays', WHERE WHAT IT READS IS OF BULK AT MOST 1048576: true; the input reads as it did. -/
def heapPlaysUptoRow : OpenClaim := { program := "ytlgkgglecgdkgaa", sum := "05c3125a076e02c20a7076eedf558ccb3cd012a54e1e58cfc47f47b0f907fb25", func := "triglyph/triglyphlaw20.HeapPlays", spec := "heapPlays", unfollowed := true, recurses := true, apart := false, narrowed := true }
def HeapPlaysUptoSaid : Prop := heapPlaysUptoRow.holds Try.pinned (OpenSpec.upto heapPlaysSpec)

/-- 'triglyphlaw20.HeapReads', WHERE WHAT IT READS IS OF BULK AT MOST 1048576: true; the input reads as it did. -/
def heapReadsUptoRow : OpenClaim := { program := "ytlgkgglecgdkgaa", sum := "05c3125a076e02c20a7076eedf558ccb3cd012a54e1e58cfc47f47b0f907fb25", func := "triglyph/triglyphlaw20.HeapReads", spec := "heapReads", unfollowed := true, recurses := true, apart := false, narrowed := true }
def HeapReadsUptoSaid : Prop := heapReadsUptoRow.holds Try.pinned (OpenSpec.upto heapReadsSpec)

end Rows
end Go.Proofs.Ytlgkgglecgdkgaa
