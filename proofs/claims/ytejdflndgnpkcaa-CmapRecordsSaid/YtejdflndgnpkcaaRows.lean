/-
  No cell of these rows narrows 'for every input' (looked for: loops, veiled, ifaces, maps, wideKeys, modest, calm, conditions, laid).
  DERIVED. THE GIVEN ROWS OF THIS SEAT. 3 by the template 'for every input the law returns true; each argument reads behind the call as it read before'; 0 by the template 'total and deterministic' (their statements: YtejdflndgnpkcaaTotals.lean).
  GIVEN WITH THE SEED: the statements are not yours to turn. If you find one false, say at which input.
  Laid BY PROGRAM, IN A SANDBOX (cutbox-rows.mjs): the forced cells as the released guide's own fill.sh prints them over the translation 3414d076a0dda485… (all of the seat's roots in one cut). By AI agents, Wed Nov 11 2026. No macro, syntax, notation, axiom, sorry.
-/
import Derived.Test.YtejdflndgnpkcaaChecked
import GoSem.Claim
import GoSem.ClaimJoined
import GoSem.ClaimMapViews
import Derived.JoinedTies
import Derived.KernelRfl
namespace Go.Proofs.Ytejdflndgnpkcaa
/- THE CELL 'sum', in the pinned program and in every row, IS THE sha256 OF THE DUMP (.gsa) THAT YtejdflndgnpkcaaProg.lean LOADS. Nothing in Lean hashes anything: it is a label: what it is worth is what the hold of that sum in a sandbox is worth. -/
noncomputable def Try.pinned : Pinned := { name := "ytejdflndgnpkcaa", sum := "3414d076a0dda48569b3988ce66e148817f8edbb2ec9b86eb5bb763e715f4c90", checked := Try.checked }
namespace Rows
def none {H : Type} : Left H := { results := [], args := [] }

/-- 'vinculumlaw11.CmapFormats': WHATEVER THE INPUT: true; the input reads as it did. -/
def cmapFormatsSpec : ChangeSpec := { name := "cmapFormats", fn := fun _ => fun
  | [d1, d2, d3, d4, d5] => { results := [.lit (.bool true)], args := [d1, d2, d3, d4, d5] }
  | _ => none }
def cmapFormatsRow : OpenClaim := { program := "ytejdflndgnpkcaa", sum := "3414d076a0dda48569b3988ce66e148817f8edbb2ec9b86eb5bb763e715f4c90", func := "vinculum/vinculumlaw11.CmapFormats", spec := "cmapFormats", inPlace := ["internal/abi.NoEscape"], unfollowed := true, recurses := true, apart := false }
def CmapFormatsSaid : Prop := cmapFormatsRow.holds Try.pinned (OpenSpec.ofChange cmapFormatsSpec)

/-- ITS FALSE NEIGHBOUR: 'it returns false'. Refute it at one input. -/
def cmapFormatsWrong : ChangeSpec := { name := "cmapFormats", fn := fun _ => fun
  | [d1, d2, d3, d4, d5] => { results := [.lit (.bool false)], args := [d1, d2, d3, d4, d5] }
  | _ => none }
def CmapFormatsWrongFalsely : Prop := cmapFormatsRow.holds Try.pinned (OpenSpec.ofChange cmapFormatsWrong)

/-- 'vinculumlaw11.CmapRecords': WHATEVER THE INPUT: true; the input reads as it did. -/
def cmapRecordsSpec : ChangeSpec := { name := "cmapRecords", fn := fun _ => fun
  | [d1, d2, d3, d4, d5, d6, d7] => { results := [.lit (.bool true)], args := [d1, d2, d3, d4, d5, d6, d7] }
  | _ => none }
def cmapRecordsRow : OpenClaim := { program := "ytejdflndgnpkcaa", sum := "3414d076a0dda48569b3988ce66e148817f8edbb2ec9b86eb5bb763e715f4c90", func := "vinculum/vinculumlaw11.CmapRecords", spec := "cmapRecords", inPlace := ["internal/abi.NoEscape"], unfollowed := true, recurses := true, apart := false }
def CmapRecordsSaid : Prop := cmapRecordsRow.holds Try.pinned (OpenSpec.ofChange cmapRecordsSpec)

/-- ITS FALSE NEIGHBOUR: 'it returns false'. Refute it at one input. -/
def cmapRecordsWrong : ChangeSpec := { name := "cmapRecords", fn := fun _ => fun
  | [d1, d2, d3, d4, d5, d6, d7] => { results := [.lit (.bool false)], args := [d1, d2, d3, d4, d5, d6, d7] }
  | _ => none }
def CmapRecordsWrongFalsely : Prop := cmapRecordsRow.holds Try.pinned (OpenSpec.ofChange cmapRecordsWrong)

/-- 'vinculumlaw11.CmapBack': WHATEVER THE INPUT: true; the input reads as it did. -/
def cmapBackSpec : ChangeSpec := { name := "cmapBack", fn := fun _ => fun
  | [d1, d2, d3] => { results := [.lit (.bool true)], args := [d1, d2, d3] }
  | _ => none }
def cmapBackRow : OpenClaim := { program := "ytejdflndgnpkcaa", sum := "3414d076a0dda48569b3988ce66e148817f8edbb2ec9b86eb5bb763e715f4c90", func := "vinculum/vinculumlaw11.CmapBack", spec := "cmapBack", inPlace := ["internal/abi.NoEscape"], unfollowed := true, recurses := true, apart := false }
def CmapBackSaid : Prop := cmapBackRow.holds Try.pinned (OpenSpec.ofChange cmapBackSpec)

/-- ITS FALSE NEIGHBOUR: 'it returns false'. Refute it at one input. -/
def cmapBackWrong : ChangeSpec := { name := "cmapBack", fn := fun _ => fun
  | [d1, d2, d3] => { results := [.lit (.bool false)], args := [d1, d2, d3] }
  | _ => none }
def CmapBackWrongFalsely : Prop := cmapBackRow.holds Try.pinned (OpenSpec.ofChange cmapBackWrong)

/- THE SECOND FORM. 'bulk': how many values and letters a reading holds, each counted each time it is reached (what is shared counts as often as it is met; a slice's spare places count too). A statement '..UptoSaid' is the law's where the arguments, and the package variables that the reading takes, are together of bulk at most 1048576: NARROWER than '..Said'. Prove '..Said' where nothing that the law and all that it calls make is longer than what came in: it says more and counts as full. Else prove '..UptoSaid'. A law counts once. -/
mutual
def uptoBulk {H : Type} : DataW H → Nat
  | .lit (.string bytes) => bytes.length + 1
  | .lit _ => 1
  | .nil => 1
  | .ptr d => uptoBulk d + 1
  | .slice elems spare => uptoBulkAll elems + uptoBulkAll spare + 1
  | .agg parts => uptoBulkAll parts + 1
  | .iface _ d => uptoBulk d + 1
  | .map entries => uptoBulkEntries entries + 1
  | .held _ => 1
def uptoBulkAll {H : Type} : List (DataW H) → Nat
  | [] => 0
  | d :: r => uptoBulk d + uptoBulkAll r
def uptoBulkEntries {H : Type} : List (Lit × DataW H) → Nat
  | [] => 0
  | x :: r => uptoBulkEntry x + uptoBulkEntries r
def uptoBulkEntry {H : Type} : Lit × DataW H → Nat
  | (.string bytes, d) => bytes.length + uptoBulk d + 1
  | (_, d) => uptoBulk d + 1
 end
def uptoSmall : (H : Type) → List (DataW H) → Bool := fun _ ds => decide (uptoBulkAll ds ≤ 1048576)
def OpenSpec.upto (s : _root_.Go.ChangeSpec) : _root_.Go.OpenSpec := { _root_.Go.OpenSpec.ofChange s with cond := some uptoSmall }

/-- 'vinculumlaw11.CmapFormats', WHERE WHAT IT READS IS OF BULK AT MOST 1048576: true; the input reads as it did. -/
def cmapFormatsUptoRow : OpenClaim := { program := "ytejdflndgnpkcaa", sum := "3414d076a0dda48569b3988ce66e148817f8edbb2ec9b86eb5bb763e715f4c90", func := "vinculum/vinculumlaw11.CmapFormats", spec := "cmapFormats", inPlace := ["internal/abi.NoEscape"], unfollowed := true, recurses := true, apart := false, narrowed := true }
def CmapFormatsUptoSaid : Prop := cmapFormatsUptoRow.holds Try.pinned (OpenSpec.upto cmapFormatsSpec)

/-- 'vinculumlaw11.CmapRecords', WHERE WHAT IT READS IS OF BULK AT MOST 1048576: true; the input reads as it did. -/
def cmapRecordsUptoRow : OpenClaim := { program := "ytejdflndgnpkcaa", sum := "3414d076a0dda48569b3988ce66e148817f8edbb2ec9b86eb5bb763e715f4c90", func := "vinculum/vinculumlaw11.CmapRecords", spec := "cmapRecords", inPlace := ["internal/abi.NoEscape"], unfollowed := true, recurses := true, apart := false, narrowed := true }
def CmapRecordsUptoSaid : Prop := cmapRecordsUptoRow.holds Try.pinned (OpenSpec.upto cmapRecordsSpec)

/-- 'vinculumlaw11.CmapBack', WHERE WHAT IT READS IS OF BULK AT MOST 1048576: true; the input reads as it did. -/
def cmapBackUptoRow : OpenClaim := { program := "ytejdflndgnpkcaa", sum := "3414d076a0dda48569b3988ce66e148817f8edbb2ec9b86eb5bb763e715f4c90", func := "vinculum/vinculumlaw11.CmapBack", spec := "cmapBack", inPlace := ["internal/abi.NoEscape"], unfollowed := true, recurses := true, apart := false, narrowed := true }
def CmapBackUptoSaid : Prop := cmapBackUptoRow.holds Try.pinned (OpenSpec.upto cmapBackSpec)

end Rows
end Go.Proofs.Ytejdflndgnpkcaa
