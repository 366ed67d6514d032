/-
  No cell of these rows narrows 'for every input' (looked for: loops, veiled, ifaces, maps, wideKeys, modest, calm, conditions, laid).
  DERIVED. THE GIVEN ROWS OF THIS SEAT. 6 by the template 'for every input the law returns true; each argument reads behind the call as it read before'; 0 by the template 'total and deterministic' (their statements: YtlfahjjmpkpngaaTotals.lean).
  GIVEN WITH THE SEED: the statements are not yours to turn. If you find one false, say at which input.
  Laid BY PROGRAM, IN A SANDBOX (cutbox-rows.mjs): the forced cells as the released guide's own fill.sh prints them over the translation 30c0486609782258… (all of the seat's roots in one cut). By AI agents, Wed Nov 11 2026. No macro, syntax, notation, axiom, sorry.
-/
import Derived.Test.YtlfahjjmpkpngaaChecked
import GoSem.Claim
import GoSem.ClaimJoined
import GoSem.ClaimMapViews
import Derived.JoinedTies
import Derived.KernelRfl
namespace Go.Proofs.Ytlfahjjmpkpngaa
/- THE CELL 'sum', in the pinned program and in every row, IS THE sha256 OF THE DUMP (.gsa) THAT YtlfahjjmpkpngaaProg.lean LOADS. Nothing in Lean hashes anything: it is a label: what it is worth is what the hold of that sum in a sandbox is worth. -/
noncomputable def Try.pinned : Pinned := { name := "ytlfahjjmpkpngaa", sum := "30c0486609782258bf5e62eb4f504dc8d39bcf38200f283f8955a3134713be85", checked := Try.checked }
namespace Rows
def none {H : Type} : Left H := { results := [], args := [] }

/-- 'vinculumlaw01.FixedNear': WHATEVER THE INPUT: true; the input reads as it did. -/
def fixedNearSpec : ChangeSpec := { name := "fixedNear", fn := fun _ => fun
  | [d1, d2, d3] => { results := [.lit (.bool true)], args := [d1, d2, d3] }
  | _ => none }
def fixedNearRow : OpenClaim := { program := "ytlfahjjmpkpngaa", sum := "30c0486609782258bf5e62eb4f504dc8d39bcf38200f283f8955a3134713be85", func := "vinculum/vinculumlaw01.FixedNear", spec := "fixedNear", unfollowed := true, recurses := true, apart := false }
def FixedNearSaid : Prop := fixedNearRow.holds Try.pinned (OpenSpec.ofChange fixedNearSpec)

/-- ITS FALSE NEIGHBOUR: 'it returns false'. Refute it at one input. -/
def fixedNearWrong : ChangeSpec := { name := "fixedNear", fn := fun _ => fun
  | [d1, d2, d3] => { results := [.lit (.bool false)], args := [d1, d2, d3] }
  | _ => none }
def FixedNearWrongFalsely : Prop := fixedNearRow.holds Try.pinned (OpenSpec.ofChange fixedNearWrong)

/-- 'vinculumlaw01.FixedTurns': WHATEVER THE INPUT: true; the input reads as it did. -/
def fixedTurnsSpec : ChangeSpec := { name := "fixedTurns", fn := fun _ => fun
  | [d1, d2, d3] => { results := [.lit (.bool true)], args := [d1, d2, d3] }
  | _ => none }
def fixedTurnsRow : OpenClaim := { program := "ytlfahjjmpkpngaa", sum := "30c0486609782258bf5e62eb4f504dc8d39bcf38200f283f8955a3134713be85", func := "vinculum/vinculumlaw01.FixedTurns", spec := "fixedTurns", unfollowed := true, recurses := true, apart := false }
def FixedTurnsSaid : Prop := fixedTurnsRow.holds Try.pinned (OpenSpec.ofChange fixedTurnsSpec)

/-- ITS FALSE NEIGHBOUR: 'it returns false'. Refute it at one input. -/
def fixedTurnsWrong : ChangeSpec := { name := "fixedTurns", fn := fun _ => fun
  | [d1, d2, d3] => { results := [.lit (.bool false)], args := [d1, d2, d3] }
  | _ => none }
def FixedTurnsWrongFalsely : Prop := fixedTurnsRow.holds Try.pinned (OpenSpec.ofChange fixedTurnsWrong)

/-- 'vinculumlaw01.FixedGrows': WHATEVER THE INPUT: true; the input reads as it did. -/
def fixedGrowsSpec : ChangeSpec := { name := "fixedGrows", fn := fun _ => fun
  | [d1, d2, d3, d4] => { results := [.lit (.bool true)], args := [d1, d2, d3, d4] }
  | _ => none }
def fixedGrowsRow : OpenClaim := { program := "ytlfahjjmpkpngaa", sum := "30c0486609782258bf5e62eb4f504dc8d39bcf38200f283f8955a3134713be85", func := "vinculum/vinculumlaw01.FixedGrows", spec := "fixedGrows", unfollowed := true, recurses := true, apart := false }
def FixedGrowsSaid : Prop := fixedGrowsRow.holds Try.pinned (OpenSpec.ofChange fixedGrowsSpec)

/-- ITS FALSE NEIGHBOUR: 'it returns false'. Refute it at one input. -/
def fixedGrowsWrong : ChangeSpec := { name := "fixedGrows", fn := fun _ => fun
  | [d1, d2, d3, d4] => { results := [.lit (.bool false)], args := [d1, d2, d3, d4] }
  | _ => none }
def FixedGrowsWrongFalsely : Prop := fixedGrowsRow.holds Try.pinned (OpenSpec.ofChange fixedGrowsWrong)

/-- 'vinculumlaw01.FixedHalf': WHATEVER THE INPUT: true; the input reads as it did. -/
def fixedHalfSpec : ChangeSpec := { name := "fixedHalf", fn := fun _ => fun
  | [d] => { results := [.lit (.bool true)], args := [d] }
  | _ => none }
def fixedHalfRow : OpenClaim := { program := "ytlfahjjmpkpngaa", sum := "30c0486609782258bf5e62eb4f504dc8d39bcf38200f283f8955a3134713be85", func := "vinculum/vinculumlaw01.FixedHalf", spec := "fixedHalf", unfollowed := true, recurses := true, apart := false }
def FixedHalfSaid : Prop := fixedHalfRow.holds Try.pinned (OpenSpec.ofChange fixedHalfSpec)

/-- ITS FALSE NEIGHBOUR: 'it returns false'. Refute it at one input. -/
def fixedHalfWrong : ChangeSpec := { name := "fixedHalf", fn := fun _ => fun
  | [d] => { results := [.lit (.bool false)], args := [d] }
  | _ => none }
def FixedHalfWrongFalsely : Prop := fixedHalfRow.holds Try.pinned (OpenSpec.ofChange fixedHalfWrong)

/-- 'vinculumlaw01.FixedDoes': WHATEVER THE INPUT: true; the input reads as it did. -/
def fixedDoesSpec : ChangeSpec := { name := "fixedDoes", fn := fun _ => fun
  | [d1, d2, d3, d4] => { results := [.lit (.bool true)], args := [d1, d2, d3, d4] }
  | _ => none }
def fixedDoesRow : OpenClaim := { program := "ytlfahjjmpkpngaa", sum := "30c0486609782258bf5e62eb4f504dc8d39bcf38200f283f8955a3134713be85", func := "vinculum/vinculumlaw01.FixedDoes", spec := "fixedDoes", unfollowed := true, recurses := true, apart := false }
def FixedDoesSaid : Prop := fixedDoesRow.holds Try.pinned (OpenSpec.ofChange fixedDoesSpec)

/-- ITS FALSE NEIGHBOUR: 'it returns false'. Refute it at one input. -/
def fixedDoesWrong : ChangeSpec := { name := "fixedDoes", fn := fun _ => fun
  | [d1, d2, d3, d4] => { results := [.lit (.bool false)], args := [d1, d2, d3, d4] }
  | _ => none }
def FixedDoesWrongFalsely : Prop := fixedDoesRow.holds Try.pinned (OpenSpec.ofChange fixedDoesWrong)

/-- 'vinculumlaw01.FixedSums': WHATEVER THE INPUT: true; the input reads as it did. -/
def fixedSumsSpec : ChangeSpec := { name := "fixedSums", fn := fun _ => fun
  | [d1, d2, d3] => { results := [.lit (.bool true)], args := [d1, d2, d3] }
  | _ => none }
def fixedSumsRow : OpenClaim := { program := "ytlfahjjmpkpngaa", sum := "30c0486609782258bf5e62eb4f504dc8d39bcf38200f283f8955a3134713be85", func := "vinculum/vinculumlaw01.FixedSums", spec := "fixedSums", unfollowed := true, recurses := true, apart := false }
def FixedSumsSaid : Prop := fixedSumsRow.holds Try.pinned (OpenSpec.ofChange fixedSumsSpec)

/-- ITS FALSE NEIGHBOUR: 'it returns false'. Refute it at one input. -/
def fixedSumsWrong : ChangeSpec := { name := "fixedSums", fn := fun _ => fun
  | [d1, d2, d3] => { results := [.lit (.bool false)], args := [d1, d2, d3] }
  | _ => none }
def FixedSumsWrongFalsely : Prop := fixedSumsRow.holds Try.pinned (OpenSpec.ofChange fixedSumsWrong)

/- THE SECOND FORM. 'bulk': how many values and letters a reading holds, each counted each time it is reached (what is shared counts as often as it is met; a slice's spare places count too). A statement '..UptoSaid' is the law's where the arguments, and the package variables that the reading takes, are together of bulk at most 1048576: NARROWER than '..Said'. Prove '..Said' where nothing that the law and all that it calls make is longer than what came in: it says more and counts as full. Else prove '..UptoSaid'. A law counts once. -/
mutual
def uptoBulk {H : Type} : DataW H → Nat
  | .lit (.string bytes) => bytes.length + 1
  | .lit _ => 1
  | .nil => 1
  | .ptr d => uptoBulk d + 1
  | .slice elems spare => uptoBulkAll elems + uptoBulkAll spare + 1
  | .agg parts => uptoBulkAll parts + 1
  | .iface _ d => uptoBulk d + 1
  | .map entries => uptoBulkEntries entries + 1
  | .held _ => 1
def uptoBulkAll {H : Type} : List (DataW H) → Nat
  | [] => 0
  | d :: r => uptoBulk d + uptoBulkAll r
def uptoBulkEntries {H : Type} : List (Lit × DataW H) → Nat
  | [] => 0
  | x :: r => uptoBulkEntry x + uptoBulkEntries r
def uptoBulkEntry {H : Type} : Lit × DataW H → Nat
  | (.string bytes, d) => bytes.length + uptoBulk d + 1
  | (_, d) => uptoBulk d + 1
 end
def uptoSmall : (H : Type) → List (DataW H) → Bool := fun _ ds => decide (uptoBulkAll ds ≤ 1048576)
def OpenSpec.upto (s : _root_.Go.ChangeSpec) : _root_.Go.OpenSpec := { _root_.Go.OpenSpec.ofChange s with cond := some uptoSmall }

/-- 'vinculumlaw01.FixedNear', WHERE WHAT IT READS IS OF BULK AT MOST 1048576: true; the input reads as it did. -/
def fixedNearUptoRow : OpenClaim := { program := "ytlfahjjmpkpngaa", sum := "30c0486609782258bf5e62eb4f504dc8d39bcf38200f283f8955a3134713be85", func := "vinculum/vinculumlaw01.FixedNear", spec := "fixedNear", unfollowed := true, recurses := true, apart := false, narrowed := true }
def FixedNearUptoSaid : Prop := fixedNearUptoRow.holds Try.pinned (OpenSpec.upto fixedNearSpec)

/-- 'vinculumlaw01.FixedTurns', WHERE WHAT IT READS IS OF BULK AT MOST 1048576: true; the input reads as it did. -/
def fixedTurnsUptoRow : OpenClaim := { program := "ytlfahjjmpkpngaa", sum := "30c0486609782258bf5e62eb4f504dc8d39bcf38200f283f8955a3134713be85", func := "vinculum/vinculumlaw01.FixedTurns", spec := "fixedTurns", unfollowed := true, recurses := true, apart := false, narrowed := true }
def FixedTurnsUptoSaid : Prop := fixedTurnsUptoRow.holds Try.pinned (OpenSpec.upto fixedTurnsSpec)

/-- 'vinculumlaw01.FixedGrows', WHERE WHAT IT READS IS OF BULK AT MOST 1048576: true; the input reads as it did. -/
def fixedGrowsUptoRow : OpenClaim := { program := "ytlfahjjmpkpngaa", sum := "30c0486609782258bf5e62eb4f504dc8d39bcf38200f283f8955a3134713be85", func := "vinculum/vinculumlaw01.FixedGrows", spec := "fixedGrows", unfollowed := true, recurses := true, apart := false, narrowed := true }
def FixedGrowsUptoSaid : Prop := fixedGrowsUptoRow.holds Try.pinned (OpenSpec.upto fixedGrowsSpec)

/-- 'vinculumlaw01.FixedHalf', WHERE WHAT IT READS IS OF BULK AT MOST 1048576: true; the input reads as it did. -/
def fixedHalfUptoRow : OpenClaim := { program := "ytlfahjjmpkpngaa", sum := "30c0486609782258bf5e62eb4f504dc8d39bcf38200f283f8955a3134713be85", func := "vinculum/vinculumlaw01.FixedHalf", spec := "fixedHalf", unfollowed := true, recurses := true, apart := false, narrowed := true }
def FixedHalfUptoSaid : Prop := fixedHalfUptoRow.holds Try.pinned (OpenSpec.upto fixedHalfSpec)

/-- 'vinculumlaw01.FixedDoes', WHERE WHAT IT READS IS OF BULK AT MOST 1048576: true; the input reads as it did. -/
def fixedDoesUptoRow : OpenClaim := { program := "ytlfahjjmpkpngaa", sum := "30c0486609782258bf5e62eb4f504dc8d39bcf38200f283f8955a3134713be85", func := "vinculum/vinculumlaw01.FixedDoes", spec := "fixedDoes", unfollowed := true, recurses := true, apart := false, narrowed := true }
def FixedDoesUptoSaid : Prop := fixedDoesUptoRow.holds Try.pinned (OpenSpec.upto fixedDoesSpec)

/-- 'vinculumlaw01.FixedSums', WHERE WHAT IT READS IS OF BULK AT MOST 1048576: true; the input reads as it did. -/
def fixedSumsUptoRow : OpenClaim := { program := "ytlfahjjmpkpngaa", sum := "30c0486609782258bf5e62eb4f504dc8d39bcf38200f283f8955a3134713be85", func := "vinculum/vinculumlaw01.FixedSums", spec := "fixedSums", unfollowed := true, recurses := true, apart := false, narrowed := true }
def FixedSumsUptoSaid : Prop := fixedSumsUptoRow.holds Try.pinned (OpenSpec.upto fixedSumsSpec)

end Rows
end Go.Proofs.Ytlfahjjmpkpngaa
