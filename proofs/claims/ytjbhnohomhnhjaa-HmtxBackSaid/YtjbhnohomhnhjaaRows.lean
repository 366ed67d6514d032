/-
  No cell of these rows narrows 'for every input' (looked for: loops, veiled, ifaces, maps, wideKeys, modest, calm, conditions, laid).
  DERIVED. THE GIVEN ROWS OF THIS SEAT. 3 by the template 'for every input the law returns true; each argument reads behind the call as it read before'; 0 by the template 'total and deterministic' (their statements: YtjbhnohomhnhjaaTotals.lean).
  GIVEN WITH THE SEED: the statements are not yours to turn. If you find one false, say at which input.
  Laid BY PROGRAM, IN A SANDBOX (cutbox-rows.mjs): the forced cells as the released guide's own fill.sh prints them over the translation c16254158018ebd7… (all of the seat's roots in one cut). By AI agents, Wed Nov 11 2026. No macro, syntax, notation, axiom, sorry.
-/
import Derived.Test.YtjbhnohomhnhjaaChecked
import GoSem.Claim
import GoSem.ClaimJoined
import GoSem.ClaimMapViews
import Derived.JoinedTies
import Derived.KernelRfl
namespace Go.Proofs.Ytjbhnohomhnhjaa
/- THE CELL 'sum', in the pinned program and in every row, IS THE sha256 OF THE DUMP (.gsa) THAT YtjbhnohomhnhjaaProg.lean LOADS. Nothing in Lean hashes anything: it is a label: what it is worth is what the hold of that sum in a sandbox is worth. -/
noncomputable def Try.pinned : Pinned := { name := "ytjbhnohomhnhjaa", sum := "c16254158018ebd78e847ec7eb55edde4c74fa1911305c0a2aea3da061be01be", checked := Try.checked }
namespace Rows
def none {H : Type} : Left H := { results := [], args := [] }

/-- 'vinculumlaw06.HmtxDoes': WHATEVER THE INPUT: true; the input reads as it did. -/
def hmtxDoesSpec : ChangeSpec := { name := "hmtxDoes", fn := fun _ => fun
  | [d1, d2, d3, d4, d5] => { results := [.lit (.bool true)], args := [d1, d2, d3, d4, d5] }
  | _ => none }
def hmtxDoesRow : OpenClaim := { program := "ytjbhnohomhnhjaa", sum := "c16254158018ebd78e847ec7eb55edde4c74fa1911305c0a2aea3da061be01be", func := "vinculum/vinculumlaw06.HmtxDoes", spec := "hmtxDoes", inPlace := ["internal/abi.NoEscape"], unfollowed := true, recurses := true, apart := false }
def HmtxDoesSaid : Prop := hmtxDoesRow.holds Try.pinned (OpenSpec.ofChange hmtxDoesSpec)

/-- ITS FALSE NEIGHBOUR: 'it returns false'. Refute it at one input. -/
def hmtxDoesWrong : ChangeSpec := { name := "hmtxDoes", fn := fun _ => fun
  | [d1, d2, d3, d4, d5] => { results := [.lit (.bool false)], args := [d1, d2, d3, d4, d5] }
  | _ => none }
def HmtxDoesWrongFalsely : Prop := hmtxDoesRow.holds Try.pinned (OpenSpec.ofChange hmtxDoesWrong)

/-- 'vinculumlaw06.HmtxBack': WHATEVER THE INPUT: true; the input reads as it did. -/
def hmtxBackSpec : ChangeSpec := { name := "hmtxBack", fn := fun _ => fun
  | [d1, d2] => { results := [.lit (.bool true)], args := [d1, d2] }
  | _ => none }
def hmtxBackRow : OpenClaim := { program := "ytjbhnohomhnhjaa", sum := "c16254158018ebd78e847ec7eb55edde4c74fa1911305c0a2aea3da061be01be", func := "vinculum/vinculumlaw06.HmtxBack", spec := "hmtxBack", inPlace := ["internal/abi.NoEscape"], unfollowed := true, recurses := true, apart := false }
def HmtxBackSaid : Prop := hmtxBackRow.holds Try.pinned (OpenSpec.ofChange hmtxBackSpec)

/-- ITS FALSE NEIGHBOUR: 'it returns false'. Refute it at one input. -/
def hmtxBackWrong : ChangeSpec := { name := "hmtxBack", fn := fun _ => fun
  | [d1, d2] => { results := [.lit (.bool false)], args := [d1, d2] }
  | _ => none }
def HmtxBackWrongFalsely : Prop := hmtxBackRow.holds Try.pinned (OpenSpec.ofChange hmtxBackWrong)

/-- 'vinculumlaw06.HmtxAgain': WHATEVER THE INPUT: true; the input reads as it did. -/
def hmtxAgainSpec : ChangeSpec := { name := "hmtxAgain", fn := fun _ => fun
  | [d1, d2, d3] => { results := [.lit (.bool true)], args := [d1, d2, d3] }
  | _ => none }
def hmtxAgainRow : OpenClaim := { program := "ytjbhnohomhnhjaa", sum := "c16254158018ebd78e847ec7eb55edde4c74fa1911305c0a2aea3da061be01be", func := "vinculum/vinculumlaw06.HmtxAgain", spec := "hmtxAgain", inPlace := ["internal/abi.NoEscape"], unfollowed := true, recurses := true, apart := false }
def HmtxAgainSaid : Prop := hmtxAgainRow.holds Try.pinned (OpenSpec.ofChange hmtxAgainSpec)

/-- ITS FALSE NEIGHBOUR: 'it returns false'. Refute it at one input. -/
def hmtxAgainWrong : ChangeSpec := { name := "hmtxAgain", fn := fun _ => fun
  | [d1, d2, d3] => { results := [.lit (.bool false)], args := [d1, d2, d3] }
  | _ => none }
def HmtxAgainWrongFalsely : Prop := hmtxAgainRow.holds Try.pinned (OpenSpec.ofChange hmtxAgainWrong)

/- THE SECOND FORM. 'bulk': how many values and letters a reading holds, each counted each time it is reached (what is shared counts as often as it is met; a slice's spare places count too). A statement '..UptoSaid' is the law's where the arguments, and the package variables that the reading takes, are together of bulk at most 1048576: NARROWER than '..Said'. Prove '..Said' where nothing that the law and all that it calls make is longer than what came in: it says more and counts as full. Else prove '..UptoSaid'. A law counts once. -/
mutual
def uptoBulk {H : Type} : DataW H → Nat
  | .lit (.string bytes) => bytes.length + 1
  | .lit _ => 1
  | .nil => 1
  | .ptr d => uptoBulk d + 1
  | .slice elems spare => uptoBulkAll elems + uptoBulkAll spare + 1
  | .agg parts => uptoBulkAll parts + 1
  | .iface _ d => uptoBulk d + 1
  | .map entries => uptoBulkEntries entries + 1
  | .held _ => 1
def uptoBulkAll {H : Type} : List (DataW H) → Nat
  | [] => 0
  | d :: r => uptoBulk d + uptoBulkAll r
def uptoBulkEntries {H : Type} : List (Lit × DataW H) → Nat
  | [] => 0
  | x :: r => uptoBulkEntry x + uptoBulkEntries r
def uptoBulkEntry {H : Type} : Lit × DataW H → Nat
  | (.string bytes, d) => bytes.length + uptoBulk d + 1
  | (_, d) => uptoBulk d + 1
 end
def uptoSmall : (H : Type) → List (DataW H) → Bool := fun _ ds => decide (uptoBulkAll ds ≤ 1048576)
def OpenSpec.upto (s : _root_.Go.ChangeSpec) : _root_.Go.OpenSpec := { _root_.Go.OpenSpec.ofChange s with cond := some uptoSmall }

/-- 'vinculumlaw06.HmtxDoes', WHERE WHAT IT READS IS OF BULK AT MOST 1048576: true; the input reads as it did. -/
def hmtxDoesUptoRow : OpenClaim := { program := "ytjbhnohomhnhjaa", sum := "c16254158018ebd78e847ec7eb55edde4c74fa1911305c0a2aea3da061be01be", func := "vinculum/vinculumlaw06.HmtxDoes", spec := "hmtxDoes", inPlace := ["internal/abi.NoEscape"], unfollowed := true, recurses := true, apart := false, narrowed := true }
def HmtxDoesUptoSaid : Prop := hmtxDoesUptoRow.holds Try.pinned (OpenSpec.upto hmtxDoesSpec)

/-- 'vinculumlaw06.HmtxBack', WHERE WHAT IT READS IS OF BULK AT MOST 1048576: true; the input reads as it did. -/
def hmtxBackUptoRow : OpenClaim := { program := "ytjbhnohomhnhjaa", sum := "c16254158018ebd78e847ec7eb55edde4c74fa1911305c0a2aea3da061be01be", func := "vinculum/vinculumlaw06.HmtxBack", spec := "hmtxBack", inPlace := ["internal/abi.NoEscape"], unfollowed := true, recurses := true, apart := false, narrowed := true }
def HmtxBackUptoSaid : Prop := hmtxBackUptoRow.holds Try.pinned (OpenSpec.upto hmtxBackSpec)

/-- 'vinculumlaw06.HmtxAgain', WHERE WHAT IT READS IS OF BULK AT MOST 1048576: true; the input reads as it did. -/
def hmtxAgainUptoRow : OpenClaim := { program := "ytjbhnohomhnhjaa", sum := "c16254158018ebd78e847ec7eb55edde4c74fa1911305c0a2aea3da061be01be", func := "vinculum/vinculumlaw06.HmtxAgain", spec := "hmtxAgain", inPlace := ["internal/abi.NoEscape"], unfollowed := true, recurses := true, apart := false, narrowed := true }
def HmtxAgainUptoSaid : Prop := hmtxAgainUptoRow.holds Try.pinned (OpenSpec.upto hmtxAgainSpec)

end Rows
end Go.Proofs.Ytjbhnohomhnhjaa
