/-
  No cell of these rows narrows 'for every input' (looked for: loops, veiled, ifaces, maps, wideKeys, modest, calm, conditions, laid).
  DERIVED. THE GIVEN ROWS OF THIS SEAT. 4 by the template 'for every input the law returns true; each argument reads behind the call as it read before'; 0 by the template 'total and deterministic' (their statements: YtjmliafplgjkhaaTotals.lean).
  GIVEN WITH THE SEED: the statements are not yours to turn. If you find one false, say at which input.
  Laid BY PROGRAM, IN A SANDBOX (cutbox-rows.mjs): the forced cells as the released guide's own fill.sh prints them over the translation 20a4d17f17773dce… (all of the seat's roots in one cut). By AI agents, Wed Nov 11 2026. No macro, syntax, notation, axiom, sorry.
-/
import Derived.Test.YtjmliafplgjkhaaChecked
import GoSem.Claim
import GoSem.ClaimJoined
import GoSem.ClaimMapViews
import Derived.JoinedTies
import Derived.KernelRfl
namespace Go.Proofs.Ytjmliafplgjkhaa
/- THE CELL 'sum', in the pinned program and in every row, IS THE sha256 OF THE DUMP (.gsa) THAT YtjmliafplgjkhaaProg.lean LOADS. Nothing in Lean hashes anything: it is a label: what it is worth is what the hold of that sum in a sandbox is worth. -/
noncomputable def Try.pinned : Pinned := { name := "ytjmliafplgjkhaa", sum := "20a4d17f17773dcec3d0bddba237c96652a72e3ef9d634a7f78849672682d7e1", checked := Try.checked }
namespace Rows
def none {H : Type} : Left H := { results := [], args := [] }

/-- 'vinculumlaw07.GlyfDoes': WHATEVER THE INPUT: true; the input reads as it did. -/
def glyfDoesSpec : ChangeSpec := { name := "glyfDoes", fn := fun _ => fun
  | [d1, d2, d3, d4, d5] => { results := [.lit (.bool true)], args := [d1, d2, d3, d4, d5] }
  | _ => none }
def glyfDoesRow : OpenClaim := { program := "ytjmliafplgjkhaa", sum := "20a4d17f17773dcec3d0bddba237c96652a72e3ef9d634a7f78849672682d7e1", func := "vinculum/vinculumlaw07.GlyfDoes", spec := "glyfDoes", inPlace := ["internal/abi.NoEscape"], unfollowed := true, recurses := true, apart := false }
def GlyfDoesSaid : Prop := glyfDoesRow.holds Try.pinned (OpenSpec.ofChange glyfDoesSpec)

/-- ITS FALSE NEIGHBOUR: 'it returns false'. Refute it at one input. -/
def glyfDoesWrong : ChangeSpec := { name := "glyfDoes", fn := fun _ => fun
  | [d1, d2, d3, d4, d5] => { results := [.lit (.bool false)], args := [d1, d2, d3, d4, d5] }
  | _ => none }
def GlyfDoesWrongFalsely : Prop := glyfDoesRow.holds Try.pinned (OpenSpec.ofChange glyfDoesWrong)

/-- 'vinculumlaw07.GlyfBack': WHATEVER THE INPUT: true; the input reads as it did. -/
def glyfBackSpec : ChangeSpec := { name := "glyfBack", fn := fun _ => fun
  | [d1, d2] => { results := [.lit (.bool true)], args := [d1, d2] }
  | _ => none }
def glyfBackRow : OpenClaim := { program := "ytjmliafplgjkhaa", sum := "20a4d17f17773dcec3d0bddba237c96652a72e3ef9d634a7f78849672682d7e1", func := "vinculum/vinculumlaw07.GlyfBack", spec := "glyfBack", inPlace := ["internal/abi.NoEscape"], unfollowed := true, recurses := true, apart := false }
def GlyfBackSaid : Prop := glyfBackRow.holds Try.pinned (OpenSpec.ofChange glyfBackSpec)

/-- ITS FALSE NEIGHBOUR: 'it returns false'. Refute it at one input. -/
def glyfBackWrong : ChangeSpec := { name := "glyfBack", fn := fun _ => fun
  | [d1, d2] => { results := [.lit (.bool false)], args := [d1, d2] }
  | _ => none }
def GlyfBackWrongFalsely : Prop := glyfBackRow.holds Try.pinned (OpenSpec.ofChange glyfBackWrong)

/-- 'vinculumlaw07.GlyfOnly': WHATEVER THE INPUT: true; the input reads as it did. -/
def glyfOnlySpec : ChangeSpec := { name := "glyfOnly", fn := fun _ => fun
  | [d1, d2, d3, d4] => { results := [.lit (.bool true)], args := [d1, d2, d3, d4] }
  | _ => none }
def glyfOnlyRow : OpenClaim := { program := "ytjmliafplgjkhaa", sum := "20a4d17f17773dcec3d0bddba237c96652a72e3ef9d634a7f78849672682d7e1", func := "vinculum/vinculumlaw07.GlyfOnly", spec := "glyfOnly", inPlace := ["internal/abi.NoEscape"], unfollowed := true, recurses := true, apart := false }
def GlyfOnlySaid : Prop := glyfOnlyRow.holds Try.pinned (OpenSpec.ofChange glyfOnlySpec)

/-- ITS FALSE NEIGHBOUR: 'it returns false'. Refute it at one input. -/
def glyfOnlyWrong : ChangeSpec := { name := "glyfOnly", fn := fun _ => fun
  | [d1, d2, d3, d4] => { results := [.lit (.bool false)], args := [d1, d2, d3, d4] }
  | _ => none }
def GlyfOnlyWrongFalsely : Prop := glyfOnlyRow.holds Try.pinned (OpenSpec.ofChange glyfOnlyWrong)

/-- 'vinculumlaw07.GlyfDeep': WHATEVER THE INPUT: true; the input reads as it did. -/
def glyfDeepSpec : ChangeSpec := { name := "glyfDeep", fn := fun _ => fun
  | [d1, d2, d3] => { results := [.lit (.bool true)], args := [d1, d2, d3] }
  | _ => none }
def glyfDeepRow : OpenClaim := { program := "ytjmliafplgjkhaa", sum := "20a4d17f17773dcec3d0bddba237c96652a72e3ef9d634a7f78849672682d7e1", func := "vinculum/vinculumlaw07.GlyfDeep", spec := "glyfDeep", inPlace := ["internal/abi.NoEscape"], unfollowed := true, recurses := true, apart := false }
def GlyfDeepSaid : Prop := glyfDeepRow.holds Try.pinned (OpenSpec.ofChange glyfDeepSpec)

/-- ITS FALSE NEIGHBOUR: 'it returns false'. Refute it at one input. -/
def glyfDeepWrong : ChangeSpec := { name := "glyfDeep", fn := fun _ => fun
  | [d1, d2, d3] => { results := [.lit (.bool false)], args := [d1, d2, d3] }
  | _ => none }
def GlyfDeepWrongFalsely : Prop := glyfDeepRow.holds Try.pinned (OpenSpec.ofChange glyfDeepWrong)

/- THE SECOND FORM. 'bulk': how many values and letters a reading holds, each counted each time it is reached (what is shared counts as often as it is met; a slice's spare places count too). A statement '..UptoSaid' is the law's where the arguments, and the package variables that the reading takes, are together of bulk at most 1048576: NARROWER than '..Said'. Prove '..Said' where nothing that the law and all that it calls make is longer than what came in: it says more and counts as full. Else prove '..UptoSaid'. A law counts once. -/
mutual
def uptoBulk {H : Type} : DataW H → Nat
  | .lit (.string bytes) => bytes.length + 1
  | .lit _ => 1
  | .nil => 1
  | .ptr d => uptoBulk d + 1
  | .slice elems spare => uptoBulkAll elems + uptoBulkAll spare + 1
  | .agg parts => uptoBulkAll parts + 1
  | .iface _ d => uptoBulk d + 1
  | .map entries => uptoBulkEntries entries + 1
  | .held _ => 1
def uptoBulkAll {H : Type} : List (DataW H) → Nat
  | [] => 0
  | d :: r => uptoBulk d + uptoBulkAll r
def uptoBulkEntries {H : Type} : List (Lit × DataW H) → Nat
  | [] => 0
  | x :: r => uptoBulkEntry x + uptoBulkEntries r
def uptoBulkEntry {H : Type} : Lit × DataW H → Nat
  | (.string bytes, d) => bytes.length + uptoBulk d + 1
  | (_, d) => uptoBulk d + 1
 end
def uptoSmall : (H : Type) → List (DataW H) → Bool := fun _ ds => decide (uptoBulkAll ds ≤ 1048576)
def OpenSpec.upto (s : _root_.Go.ChangeSpec) : _root_.Go.OpenSpec := { _root_.Go.OpenSpec.ofChange s with cond := some uptoSmall }

/-- 'vinculumlaw07.GlyfDoes', WHERE WHAT IT READS IS OF BULK AT MOST 1048576: true; the input reads as it did. -/
def glyfDoesUptoRow : OpenClaim := { program := "ytjmliafplgjkhaa", sum := "20a4d17f17773dcec3d0bddba237c96652a72e3ef9d634a7f78849672682d7e1", func := "vinculum/vinculumlaw07.GlyfDoes", spec := "glyfDoes", inPlace := ["internal/abi.NoEscape"], unfollowed := true, recurses := true, apart := false, narrowed := true }
def GlyfDoesUptoSaid : Prop := glyfDoesUptoRow.holds Try.pinned (OpenSpec.upto glyfDoesSpec)

/-- 'vinculumlaw07.GlyfBack', WHERE WHAT IT READS IS OF BULK AT MOST 1048576: true; the input reads as it did. -/
def glyfBackUptoRow : OpenClaim := { program := "ytjmliafplgjkhaa", sum := "20a4d17f17773dcec3d0bddba237c96652a72e3ef9d634a7f78849672682d7e1", func := "vinculum/vinculumlaw07.GlyfBack", spec := "glyfBack", inPlace := ["internal/abi.NoEscape"], unfollowed := true, recurses := true, apart := false, narrowed := true }
def GlyfBackUptoSaid : Prop := glyfBackUptoRow.holds Try.pinned (OpenSpec.upto glyfBackSpec)

/-- 'vinculumlaw07.GlyfOnly', WHERE WHAT IT READS IS OF BULK AT MOST 1048576: true; the input reads as it did. -/
def glyfOnlyUptoRow : OpenClaim := { program := "ytjmliafplgjkhaa", sum := "20a4d17f17773dcec3d0bddba237c96652a72e3ef9d634a7f78849672682d7e1", func := "vinculum/vinculumlaw07.GlyfOnly", spec := "glyfOnly", inPlace := ["internal/abi.NoEscape"], unfollowed := true, recurses := true, apart := false, narrowed := true }
def GlyfOnlyUptoSaid : Prop := glyfOnlyUptoRow.holds Try.pinned (OpenSpec.upto glyfOnlySpec)

/-- 'vinculumlaw07.GlyfDeep', WHERE WHAT IT READS IS OF BULK AT MOST 1048576: true; the input reads as it did. -/
def glyfDeepUptoRow : OpenClaim := { program := "ytjmliafplgjkhaa", sum := "20a4d17f17773dcec3d0bddba237c96652a72e3ef9d634a7f78849672682d7e1", func := "vinculum/vinculumlaw07.GlyfDeep", spec := "glyfDeep", inPlace := ["internal/abi.NoEscape"], unfollowed := true, recurses := true, apart := false, narrowed := true }
def GlyfDeepUptoSaid : Prop := glyfDeepUptoRow.holds Try.pinned (OpenSpec.upto glyfDeepSpec)

end Rows
end Go.Proofs.Ytjmliafplgjkhaa
