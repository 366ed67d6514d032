/-
  NARROWER THAN 'FOR EVERY INPUT', by the rows' own cells (each row's printed sentence says how): SpaceDoes: loops · SpaceGroups: loops.
  DERIVED. THE GIVEN ROWS OF THIS SEAT. 5 by the template 'for every input the law returns true; each argument reads behind the call as it read before'; 0 by the template 'total and deterministic' (their statements: YtjmgfhphkkiekaaTotals.lean).
  GIVEN WITH THE SEED: the statements are not yours to turn. If you find one false, say at which input.
  Laid BY PROGRAM, IN A SANDBOX (cutbox-rows.mjs): the forced cells as the released guide's own fill.sh prints them over the translation b599656b91a2cfa4… (all of the seat's roots in one cut). By AI agents, Wed Nov 11 2026. No macro, syntax, notation, axiom, sorry.
-/
import Derived.Test.YtjmgfhphkkiekaaChecked
import GoSem.Claim
import GoSem.ClaimJoined
import GoSem.ClaimMapViews
import Derived.JoinedTies
import Derived.KernelRfl
namespace Go.Proofs.Ytjmgfhphkkiekaa
/- THE CELL 'sum', in the pinned program and in every row, IS THE sha256 OF THE DUMP (.gsa) THAT YtjmgfhphkkiekaaProg.lean LOADS. Nothing in Lean hashes anything: it is a label: what it is worth is what the hold of that sum in a sandbox is worth. -/
noncomputable def Try.pinned : Pinned := { name := "ytjmgfhphkkiekaa", sum := "b599656b91a2cfa459e30d140b58e14a7e481f7a65633edfdaf0f96bbca8813b", checked := Try.checked }
namespace Rows
def none {H : Type} : Left H := { results := [], args := [] }

/-- 'vinculumlaw25.SpaceDoes': WHATEVER THE INPUT: true; the input reads as it did. -/
def spaceDoesSpec : ChangeSpec := { name := "spaceDoes", fn := fun _ => fun
  | [d1, d2, d3, d4, d5, d6, d7] => { results := [.lit (.bool true)], args := [d1, d2, d3, d4, d5, d6, d7] }
  | _ => none }
def spaceDoesRow : OpenClaim := { program := "ytjmgfhphkkiekaa", sum := "b599656b91a2cfa459e30d140b58e14a7e481f7a65633edfdaf0f96bbca8813b", func := "vinculum/vinculumlaw25.SpaceDoes", spec := "spaceDoes", unfollowed := true, recurses := true, loops := true, apart := false }
def SpaceDoesSaid : Prop := spaceDoesRow.holds Try.pinned (OpenSpec.ofChange spaceDoesSpec)

/-- ITS FALSE NEIGHBOUR: 'it returns false'. Refute it at one input. -/
def spaceDoesWrong : ChangeSpec := { name := "spaceDoes", fn := fun _ => fun
  | [d1, d2, d3, d4, d5, d6, d7] => { results := [.lit (.bool false)], args := [d1, d2, d3, d4, d5, d6, d7] }
  | _ => none }
def SpaceDoesWrongFalsely : Prop := spaceDoesRow.holds Try.pinned (OpenSpec.ofChange spaceDoesWrong)

/-- 'vinculumlaw25.SpaceBins': WHATEVER THE INPUT: true; the input reads as it did. -/
def spaceBinsSpec : ChangeSpec := { name := "spaceBins", fn := fun _ => fun
  | [d] => { results := [.lit (.bool true)], args := [d] }
  | _ => none }
def spaceBinsRow : OpenClaim := { program := "ytjmgfhphkkiekaa", sum := "b599656b91a2cfa459e30d140b58e14a7e481f7a65633edfdaf0f96bbca8813b", func := "vinculum/vinculumlaw25.SpaceBins", spec := "spaceBins", unfollowed := true, recurses := true, apart := false }
def SpaceBinsSaid : Prop := spaceBinsRow.holds Try.pinned (OpenSpec.ofChange spaceBinsSpec)

/-- ITS FALSE NEIGHBOUR: 'it returns false'. Refute it at one input. -/
def spaceBinsWrong : ChangeSpec := { name := "spaceBins", fn := fun _ => fun
  | [d] => { results := [.lit (.bool false)], args := [d] }
  | _ => none }
def SpaceBinsWrongFalsely : Prop := spaceBinsRow.holds Try.pinned (OpenSpec.ofChange spaceBinsWrong)

/-- 'vinculumlaw25.SpaceScripts': WHATEVER THE INPUT: true; the input reads as it did. -/
def spaceScriptsSpec : ChangeSpec := { name := "spaceScripts", fn := fun _ => fun
  | [d1, d2, d3] => { results := [.lit (.bool true)], args := [d1, d2, d3] }
  | _ => none }
def spaceScriptsRow : OpenClaim := { program := "ytjmgfhphkkiekaa", sum := "b599656b91a2cfa459e30d140b58e14a7e481f7a65633edfdaf0f96bbca8813b", func := "vinculum/vinculumlaw25.SpaceScripts", spec := "spaceScripts", unfollowed := true, recurses := true, apart := false }
def SpaceScriptsSaid : Prop := spaceScriptsRow.holds Try.pinned (OpenSpec.ofChange spaceScriptsSpec)

/-- ITS FALSE NEIGHBOUR: 'it returns false'. Refute it at one input. -/
def spaceScriptsWrong : ChangeSpec := { name := "spaceScripts", fn := fun _ => fun
  | [d1, d2, d3] => { results := [.lit (.bool false)], args := [d1, d2, d3] }
  | _ => none }
def SpaceScriptsWrongFalsely : Prop := spaceScriptsRow.holds Try.pinned (OpenSpec.ofChange spaceScriptsWrong)

/-- 'vinculumlaw25.SpaceMu': WHATEVER THE INPUT: true; the input reads as it did. -/
def spaceMuSpec : ChangeSpec := { name := "spaceMu", fn := fun _ => fun
  | [d1, d2, d3] => { results := [.lit (.bool true)], args := [d1, d2, d3] }
  | _ => none }
def spaceMuRow : OpenClaim := { program := "ytjmgfhphkkiekaa", sum := "b599656b91a2cfa459e30d140b58e14a7e481f7a65633edfdaf0f96bbca8813b", func := "vinculum/vinculumlaw25.SpaceMu", spec := "spaceMu", unfollowed := true, recurses := true, apart := false }
def SpaceMuSaid : Prop := spaceMuRow.holds Try.pinned (OpenSpec.ofChange spaceMuSpec)

/-- ITS FALSE NEIGHBOUR: 'it returns false'. Refute it at one input. -/
def spaceMuWrong : ChangeSpec := { name := "spaceMu", fn := fun _ => fun
  | [d1, d2, d3] => { results := [.lit (.bool false)], args := [d1, d2, d3] }
  | _ => none }
def SpaceMuWrongFalsely : Prop := spaceMuRow.holds Try.pinned (OpenSpec.ofChange spaceMuWrong)

/-- 'vinculumlaw25.SpaceGroups': WHATEVER THE INPUT: true; the input reads as it did. -/
def spaceGroupsSpec : ChangeSpec := { name := "spaceGroups", fn := fun _ => fun
  | [d] => { results := [.lit (.bool true)], args := [d] }
  | _ => none }
def spaceGroupsRow : OpenClaim := { program := "ytjmgfhphkkiekaa", sum := "b599656b91a2cfa459e30d140b58e14a7e481f7a65633edfdaf0f96bbca8813b", func := "vinculum/vinculumlaw25.SpaceGroups", spec := "spaceGroups", unfollowed := true, recurses := true, loops := true, apart := false }
def SpaceGroupsSaid : Prop := spaceGroupsRow.holds Try.pinned (OpenSpec.ofChange spaceGroupsSpec)

/-- ITS FALSE NEIGHBOUR: 'it returns false'. Refute it at one input. -/
def spaceGroupsWrong : ChangeSpec := { name := "spaceGroups", fn := fun _ => fun
  | [d] => { results := [.lit (.bool false)], args := [d] }
  | _ => none }
def SpaceGroupsWrongFalsely : Prop := spaceGroupsRow.holds Try.pinned (OpenSpec.ofChange spaceGroupsWrong)

/- THE SECOND FORM. 'bulk': how many values and letters a reading holds, each counted each time it is reached (what is shared counts as often as it is met; a slice's spare places count too). A statement '..UptoSaid' is the law's where the arguments, and the package variables that the reading takes, are together of bulk at most 1048576: NARROWER than '..Said'. Prove '..Said' where nothing that the law and all that it calls make is longer than what came in: it says more and counts as full. Else prove '..UptoSaid'. A law counts once. -/
mutual
def uptoBulk {H : Type} : DataW H → Nat
  | .lit (.string bytes) => bytes.length + 1
  | .lit _ => 1
  | .nil => 1
  | .ptr d => uptoBulk d + 1
  | .slice elems spare => uptoBulkAll elems + uptoBulkAll spare + 1
  | .agg parts => uptoBulkAll parts + 1
  | .iface _ d => uptoBulk d + 1
  | .map entries => uptoBulkEntries entries + 1
  | .held _ => 1
def uptoBulkAll {H : Type} : List (DataW H) → Nat
  | [] => 0
  | d :: r => uptoBulk d + uptoBulkAll r
def uptoBulkEntries {H : Type} : List (Lit × DataW H) → Nat
  | [] => 0
  | x :: r => uptoBulkEntry x + uptoBulkEntries r
def uptoBulkEntry {H : Type} : Lit × DataW H → Nat
  | (.string bytes, d) => bytes.length + uptoBulk d + 1
  | (_, d) => uptoBulk d + 1
 end
def uptoSmall : (H : Type) → List (DataW H) → Bool := fun _ ds => decide (uptoBulkAll ds ≤ 1048576)
def OpenSpec.upto (s : _root_.Go.ChangeSpec) : _root_.Go.OpenSpec := { _root_.Go.OpenSpec.ofChange s with cond := some uptoSmall }

/-- 'vinculumlaw25.SpaceDoes', WHERE WHAT IT READS IS OF BULK AT MOST 1048576: true; the input reads as it did. -/
def spaceDoesUptoRow : OpenClaim := { program := "ytjmgfhphkkiekaa", sum := "b599656b91a2cfa459e30d140b58e14a7e481f7a65633edfdaf0f96bbca8813b", func := "vinculum/vinculumlaw25.SpaceDoes", spec := "spaceDoes", unfollowed := true, recurses := true, loops := true, apart := false, narrowed := true }
def SpaceDoesUptoSaid : Prop := spaceDoesUptoRow.holds Try.pinned (OpenSpec.upto spaceDoesSpec)

/-- 'vinculumlaw25.SpaceBins', WHERE WHAT IT READS IS OF BULK AT MOST 1048576: true; the input reads as it did. -/
def spaceBinsUptoRow : OpenClaim := { program := "ytjmgfhphkkiekaa", sum := "b599656b91a2cfa459e30d140b58e14a7e481f7a65633edfdaf0f96bbca8813b", func := "vinculum/vinculumlaw25.SpaceBins", spec := "spaceBins", unfollowed := true, recurses := true, apart := false, narrowed := true }
def SpaceBinsUptoSaid : Prop := spaceBinsUptoRow.holds Try.pinned (OpenSpec.upto spaceBinsSpec)

/-- 'vinculumlaw25.SpaceScripts', WHERE WHAT IT READS IS OF BULK AT MOST 1048576: true; the input reads as it did. -/
def spaceScriptsUptoRow : OpenClaim := { program := "ytjmgfhphkkiekaa", sum := "b599656b91a2cfa459e30d140b58e14a7e481f7a65633edfdaf0f96bbca8813b", func := "vinculum/vinculumlaw25.SpaceScripts", spec := "spaceScripts", unfollowed := true, recurses := true, apart := false, narrowed := true }
def SpaceScriptsUptoSaid : Prop := spaceScriptsUptoRow.holds Try.pinned (OpenSpec.upto spaceScriptsSpec)

/-- 'vinculumlaw25.SpaceMu', WHERE WHAT IT READS IS OF BULK AT MOST 1048576: true; the input reads as it did. -/
def spaceMuUptoRow : OpenClaim := { program := "ytjmgfhphkkiekaa", sum := "b599656b91a2cfa459e30d140b58e14a7e481f7a65633edfdaf0f96bbca8813b", func := "vinculum/vinculumlaw25.SpaceMu", spec := "spaceMu", unfollowed := true, recurses := true, apart := false, narrowed := true }
def SpaceMuUptoSaid : Prop := spaceMuUptoRow.holds Try.pinned (OpenSpec.upto spaceMuSpec)

/-- 'vinculumlaw25.SpaceGroups', WHERE WHAT IT READS IS OF BULK AT MOST 1048576: true; the input reads as it did. -/
def spaceGroupsUptoRow : OpenClaim := { program := "ytjmgfhphkkiekaa", sum := "b599656b91a2cfa459e30d140b58e14a7e481f7a65633edfdaf0f96bbca8813b", func := "vinculum/vinculumlaw25.SpaceGroups", spec := "spaceGroups", unfollowed := true, recurses := true, loops := true, apart := false, narrowed := true }
def SpaceGroupsUptoSaid : Prop := spaceGroupsUptoRow.holds Try.pinned (OpenSpec.upto spaceGroupsSpec)

end Rows
end Go.Proofs.Ytjmgfhphkkiekaa
