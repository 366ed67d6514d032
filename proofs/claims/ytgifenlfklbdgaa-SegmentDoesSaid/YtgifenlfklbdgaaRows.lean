/-
  No cell of these rows narrows 'for every input' (looked for: loops, veiled, ifaces, maps, wideKeys, modest, calm, conditions, laid).
  DERIVED. THE GIVEN ROWS OF THIS SEAT. 15 by the template 'for every input the law returns true; each argument reads behind the call as it read before'; 0 by the template 'total and deterministic' (their statements: YtgifenlfklbdgaaTotals.lean).
  GIVEN WITH THE SEED: the statements are not yours to turn. If you find one false, say at which input.
  Laid BY PROGRAM, IN A SANDBOX (cutbox-rows.mjs): the forced cells as the released guide's own fill.sh prints them over the translation 1ea57bcede6b3593… (all of the seat's roots in one cut). By AI agents, Wed Nov 11 2026. No macro, syntax, notation, axiom, sorry.
-/
import Derived.Test.YtgifenlfklbdgaaChecked
import GoSem.Claim
import GoSem.ClaimJoined
import GoSem.ClaimMapViews
import Derived.JoinedTies
import Derived.KernelRfl
namespace Go.Proofs.Ytgifenlfklbdgaa
/- THE CELL 'sum', in the pinned program and in every row, IS THE sha256 OF THE DUMP (.gsa) THAT YtgifenlfklbdgaaProg.lean LOADS. Nothing in Lean hashes anything: it is a label: what it is worth is what the hold of that sum in a sandbox is worth. -/
noncomputable def Try.pinned : Pinned := { name := "ytgifenlfklbdgaa", sum := "1ea57bcede6b3593ff4584ec0b1d17fb73b0442da0897876c74b6382c0bdef21", checked := Try.checked }
namespace Rows
def none {H : Type} : Left H := { results := [], args := [] }

/-- 'vinculumlaw11.CmapFormats': WHATEVER THE INPUT: true; the input reads as it did. -/
def cmapFormatsSpec : ChangeSpec := { name := "cmapFormats", fn := fun _ => fun
  | [d1, d2, d3, d4, d5] => { results := [.lit (.bool true)], args := [d1, d2, d3, d4, d5] }
  | _ => none }
def cmapFormatsRow : OpenClaim := { program := "ytgifenlfklbdgaa", sum := "1ea57bcede6b3593ff4584ec0b1d17fb73b0442da0897876c74b6382c0bdef21", func := "vinculum/vinculumlaw11.CmapFormats", spec := "cmapFormats", inPlace := ["internal/abi.NoEscape"], unfollowed := true, recurses := true, apart := false }
def CmapFormatsSaid : Prop := cmapFormatsRow.holds Try.pinned (OpenSpec.ofChange cmapFormatsSpec)

/-- ITS FALSE NEIGHBOUR: 'it returns false'. Refute it at one input. -/
def cmapFormatsWrong : ChangeSpec := { name := "cmapFormats", fn := fun _ => fun
  | [d1, d2, d3, d4, d5] => { results := [.lit (.bool false)], args := [d1, d2, d3, d4, d5] }
  | _ => none }
def CmapFormatsWrongFalsely : Prop := cmapFormatsRow.holds Try.pinned (OpenSpec.ofChange cmapFormatsWrong)

/-- 'vinculumlaw11.CmapRecords': WHATEVER THE INPUT: true; the input reads as it did. -/
def cmapRecordsSpec : ChangeSpec := { name := "cmapRecords", fn := fun _ => fun
  | [d1, d2, d3, d4, d5, d6, d7] => { results := [.lit (.bool true)], args := [d1, d2, d3, d4, d5, d6, d7] }
  | _ => none }
def cmapRecordsRow : OpenClaim := { program := "ytgifenlfklbdgaa", sum := "1ea57bcede6b3593ff4584ec0b1d17fb73b0442da0897876c74b6382c0bdef21", func := "vinculum/vinculumlaw11.CmapRecords", spec := "cmapRecords", inPlace := ["internal/abi.NoEscape"], unfollowed := true, recurses := true, apart := false }
def CmapRecordsSaid : Prop := cmapRecordsRow.holds Try.pinned (OpenSpec.ofChange cmapRecordsSpec)

/-- ITS FALSE NEIGHBOUR: 'it returns false'. Refute it at one input. -/
def cmapRecordsWrong : ChangeSpec := { name := "cmapRecords", fn := fun _ => fun
  | [d1, d2, d3, d4, d5, d6, d7] => { results := [.lit (.bool false)], args := [d1, d2, d3, d4, d5, d6, d7] }
  | _ => none }
def CmapRecordsWrongFalsely : Prop := cmapRecordsRow.holds Try.pinned (OpenSpec.ofChange cmapRecordsWrong)

/-- 'vinculumlaw10.GroupDoes': WHATEVER THE INPUT: true; the input reads as it did. -/
def groupDoesSpec : ChangeSpec := { name := "groupDoes", fn := fun _ => fun
  | [d1, d2, d3, d4] => { results := [.lit (.bool true)], args := [d1, d2, d3, d4] }
  | _ => none }
def groupDoesRow : OpenClaim := { program := "ytgifenlfklbdgaa", sum := "1ea57bcede6b3593ff4584ec0b1d17fb73b0442da0897876c74b6382c0bdef21", func := "vinculum/vinculumlaw10.GroupDoes", spec := "groupDoes", inPlace := ["internal/abi.NoEscape"], unfollowed := true, recurses := true, apart := false }
def GroupDoesSaid : Prop := groupDoesRow.holds Try.pinned (OpenSpec.ofChange groupDoesSpec)

/-- ITS FALSE NEIGHBOUR: 'it returns false'. Refute it at one input. -/
def groupDoesWrong : ChangeSpec := { name := "groupDoes", fn := fun _ => fun
  | [d1, d2, d3, d4] => { results := [.lit (.bool false)], args := [d1, d2, d3, d4] }
  | _ => none }
def GroupDoesWrongFalsely : Prop := groupDoesRow.holds Try.pinned (OpenSpec.ofChange groupDoesWrong)

/-- 'vinculumlaw10.GroupBack': WHATEVER THE INPUT: true; the input reads as it did. -/
def groupBackSpec : ChangeSpec := { name := "groupBack", fn := fun _ => fun
  | [d1, d2, d3] => { results := [.lit (.bool true)], args := [d1, d2, d3] }
  | _ => none }
def groupBackRow : OpenClaim := { program := "ytgifenlfklbdgaa", sum := "1ea57bcede6b3593ff4584ec0b1d17fb73b0442da0897876c74b6382c0bdef21", func := "vinculum/vinculumlaw10.GroupBack", spec := "groupBack", inPlace := ["internal/abi.NoEscape"], unfollowed := true, recurses := true, apart := false }
def GroupBackSaid : Prop := groupBackRow.holds Try.pinned (OpenSpec.ofChange groupBackSpec)

/-- ITS FALSE NEIGHBOUR: 'it returns false'. Refute it at one input. -/
def groupBackWrong : ChangeSpec := { name := "groupBack", fn := fun _ => fun
  | [d1, d2, d3] => { results := [.lit (.bool false)], args := [d1, d2, d3] }
  | _ => none }
def GroupBackWrongFalsely : Prop := groupBackRow.holds Try.pinned (OpenSpec.ofChange groupBackWrong)

/-- 'vinculumlaw10.GroupOnly': WHATEVER THE INPUT: true; the input reads as it did. -/
def groupOnlySpec : ChangeSpec := { name := "groupOnly", fn := fun _ => fun
  | [d1, d2] => { results := [.lit (.bool true)], args := [d1, d2] }
  | _ => none }
def groupOnlyRow : OpenClaim := { program := "ytgifenlfklbdgaa", sum := "1ea57bcede6b3593ff4584ec0b1d17fb73b0442da0897876c74b6382c0bdef21", func := "vinculum/vinculumlaw10.GroupOnly", spec := "groupOnly", inPlace := ["internal/abi.NoEscape"], unfollowed := true, recurses := true, apart := false }
def GroupOnlySaid : Prop := groupOnlyRow.holds Try.pinned (OpenSpec.ofChange groupOnlySpec)

/-- ITS FALSE NEIGHBOUR: 'it returns false'. Refute it at one input. -/
def groupOnlyWrong : ChangeSpec := { name := "groupOnly", fn := fun _ => fun
  | [d1, d2] => { results := [.lit (.bool false)], args := [d1, d2] }
  | _ => none }
def GroupOnlyWrongFalsely : Prop := groupOnlyRow.holds Try.pinned (OpenSpec.ofChange groupOnlyWrong)

/-- 'vinculumlaw08.ChartDoes': WHATEVER THE INPUT: true; the input reads as it did. -/
def chartDoesSpec : ChangeSpec := { name := "chartDoes", fn := fun _ => fun
  | [d1, d2, d3] => { results := [.lit (.bool true)], args := [d1, d2, d3] }
  | _ => none }
def chartDoesRow : OpenClaim := { program := "ytgifenlfklbdgaa", sum := "1ea57bcede6b3593ff4584ec0b1d17fb73b0442da0897876c74b6382c0bdef21", func := "vinculum/vinculumlaw08.ChartDoes", spec := "chartDoes", inPlace := ["internal/abi.NoEscape"], unfollowed := true, recurses := true, apart := false }
def ChartDoesSaid : Prop := chartDoesRow.holds Try.pinned (OpenSpec.ofChange chartDoesSpec)

/-- ITS FALSE NEIGHBOUR: 'it returns false'. Refute it at one input. -/
def chartDoesWrong : ChangeSpec := { name := "chartDoes", fn := fun _ => fun
  | [d1, d2, d3] => { results := [.lit (.bool false)], args := [d1, d2, d3] }
  | _ => none }
def ChartDoesWrongFalsely : Prop := chartDoesRow.holds Try.pinned (OpenSpec.ofChange chartDoesWrong)

/-- 'vinculumlaw08.ChartBack': WHATEVER THE INPUT: true; the input reads as it did. -/
def chartBackSpec : ChangeSpec := { name := "chartBack", fn := fun _ => fun
  | [d1, d2] => { results := [.lit (.bool true)], args := [d1, d2] }
  | _ => none }
def chartBackRow : OpenClaim := { program := "ytgifenlfklbdgaa", sum := "1ea57bcede6b3593ff4584ec0b1d17fb73b0442da0897876c74b6382c0bdef21", func := "vinculum/vinculumlaw08.ChartBack", spec := "chartBack", inPlace := ["internal/abi.NoEscape"], unfollowed := true, recurses := true, apart := false }
def ChartBackSaid : Prop := chartBackRow.holds Try.pinned (OpenSpec.ofChange chartBackSpec)

/-- ITS FALSE NEIGHBOUR: 'it returns false'. Refute it at one input. -/
def chartBackWrong : ChangeSpec := { name := "chartBack", fn := fun _ => fun
  | [d1, d2] => { results := [.lit (.bool false)], args := [d1, d2] }
  | _ => none }
def ChartBackWrongFalsely : Prop := chartBackRow.holds Try.pinned (OpenSpec.ofChange chartBackWrong)

/-- 'vinculumlaw08.ChartOnly': WHATEVER THE INPUT: true; the input reads as it did. -/
def chartOnlySpec : ChangeSpec := { name := "chartOnly", fn := fun _ => fun
  | [d] => { results := [.lit (.bool true)], args := [d] }
  | _ => none }
def chartOnlyRow : OpenClaim := { program := "ytgifenlfklbdgaa", sum := "1ea57bcede6b3593ff4584ec0b1d17fb73b0442da0897876c74b6382c0bdef21", func := "vinculum/vinculumlaw08.ChartOnly", spec := "chartOnly", inPlace := ["internal/abi.NoEscape"], unfollowed := true, recurses := true, apart := false }
def ChartOnlySaid : Prop := chartOnlyRow.holds Try.pinned (OpenSpec.ofChange chartOnlySpec)

/-- ITS FALSE NEIGHBOUR: 'it returns false'. Refute it at one input. -/
def chartOnlyWrong : ChangeSpec := { name := "chartOnly", fn := fun _ => fun
  | [d] => { results := [.lit (.bool false)], args := [d] }
  | _ => none }
def ChartOnlyWrongFalsely : Prop := chartOnlyRow.holds Try.pinned (OpenSpec.ofChange chartOnlyWrong)

/-- 'vinculumlaw08.ChartSpan': WHATEVER THE INPUT: true; the input reads as it did. -/
def chartSpanSpec : ChangeSpec := { name := "chartSpan", fn := fun _ => fun
  | [d1, d2] => { results := [.lit (.bool true)], args := [d1, d2] }
  | _ => none }
def chartSpanRow : OpenClaim := { program := "ytgifenlfklbdgaa", sum := "1ea57bcede6b3593ff4584ec0b1d17fb73b0442da0897876c74b6382c0bdef21", func := "vinculum/vinculumlaw08.ChartSpan", spec := "chartSpan", inPlace := ["internal/abi.NoEscape"], unfollowed := true, recurses := true, apart := false }
def ChartSpanSaid : Prop := chartSpanRow.holds Try.pinned (OpenSpec.ofChange chartSpanSpec)

/-- ITS FALSE NEIGHBOUR: 'it returns false'. Refute it at one input. -/
def chartSpanWrong : ChangeSpec := { name := "chartSpan", fn := fun _ => fun
  | [d1, d2] => { results := [.lit (.bool false)], args := [d1, d2] }
  | _ => none }
def ChartSpanWrongFalsely : Prop := chartSpanRow.holds Try.pinned (OpenSpec.ofChange chartSpanWrong)

/-- 'vinculumlaw09.SegmentDoes': WHATEVER THE INPUT: true; the input reads as it did. -/
def segmentDoesSpec : ChangeSpec := { name := "segmentDoes", fn := fun _ => fun
  | [d1, d2] => { results := [.lit (.bool true)], args := [d1, d2] }
  | _ => none }
def segmentDoesRow : OpenClaim := { program := "ytgifenlfklbdgaa", sum := "1ea57bcede6b3593ff4584ec0b1d17fb73b0442da0897876c74b6382c0bdef21", func := "vinculum/vinculumlaw09.SegmentDoes", spec := "segmentDoes", inPlace := ["internal/abi.NoEscape"], unfollowed := true, recurses := true, apart := false }
def SegmentDoesSaid : Prop := segmentDoesRow.holds Try.pinned (OpenSpec.ofChange segmentDoesSpec)

/-- ITS FALSE NEIGHBOUR: 'it returns false'. Refute it at one input. -/
def segmentDoesWrong : ChangeSpec := { name := "segmentDoes", fn := fun _ => fun
  | [d1, d2] => { results := [.lit (.bool false)], args := [d1, d2] }
  | _ => none }
def SegmentDoesWrongFalsely : Prop := segmentDoesRow.holds Try.pinned (OpenSpec.ofChange segmentDoesWrong)

/-- 'vinculumlaw09.SegmentMany': WHATEVER THE INPUT: true; the input reads as it did. -/
def segmentManySpec : ChangeSpec := { name := "segmentMany", fn := fun _ => fun
  | [d1, d2] => { results := [.lit (.bool true)], args := [d1, d2] }
  | _ => none }
def segmentManyRow : OpenClaim := { program := "ytgifenlfklbdgaa", sum := "1ea57bcede6b3593ff4584ec0b1d17fb73b0442da0897876c74b6382c0bdef21", func := "vinculum/vinculumlaw09.SegmentMany", spec := "segmentMany", inPlace := ["internal/abi.NoEscape"], unfollowed := true, recurses := true, apart := false }
def SegmentManySaid : Prop := segmentManyRow.holds Try.pinned (OpenSpec.ofChange segmentManySpec)

/-- ITS FALSE NEIGHBOUR: 'it returns false'. Refute it at one input. -/
def segmentManyWrong : ChangeSpec := { name := "segmentMany", fn := fun _ => fun
  | [d1, d2] => { results := [.lit (.bool false)], args := [d1, d2] }
  | _ => none }
def SegmentManyWrongFalsely : Prop := segmentManyRow.holds Try.pinned (OpenSpec.ofChange segmentManyWrong)

/-- 'vinculumlaw09.SegmentBack': WHATEVER THE INPUT: true; the input reads as it did. -/
def segmentBackSpec : ChangeSpec := { name := "segmentBack", fn := fun _ => fun
  | [d1, d2, d3] => { results := [.lit (.bool true)], args := [d1, d2, d3] }
  | _ => none }
def segmentBackRow : OpenClaim := { program := "ytgifenlfklbdgaa", sum := "1ea57bcede6b3593ff4584ec0b1d17fb73b0442da0897876c74b6382c0bdef21", func := "vinculum/vinculumlaw09.SegmentBack", spec := "segmentBack", inPlace := ["internal/abi.NoEscape"], unfollowed := true, recurses := true, apart := false }
def SegmentBackSaid : Prop := segmentBackRow.holds Try.pinned (OpenSpec.ofChange segmentBackSpec)

/-- ITS FALSE NEIGHBOUR: 'it returns false'. Refute it at one input. -/
def segmentBackWrong : ChangeSpec := { name := "segmentBack", fn := fun _ => fun
  | [d1, d2, d3] => { results := [.lit (.bool false)], args := [d1, d2, d3] }
  | _ => none }
def SegmentBackWrongFalsely : Prop := segmentBackRow.holds Try.pinned (OpenSpec.ofChange segmentBackWrong)

/-- 'vinculumlaw09.SegmentOnly': WHATEVER THE INPUT: true; the input reads as it did. -/
def segmentOnlySpec : ChangeSpec := { name := "segmentOnly", fn := fun _ => fun
  | [d1, d2] => { results := [.lit (.bool true)], args := [d1, d2] }
  | _ => none }
def segmentOnlyRow : OpenClaim := { program := "ytgifenlfklbdgaa", sum := "1ea57bcede6b3593ff4584ec0b1d17fb73b0442da0897876c74b6382c0bdef21", func := "vinculum/vinculumlaw09.SegmentOnly", spec := "segmentOnly", inPlace := ["internal/abi.NoEscape"], unfollowed := true, recurses := true, apart := false }
def SegmentOnlySaid : Prop := segmentOnlyRow.holds Try.pinned (OpenSpec.ofChange segmentOnlySpec)

/-- ITS FALSE NEIGHBOUR: 'it returns false'. Refute it at one input. -/
def segmentOnlyWrong : ChangeSpec := { name := "segmentOnly", fn := fun _ => fun
  | [d1, d2] => { results := [.lit (.bool false)], args := [d1, d2] }
  | _ => none }
def SegmentOnlyWrongFalsely : Prop := segmentOnlyRow.holds Try.pinned (OpenSpec.ofChange segmentOnlyWrong)

/-- 'vinculumlaw09.SegmentWraps': WHATEVER THE INPUT: true; the input reads as it did. -/
def segmentWrapsSpec : ChangeSpec := { name := "segmentWraps", fn := fun _ => fun
  | [d1, d2, d3] => { results := [.lit (.bool true)], args := [d1, d2, d3] }
  | _ => none }
def segmentWrapsRow : OpenClaim := { program := "ytgifenlfklbdgaa", sum := "1ea57bcede6b3593ff4584ec0b1d17fb73b0442da0897876c74b6382c0bdef21", func := "vinculum/vinculumlaw09.SegmentWraps", spec := "segmentWraps", inPlace := ["internal/abi.NoEscape"], unfollowed := true, recurses := true, apart := false }
def SegmentWrapsSaid : Prop := segmentWrapsRow.holds Try.pinned (OpenSpec.ofChange segmentWrapsSpec)

/-- ITS FALSE NEIGHBOUR: 'it returns false'. Refute it at one input. -/
def segmentWrapsWrong : ChangeSpec := { name := "segmentWraps", fn := fun _ => fun
  | [d1, d2, d3] => { results := [.lit (.bool false)], args := [d1, d2, d3] }
  | _ => none }
def SegmentWrapsWrongFalsely : Prop := segmentWrapsRow.holds Try.pinned (OpenSpec.ofChange segmentWrapsWrong)

/-- 'vinculumlaw11.CmapBack': WHATEVER THE INPUT: true; the input reads as it did. -/
def cmapBackSpec : ChangeSpec := { name := "cmapBack", fn := fun _ => fun
  | [d1, d2, d3] => { results := [.lit (.bool true)], args := [d1, d2, d3] }
  | _ => none }
def cmapBackRow : OpenClaim := { program := "ytgifenlfklbdgaa", sum := "1ea57bcede6b3593ff4584ec0b1d17fb73b0442da0897876c74b6382c0bdef21", func := "vinculum/vinculumlaw11.CmapBack", spec := "cmapBack", inPlace := ["internal/abi.NoEscape"], unfollowed := true, recurses := true, apart := false }
def CmapBackSaid : Prop := cmapBackRow.holds Try.pinned (OpenSpec.ofChange cmapBackSpec)

/-- ITS FALSE NEIGHBOUR: 'it returns false'. Refute it at one input. -/
def cmapBackWrong : ChangeSpec := { name := "cmapBack", fn := fun _ => fun
  | [d1, d2, d3] => { results := [.lit (.bool false)], args := [d1, d2, d3] }
  | _ => none }
def CmapBackWrongFalsely : Prop := cmapBackRow.holds Try.pinned (OpenSpec.ofChange cmapBackWrong)

/- THE SECOND FORM. 'bulk': how many values and letters a reading holds, each counted each time it is reached (what is shared counts as often as it is met; a slice's spare places count too). A statement '..UptoSaid' is the law's where the arguments, and the package variables that the reading takes, are together of bulk at most 1048576: NARROWER than '..Said'. Prove '..Said' where nothing that the law and all that it calls make is longer than what came in: it says more and counts as full. Else prove '..UptoSaid'. A law counts once. -/
mutual
def uptoBulk {H : Type} : DataW H → Nat
  | .lit (.string bytes) => bytes.length + 1
  | .lit _ => 1
  | .nil => 1
  | .ptr d => uptoBulk d + 1
  | .slice elems spare => uptoBulkAll elems + uptoBulkAll spare + 1
  | .agg parts => uptoBulkAll parts + 1
  | .iface _ d => uptoBulk d + 1
  | .map entries => uptoBulkEntries entries + 1
  | .held _ => 1
def uptoBulkAll {H : Type} : List (DataW H) → Nat
  | [] => 0
  | d :: r => uptoBulk d + uptoBulkAll r
def uptoBulkEntries {H : Type} : List (Lit × DataW H) → Nat
  | [] => 0
  | x :: r => uptoBulkEntry x + uptoBulkEntries r
def uptoBulkEntry {H : Type} : Lit × DataW H → Nat
  | (.string bytes, d) => bytes.length + uptoBulk d + 1
  | (_, d) => uptoBulk d + 1
 end
def uptoSmall : (H : Type) → List (DataW H) → Bool := fun _ ds => decide (uptoBulkAll ds ≤ 1048576)
def OpenSpec.upto (s : _root_.Go.ChangeSpec) : _root_.Go.OpenSpec := { _root_.Go.OpenSpec.ofChange s with cond := some uptoSmall }

/-- 'vinculumlaw11.CmapFormats', WHERE WHAT IT READS IS OF BULK AT MOST 1048576: true; the input reads as it did. -/
def cmapFormatsUptoRow : OpenClaim := { program := "ytgifenlfklbdgaa", sum := "1ea57bcede6b3593ff4584ec0b1d17fb73b0442da0897876c74b6382c0bdef21", func := "vinculum/vinculumlaw11.CmapFormats", spec := "cmapFormats", inPlace := ["internal/abi.NoEscape"], unfollowed := true, recurses := true, apart := false, narrowed := true }
def CmapFormatsUptoSaid : Prop := cmapFormatsUptoRow.holds Try.pinned (OpenSpec.upto cmapFormatsSpec)

/-- 'vinculumlaw11.CmapRecords', WHERE WHAT IT READS IS OF BULK AT MOST 1048576: true; the input reads as it did. -/
def cmapRecordsUptoRow : OpenClaim := { program := "ytgifenlfklbdgaa", sum := "1ea57bcede6b3593ff4584ec0b1d17fb73b0442da0897876c74b6382c0bdef21", func := "vinculum/vinculumlaw11.CmapRecords", spec := "cmapRecords", inPlace := ["internal/abi.NoEscape"], unfollowed := true, recurses := true, apart := false, narrowed := true }
def CmapRecordsUptoSaid : Prop := cmapRecordsUptoRow.holds Try.pinned (OpenSpec.upto cmapRecordsSpec)

/-- 'vinculumlaw10.GroupDoes', WHERE WHAT IT READS IS OF BULK AT MOST 1048576: true; the input reads as it did. -/
def groupDoesUptoRow : OpenClaim := { program := "ytgifenlfklbdgaa", sum := "1ea57bcede6b3593ff4584ec0b1d17fb73b0442da0897876c74b6382c0bdef21", func := "vinculum/vinculumlaw10.GroupDoes", spec := "groupDoes", inPlace := ["internal/abi.NoEscape"], unfollowed := true, recurses := true, apart := false, narrowed := true }
def GroupDoesUptoSaid : Prop := groupDoesUptoRow.holds Try.pinned (OpenSpec.upto groupDoesSpec)

/-- 'vinculumlaw10.GroupBack', WHERE WHAT IT READS IS OF BULK AT MOST 1048576: true; the input reads as it did. -/
def groupBackUptoRow : OpenClaim := { program := "ytgifenlfklbdgaa", sum := "1ea57bcede6b3593ff4584ec0b1d17fb73b0442da0897876c74b6382c0bdef21", func := "vinculum/vinculumlaw10.GroupBack", spec := "groupBack", inPlace := ["internal/abi.NoEscape"], unfollowed := true, recurses := true, apart := false, narrowed := true }
def GroupBackUptoSaid : Prop := groupBackUptoRow.holds Try.pinned (OpenSpec.upto groupBackSpec)

/-- 'vinculumlaw10.GroupOnly', WHERE WHAT IT READS IS OF BULK AT MOST 1048576: true; the input reads as it did. -/
def groupOnlyUptoRow : OpenClaim := { program := "ytgifenlfklbdgaa", sum := "1ea57bcede6b3593ff4584ec0b1d17fb73b0442da0897876c74b6382c0bdef21", func := "vinculum/vinculumlaw10.GroupOnly", spec := "groupOnly", inPlace := ["internal/abi.NoEscape"], unfollowed := true, recurses := true, apart := false, narrowed := true }
def GroupOnlyUptoSaid : Prop := groupOnlyUptoRow.holds Try.pinned (OpenSpec.upto groupOnlySpec)

/-- 'vinculumlaw08.ChartDoes', WHERE WHAT IT READS IS OF BULK AT MOST 1048576: true; the input reads as it did. -/
def chartDoesUptoRow : OpenClaim := { program := "ytgifenlfklbdgaa", sum := "1ea57bcede6b3593ff4584ec0b1d17fb73b0442da0897876c74b6382c0bdef21", func := "vinculum/vinculumlaw08.ChartDoes", spec := "chartDoes", inPlace := ["internal/abi.NoEscape"], unfollowed := true, recurses := true, apart := false, narrowed := true }
def ChartDoesUptoSaid : Prop := chartDoesUptoRow.holds Try.pinned (OpenSpec.upto chartDoesSpec)

/-- 'vinculumlaw08.ChartBack', WHERE WHAT IT READS IS OF BULK AT MOST 1048576: true; the input reads as it did. -/
def chartBackUptoRow : OpenClaim := { program := "ytgifenlfklbdgaa", sum := "1ea57bcede6b3593ff4584ec0b1d17fb73b0442da0897876c74b6382c0bdef21", func := "vinculum/vinculumlaw08.ChartBack", spec := "chartBack", inPlace := ["internal/abi.NoEscape"], unfollowed := true, recurses := true, apart := false, narrowed := true }
def ChartBackUptoSaid : Prop := chartBackUptoRow.holds Try.pinned (OpenSpec.upto chartBackSpec)

/-- 'vinculumlaw08.ChartOnly', WHERE WHAT IT READS IS OF BULK AT MOST 1048576: true; the input reads as it did. -/
def chartOnlyUptoRow : OpenClaim := { program := "ytgifenlfklbdgaa", sum := "1ea57bcede6b3593ff4584ec0b1d17fb73b0442da0897876c74b6382c0bdef21", func := "vinculum/vinculumlaw08.ChartOnly", spec := "chartOnly", inPlace := ["internal/abi.NoEscape"], unfollowed := true, recurses := true, apart := false, narrowed := true }
def ChartOnlyUptoSaid : Prop := chartOnlyUptoRow.holds Try.pinned (OpenSpec.upto chartOnlySpec)

/-- 'vinculumlaw08.ChartSpan', WHERE WHAT IT READS IS OF BULK AT MOST 1048576: true; the input reads as it did. -/
def chartSpanUptoRow : OpenClaim := { program := "ytgifenlfklbdgaa", sum := "1ea57bcede6b3593ff4584ec0b1d17fb73b0442da0897876c74b6382c0bdef21", func := "vinculum/vinculumlaw08.ChartSpan", spec := "chartSpan", inPlace := ["internal/abi.NoEscape"], unfollowed := true, recurses := true, apart := false, narrowed := true }
def ChartSpanUptoSaid : Prop := chartSpanUptoRow.holds Try.pinned (OpenSpec.upto chartSpanSpec)

/-- 'vinculumlaw09.SegmentDoes', WHERE WHAT IT READS IS OF BULK AT MOST 1048576: true; the input reads as it did. -/
def segmentDoesUptoRow : OpenClaim := { program := "ytgifenlfklbdgaa", sum := "1ea57bcede6b3593ff4584ec0b1d17fb73b0442da0897876c74b6382c0bdef21", func := "vinculum/vinculumlaw09.SegmentDoes", spec := "segmentDoes", inPlace := ["internal/abi.NoEscape"], unfollowed := true, recurses := true, apart := false, narrowed := true }
def SegmentDoesUptoSaid : Prop := segmentDoesUptoRow.holds Try.pinned (OpenSpec.upto segmentDoesSpec)

/-- 'vinculumlaw09.SegmentMany', WHERE WHAT IT READS IS OF BULK AT MOST 1048576: true; the input reads as it did. -/
def segmentManyUptoRow : OpenClaim := { program := "ytgifenlfklbdgaa", sum := "1ea57bcede6b3593ff4584ec0b1d17fb73b0442da0897876c74b6382c0bdef21", func := "vinculum/vinculumlaw09.SegmentMany", spec := "segmentMany", inPlace := ["internal/abi.NoEscape"], unfollowed := true, recurses := true, apart := false, narrowed := true }
def SegmentManyUptoSaid : Prop := segmentManyUptoRow.holds Try.pinned (OpenSpec.upto segmentManySpec)

/-- 'vinculumlaw09.SegmentBack', WHERE WHAT IT READS IS OF BULK AT MOST 1048576: true; the input reads as it did. -/
def segmentBackUptoRow : OpenClaim := { program := "ytgifenlfklbdgaa", sum := "1ea57bcede6b3593ff4584ec0b1d17fb73b0442da0897876c74b6382c0bdef21", func := "vinculum/vinculumlaw09.SegmentBack", spec := "segmentBack", inPlace := ["internal/abi.NoEscape"], unfollowed := true, recurses := true, apart := false, narrowed := true }
def SegmentBackUptoSaid : Prop := segmentBackUptoRow.holds Try.pinned (OpenSpec.upto segmentBackSpec)

/-- 'vinculumlaw09.SegmentOnly', WHERE WHAT IT READS IS OF BULK AT MOST 1048576: true; the input reads as it did. -/
def segmentOnlyUptoRow : OpenClaim := { program := "ytgifenlfklbdgaa", sum := "1ea57bcede6b3593ff4584ec0b1d17fb73b0442da0897876c74b6382c0bdef21", func := "vinculum/vinculumlaw09.SegmentOnly", spec := "segmentOnly", inPlace := ["internal/abi.NoEscape"], unfollowed := true, recurses := true, apart := false, narrowed := true }
def SegmentOnlyUptoSaid : Prop := segmentOnlyUptoRow.holds Try.pinned (OpenSpec.upto segmentOnlySpec)

/-- 'vinculumlaw09.SegmentWraps', WHERE WHAT IT READS IS OF BULK AT MOST 1048576: true; the input reads as it did. -/
def segmentWrapsUptoRow : OpenClaim := { program := "ytgifenlfklbdgaa", sum := "1ea57bcede6b3593ff4584ec0b1d17fb73b0442da0897876c74b6382c0bdef21", func := "vinculum/vinculumlaw09.SegmentWraps", spec := "segmentWraps", inPlace := ["internal/abi.NoEscape"], unfollowed := true, recurses := true, apart := false, narrowed := true }
def SegmentWrapsUptoSaid : Prop := segmentWrapsUptoRow.holds Try.pinned (OpenSpec.upto segmentWrapsSpec)

/-- 'vinculumlaw11.CmapBack', WHERE WHAT IT READS IS OF BULK AT MOST 1048576: true; the input reads as it did. -/
def cmapBackUptoRow : OpenClaim := { program := "ytgifenlfklbdgaa", sum := "1ea57bcede6b3593ff4584ec0b1d17fb73b0442da0897876c74b6382c0bdef21", func := "vinculum/vinculumlaw11.CmapBack", spec := "cmapBack", inPlace := ["internal/abi.NoEscape"], unfollowed := true, recurses := true, apart := false, narrowed := true }
def CmapBackUptoSaid : Prop := cmapBackUptoRow.holds Try.pinned (OpenSpec.upto cmapBackSpec)

end Rows
end Go.Proofs.Ytgifenlfklbdgaa
