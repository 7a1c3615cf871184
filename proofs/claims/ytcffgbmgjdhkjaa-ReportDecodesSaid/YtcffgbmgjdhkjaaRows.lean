/-
  No cell of these rows narrows 'for every input' (looked for: loops, veiled, ifaces, maps, wideKeys, modest, calm, conditions, laid).
  DERIVED. THE GIVEN ROWS OF THIS SEAT. 4 by the template 'for every input the law returns true; each argument reads behind the call as it read before'; 0 by the template 'total and deterministic' (their statements: YtcffgbmgjdhkjaaTotals.lean).
  GIVEN WITH THE SEED: the statements are not yours to turn. If you find one false, say at which input.
  Laid BY PROGRAM, IN A SANDBOX (cutbox-rows.mjs): the forced cells as the released guide's own fill.sh prints them over the translation b1c084f8557e2c99… (all of the seat's roots in one cut). By AI agents, Wed Nov 11 2026. No macro, syntax, notation, axiom, sorry.
-/
import Derived.Test.YtcffgbmgjdhkjaaChecked
import GoSem.Claim
import GoSem.ClaimJoined
import GoSem.ClaimMapViews
import Derived.JoinedTies
import Derived.KernelRfl
namespace Go.Proofs.Ytcffgbmgjdhkjaa
/- THE CELL 'sum', in the pinned program and in every row, IS THE sha256 OF THE DUMP (.gsa) THAT YtcffgbmgjdhkjaaProg.lean LOADS. Nothing in Lean hashes anything: it is a label: what it is worth is what the hold of that sum in a sandbox is worth. -/
noncomputable def Try.pinned : Pinned := { name := "ytcffgbmgjdhkjaa", sum := "b1c084f8557e2c9963c12a4ef1a5694fcdfdaaa6072c1983880812f021057801", checked := Try.checked }
namespace Rows
def none {H : Type} : Left H := { results := [], args := [] }

/-- 'backreachlaw25.ReportEncodes': WHATEVER THE INPUT: true; the input reads as it did. -/
def reportEncodesSpec : ChangeSpec := { name := "reportEncodes", fn := fun _ => fun
  | [d] => { results := [.lit (.bool true)], args := [d] }
  | _ => none }
def reportEncodesRow : OpenClaim := { program := "ytcffgbmgjdhkjaa", sum := "b1c084f8557e2c9963c12a4ef1a5694fcdfdaaa6072c1983880812f021057801", func := "backreach/backreachlaw25.ReportEncodes", spec := "reportEncodes", unfollowed := true, recurses := true, apart := false }
def ReportEncodesSaid : Prop := reportEncodesRow.holds Try.pinned (OpenSpec.ofChange reportEncodesSpec)

/-- ITS FALSE NEIGHBOUR: 'it returns false'. Refute it at one input. -/
def reportEncodesWrong : ChangeSpec := { name := "reportEncodes", fn := fun _ => fun
  | [d] => { results := [.lit (.bool false)], args := [d] }
  | _ => none }
def ReportEncodesWrongFalsely : Prop := reportEncodesRow.holds Try.pinned (OpenSpec.ofChange reportEncodesWrong)

/-- 'backreachlaw25.ReportDecodes': WHATEVER THE INPUT: true; the input reads as it did. -/
def reportDecodesSpec : ChangeSpec := { name := "reportDecodes", fn := fun _ => fun
  | [d] => { results := [.lit (.bool true)], args := [d] }
  | _ => none }
def reportDecodesRow : OpenClaim := { program := "ytcffgbmgjdhkjaa", sum := "b1c084f8557e2c9963c12a4ef1a5694fcdfdaaa6072c1983880812f021057801", func := "backreach/backreachlaw25.ReportDecodes", spec := "reportDecodes", unfollowed := true, recurses := true, apart := false }
def ReportDecodesSaid : Prop := reportDecodesRow.holds Try.pinned (OpenSpec.ofChange reportDecodesSpec)

/-- ITS FALSE NEIGHBOUR: 'it returns false'. Refute it at one input. -/
def reportDecodesWrong : ChangeSpec := { name := "reportDecodes", fn := fun _ => fun
  | [d] => { results := [.lit (.bool false)], args := [d] }
  | _ => none }
def ReportDecodesWrongFalsely : Prop := reportDecodesRow.holds Try.pinned (OpenSpec.ofChange reportDecodesWrong)

/-- 'backreachlaw25.ReportCuts': WHATEVER THE INPUT: true; the input reads as it did. -/
def reportCutsSpec : ChangeSpec := { name := "reportCuts", fn := fun _ => fun
  | [d1, d2, d3] => { results := [.lit (.bool true)], args := [d1, d2, d3] }
  | _ => none }
def reportCutsRow : OpenClaim := { program := "ytcffgbmgjdhkjaa", sum := "b1c084f8557e2c9963c12a4ef1a5694fcdfdaaa6072c1983880812f021057801", func := "backreach/backreachlaw25.ReportCuts", spec := "reportCuts", unfollowed := true, recurses := true, apart := false }
def ReportCutsSaid : Prop := reportCutsRow.holds Try.pinned (OpenSpec.ofChange reportCutsSpec)

/-- ITS FALSE NEIGHBOUR: 'it returns false'. Refute it at one input. -/
def reportCutsWrong : ChangeSpec := { name := "reportCuts", fn := fun _ => fun
  | [d1, d2, d3] => { results := [.lit (.bool false)], args := [d1, d2, d3] }
  | _ => none }
def ReportCutsWrongFalsely : Prop := reportCutsRow.holds Try.pinned (OpenSpec.ofChange reportCutsWrong)

/-- 'backreachlaw25.ReportSame': WHATEVER THE INPUT: true; the input reads as it did. -/
def reportSameSpec : ChangeSpec := { name := "reportSame", fn := fun _ => fun
  | [d1, d2] => { results := [.lit (.bool true)], args := [d1, d2] }
  | _ => none }
def reportSameRow : OpenClaim := { program := "ytcffgbmgjdhkjaa", sum := "b1c084f8557e2c9963c12a4ef1a5694fcdfdaaa6072c1983880812f021057801", func := "backreach/backreachlaw25.ReportSame", spec := "reportSame", unfollowed := true, recurses := true, apart := false }
def ReportSameSaid : Prop := reportSameRow.holds Try.pinned (OpenSpec.ofChange reportSameSpec)

/-- ITS FALSE NEIGHBOUR: 'it returns false'. Refute it at one input. -/
def reportSameWrong : ChangeSpec := { name := "reportSame", fn := fun _ => fun
  | [d1, d2] => { results := [.lit (.bool false)], args := [d1, d2] }
  | _ => none }
def ReportSameWrongFalsely : Prop := reportSameRow.holds Try.pinned (OpenSpec.ofChange reportSameWrong)

/- THE SECOND FORM. 'bulk': how many values and letters a reading holds, each counted each time it is reached (what is shared counts as often as it is met; a slice's spare places count too). A statement '..UptoSaid' is the law's where the arguments, and the package variables that the reading takes, are together of bulk at most 1048576: NARROWER than '..Said'. Prove '..Said' where nothing that the law and all that it calls make is longer than what came in: it says more and counts as full. Else prove '..UptoSaid'. A law counts once. -/
mutual
def uptoBulk {H : Type} : DataW H → Nat
  | .lit (.string bytes) => bytes.length + 1
  | .lit _ => 1
  | .nil => 1
  | .ptr d => uptoBulk d + 1
  | .slice elems spare => uptoBulkAll elems + uptoBulkAll spare + 1
  | .agg parts => uptoBulkAll parts + 1
  | .iface _ d => uptoBulk d + 1
  | .map entries => uptoBulkEntries entries + 1
  | .held _ => 1
def uptoBulkAll {H : Type} : List (DataW H) → Nat
  | [] => 0
  | d :: r => uptoBulk d + uptoBulkAll r
def uptoBulkEntries {H : Type} : List (Lit × DataW H) → Nat
  | [] => 0
  | x :: r => uptoBulkEntry x + uptoBulkEntries r
def uptoBulkEntry {H : Type} : Lit × DataW H → Nat
  | (.string bytes, d) => bytes.length + uptoBulk d + 1
  | (_, d) => uptoBulk d + 1
 end
def uptoSmall : (H : Type) → List (DataW H) → Bool := fun _ ds => decide (uptoBulkAll ds ≤ 1048576)
def OpenSpec.upto (s : _root_.Go.ChangeSpec) : _root_.Go.OpenSpec := { _root_.Go.OpenSpec.ofChange s with cond := some uptoSmall }

/-- 'backreachlaw25.ReportEncodes', WHERE WHAT IT READS IS OF BULK AT MOST 1048576: true; the input reads as it did. -/
def reportEncodesUptoRow : OpenClaim := { program := "ytcffgbmgjdhkjaa", sum := "b1c084f8557e2c9963c12a4ef1a5694fcdfdaaa6072c1983880812f021057801", func := "backreach/backreachlaw25.ReportEncodes", spec := "reportEncodes", unfollowed := true, recurses := true, apart := false, narrowed := true }
def ReportEncodesUptoSaid : Prop := reportEncodesUptoRow.holds Try.pinned (OpenSpec.upto reportEncodesSpec)

/-- 'backreachlaw25.ReportDecodes', WHERE WHAT IT READS IS OF BULK AT MOST 1048576: true; the input reads as it did. -/
def reportDecodesUptoRow : OpenClaim := { program := "ytcffgbmgjdhkjaa", sum := "b1c084f8557e2c9963c12a4ef1a5694fcdfdaaa6072c1983880812f021057801", func := "backreach/backreachlaw25.ReportDecodes", spec := "reportDecodes", unfollowed := true, recurses := true, apart := false, narrowed := true }
def ReportDecodesUptoSaid : Prop := reportDecodesUptoRow.holds Try.pinned (OpenSpec.upto reportDecodesSpec)

/-- 'backreachlaw25.ReportCuts', WHERE WHAT IT READS IS OF BULK AT MOST 1048576: true; the input reads as it did. -/
def reportCutsUptoRow : OpenClaim := { program := "ytcffgbmgjdhkjaa", sum := "b1c084f8557e2c9963c12a4ef1a5694fcdfdaaa6072c1983880812f021057801", func := "backreach/backreachlaw25.ReportCuts", spec := "reportCuts", unfollowed := true, recurses := true, apart := false, narrowed := true }
def ReportCutsUptoSaid : Prop := reportCutsUptoRow.holds Try.pinned (OpenSpec.upto reportCutsSpec)

/-- 'backreachlaw25.ReportSame', WHERE WHAT IT READS IS OF BULK AT MOST 1048576: true; the input reads as it did. -/
def reportSameUptoRow : OpenClaim := { program := "ytcffgbmgjdhkjaa", sum := "b1c084f8557e2c9963c12a4ef1a5694fcdfdaaa6072c1983880812f021057801", func := "backreach/backreachlaw25.ReportSame", spec := "reportSame", unfollowed := true, recurses := true, apart := false, narrowed := true }
def ReportSameUptoSaid : Prop := reportSameUptoRow.holds Try.pinned (OpenSpec.upto reportSameSpec)

end Rows
end Go.Proofs.Ytcffgbmgjdhkjaa
