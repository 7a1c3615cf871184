/-
  No cell of these rows narrows 'for every input' (looked for: loops, veiled, ifaces, maps, wideKeys, modest, calm, conditions, laid).
  DERIVED. THE GIVEN ROWS OF THIS SEAT. 6 by the template 'for every input the law returns true; each argument reads behind the call as it read before'; 0 by the template 'total and deterministic' (their statements: YtmaogkgjiplckaaTotals.lean).
  GIVEN WITH THE SEED: the statements are not yours to turn. If you find one false, say at which input.
  Laid BY PROGRAM, IN A SANDBOX (cutbox-rows.mjs): the forced cells as the released guide's own fill.sh prints them over the translation beabc5b3a48454b1… (all of the seat's roots in one cut). By AI agents, Wed Nov 11 2026. No macro, syntax, notation, axiom, sorry.
-/
import Derived.Test.YtmaogkgjiplckaaChecked
import GoSem.Claim
import GoSem.ClaimJoined
import GoSem.ClaimMapViews
import Derived.JoinedTies
import Derived.KernelRfl
namespace Go.Proofs.Ytmaogkgjiplckaa
/- THE CELL 'sum', in the pinned program and in every row, IS THE sha256 OF THE DUMP (.gsa) THAT YtmaogkgjiplckaaProg.lean LOADS. Nothing in Lean hashes anything: it is a label: what it is worth is what the hold of that sum in a sandbox is worth. -/
noncomputable def Try.pinned : Pinned := { name := "ytmaogkgjiplckaa", sum := "beabc5b3a48454b146ea10f32ee3ee81747b5b6ee9a36689057cdc42f6bb24cb", checked := Try.checked }
namespace Rows
def none {H : Type} : Left H := { results := [], args := [] }

/-- 'backreachlaw15.GateChooses': WHATEVER THE INPUT: true; the input reads as it did. -/
def gateChoosesSpec : ChangeSpec := { name := "gateChooses", fn := fun _ => fun
  | [d1, d2, d3, d4] => { results := [.lit (.bool true)], args := [d1, d2, d3, d4] }
  | _ => none }
def gateChoosesRow : OpenClaim := { program := "ytmaogkgjiplckaa", sum := "beabc5b3a48454b146ea10f32ee3ee81747b5b6ee9a36689057cdc42f6bb24cb", func := "backreach/backreachlaw15.GateChooses", spec := "gateChooses", unfollowed := true, recurses := true, plainKeys := false, apart := false }
def GateChoosesSaid : Prop := gateChoosesRow.holds Try.pinned (OpenSpec.ofChange gateChoosesSpec)

/-- ITS FALSE NEIGHBOUR: 'it returns false'. Refute it at one input. -/
def gateChoosesWrong : ChangeSpec := { name := "gateChooses", fn := fun _ => fun
  | [d1, d2, d3, d4] => { results := [.lit (.bool false)], args := [d1, d2, d3, d4] }
  | _ => none }
def GateChoosesWrongFalsely : Prop := gateChoosesRow.holds Try.pinned (OpenSpec.ofChange gateChoosesWrong)

/-- 'backreachlaw15.GatePlays': WHATEVER THE INPUT: true; the input reads as it did. -/
def gatePlaysSpec : ChangeSpec := { name := "gatePlays", fn := fun _ => fun
  | [d1, d2] => { results := [.lit (.bool true)], args := [d1, d2] }
  | _ => none }
def gatePlaysRow : OpenClaim := { program := "ytmaogkgjiplckaa", sum := "beabc5b3a48454b146ea10f32ee3ee81747b5b6ee9a36689057cdc42f6bb24cb", func := "backreach/backreachlaw15.GatePlays", spec := "gatePlays", unfollowed := true, recurses := true, plainKeys := false, apart := false }
def GatePlaysSaid : Prop := gatePlaysRow.holds Try.pinned (OpenSpec.ofChange gatePlaysSpec)

/-- ITS FALSE NEIGHBOUR: 'it returns false'. Refute it at one input. -/
def gatePlaysWrong : ChangeSpec := { name := "gatePlays", fn := fun _ => fun
  | [d1, d2] => { results := [.lit (.bool false)], args := [d1, d2] }
  | _ => none }
def GatePlaysWrongFalsely : Prop := gatePlaysRow.holds Try.pinned (OpenSpec.ofChange gatePlaysWrong)

/-- 'backreachlaw15.GateApplies': WHATEVER THE INPUT: true; the input reads as it did. -/
def gateAppliesSpec : ChangeSpec := { name := "gateApplies", fn := fun _ => fun
  | [d1, d2, d3, d4] => { results := [.lit (.bool true)], args := [d1, d2, d3, d4] }
  | _ => none }
def gateAppliesRow : OpenClaim := { program := "ytmaogkgjiplckaa", sum := "beabc5b3a48454b146ea10f32ee3ee81747b5b6ee9a36689057cdc42f6bb24cb", func := "backreach/backreachlaw15.GateApplies", spec := "gateApplies", unfollowed := true, recurses := true, plainKeys := false, apart := false }
def GateAppliesSaid : Prop := gateAppliesRow.holds Try.pinned (OpenSpec.ofChange gateAppliesSpec)

/-- ITS FALSE NEIGHBOUR: 'it returns false'. Refute it at one input. -/
def gateAppliesWrong : ChangeSpec := { name := "gateApplies", fn := fun _ => fun
  | [d1, d2, d3, d4] => { results := [.lit (.bool false)], args := [d1, d2, d3, d4] }
  | _ => none }
def GateAppliesWrongFalsely : Prop := gateAppliesRow.holds Try.pinned (OpenSpec.ofChange gateAppliesWrong)

/-- 'backreachlaw15.GateKnown': WHATEVER THE INPUT: true; the input reads as it did. -/
def gateKnownSpec : ChangeSpec := { name := "gateKnown", fn := fun _ => fun
  | [d1, d2, d3, d4, d5] => { results := [.lit (.bool true)], args := [d1, d2, d3, d4, d5] }
  | _ => none }
def gateKnownRow : OpenClaim := { program := "ytmaogkgjiplckaa", sum := "beabc5b3a48454b146ea10f32ee3ee81747b5b6ee9a36689057cdc42f6bb24cb", func := "backreach/backreachlaw15.GateKnown", spec := "gateKnown", unfollowed := true, recurses := true, plainKeys := false, apart := false }
def GateKnownSaid : Prop := gateKnownRow.holds Try.pinned (OpenSpec.ofChange gateKnownSpec)

/-- ITS FALSE NEIGHBOUR: 'it returns false'. Refute it at one input. -/
def gateKnownWrong : ChangeSpec := { name := "gateKnown", fn := fun _ => fun
  | [d1, d2, d3, d4, d5] => { results := [.lit (.bool false)], args := [d1, d2, d3, d4, d5] }
  | _ => none }
def GateKnownWrongFalsely : Prop := gateKnownRow.holds Try.pinned (OpenSpec.ofChange gateKnownWrong)

/-- 'backreachlaw15.GateRefuses': WHATEVER THE INPUT: true; the input reads as it did. -/
def gateRefusesSpec : ChangeSpec := { name := "gateRefuses", fn := fun _ => fun
  | [d1, d2, d3, d4, d5] => { results := [.lit (.bool true)], args := [d1, d2, d3, d4, d5] }
  | _ => none }
def gateRefusesRow : OpenClaim := { program := "ytmaogkgjiplckaa", sum := "beabc5b3a48454b146ea10f32ee3ee81747b5b6ee9a36689057cdc42f6bb24cb", func := "backreach/backreachlaw15.GateRefuses", spec := "gateRefuses", unfollowed := true, recurses := true, plainKeys := false, apart := false }
def GateRefusesSaid : Prop := gateRefusesRow.holds Try.pinned (OpenSpec.ofChange gateRefusesSpec)

/-- ITS FALSE NEIGHBOUR: 'it returns false'. Refute it at one input. -/
def gateRefusesWrong : ChangeSpec := { name := "gateRefuses", fn := fun _ => fun
  | [d1, d2, d3, d4, d5] => { results := [.lit (.bool false)], args := [d1, d2, d3, d4, d5] }
  | _ => none }
def GateRefusesWrongFalsely : Prop := gateRefusesRow.holds Try.pinned (OpenSpec.ofChange gateRefusesWrong)

/-- 'backreachlaw16.BlastLeaves': WHATEVER THE INPUT: true; the input reads as it did. -/
def blastLeavesSpec : ChangeSpec := { name := "blastLeaves", fn := fun _ => fun
  | [d] => { results := [.lit (.bool true)], args := [d] }
  | _ => none }
def blastLeavesRow : OpenClaim := { program := "ytmaogkgjiplckaa", sum := "beabc5b3a48454b146ea10f32ee3ee81747b5b6ee9a36689057cdc42f6bb24cb", func := "backreach/backreachlaw16.BlastLeaves", spec := "blastLeaves", unfollowed := true, recurses := true, plainKeys := false, apart := false }
def BlastLeavesSaid : Prop := blastLeavesRow.holds Try.pinned (OpenSpec.ofChange blastLeavesSpec)

/-- ITS FALSE NEIGHBOUR: 'it returns false'. Refute it at one input. -/
def blastLeavesWrong : ChangeSpec := { name := "blastLeaves", fn := fun _ => fun
  | [d] => { results := [.lit (.bool false)], args := [d] }
  | _ => none }
def BlastLeavesWrongFalsely : Prop := blastLeavesRow.holds Try.pinned (OpenSpec.ofChange blastLeavesWrong)

/- THE SECOND FORM. 'bulk': how many values and letters a reading holds, each counted each time it is reached (what is shared counts as often as it is met; a slice's spare places count too). A statement '..UptoSaid' is the law's where the arguments, and the package variables that the reading takes, are together of bulk at most 1048576: NARROWER than '..Said'. Prove '..Said' where nothing that the law and all that it calls make is longer than what came in: it says more and counts as full. Else prove '..UptoSaid'. A law counts once. -/
mutual
def uptoBulk {H : Type} : DataW H → Nat
  | .lit (.string bytes) => bytes.length + 1
  | .lit _ => 1
  | .nil => 1
  | .ptr d => uptoBulk d + 1
  | .slice elems spare => uptoBulkAll elems + uptoBulkAll spare + 1
  | .agg parts => uptoBulkAll parts + 1
  | .iface _ d => uptoBulk d + 1
  | .map entries => uptoBulkEntries entries + 1
  | .held _ => 1
def uptoBulkAll {H : Type} : List (DataW H) → Nat
  | [] => 0
  | d :: r => uptoBulk d + uptoBulkAll r
def uptoBulkEntries {H : Type} : List (Lit × DataW H) → Nat
  | [] => 0
  | x :: r => uptoBulkEntry x + uptoBulkEntries r
def uptoBulkEntry {H : Type} : Lit × DataW H → Nat
  | (.string bytes, d) => bytes.length + uptoBulk d + 1
  | (_, d) => uptoBulk d + 1
 end
def uptoSmall : (H : Type) → List (DataW H) → Bool := fun _ ds => decide (uptoBulkAll ds ≤ 1048576)
def OpenSpec.upto (s : _root_.Go.ChangeSpec) : _root_.Go.OpenSpec := { _root_.Go.OpenSpec.ofChange s with cond := some uptoSmall }

/-- 'backreachlaw15.GateChooses', WHERE WHAT IT READS IS OF BULK AT MOST 1048576: true; the input reads as it did. -/
def gateChoosesUptoRow : OpenClaim := { program := "ytmaogkgjiplckaa", sum := "beabc5b3a48454b146ea10f32ee3ee81747b5b6ee9a36689057cdc42f6bb24cb", func := "backreach/backreachlaw15.GateChooses", spec := "gateChooses", unfollowed := true, recurses := true, plainKeys := false, apart := false, narrowed := true }
def GateChoosesUptoSaid : Prop := gateChoosesUptoRow.holds Try.pinned (OpenSpec.upto gateChoosesSpec)

/-- 'backreachlaw15.GatePlays', WHERE WHAT IT READS IS OF BULK AT MOST 1048576: true; the input reads as it did. -/
def gatePlaysUptoRow : OpenClaim := { program := "ytmaogkgjiplckaa", sum := "beabc5b3a48454b146ea10f32ee3ee81747b5b6ee9a36689057cdc42f6bb24cb", func := "backreach/backreachlaw15.GatePlays", spec := "gatePlays", unfollowed := true, recurses := true, plainKeys := false, apart := false, narrowed := true }
def GatePlaysUptoSaid : Prop := gatePlaysUptoRow.holds Try.pinned (OpenSpec.upto gatePlaysSpec)

/-- 'backreachlaw15.GateApplies', WHERE WHAT IT READS IS OF BULK AT MOST 1048576: true; the input reads as it did. -/
def gateAppliesUptoRow : OpenClaim := { program := "ytmaogkgjiplckaa", sum := "beabc5b3a48454b146ea10f32ee3ee81747b5b6ee9a36689057cdc42f6bb24cb", func := "backreach/backreachlaw15.GateApplies", spec := "gateApplies", unfollowed := true, recurses := true, plainKeys := false, apart := false, narrowed := true }
def GateAppliesUptoSaid : Prop := gateAppliesUptoRow.holds Try.pinned (OpenSpec.upto gateAppliesSpec)

/-- 'backreachlaw15.GateKnown', WHERE WHAT IT READS IS OF BULK AT MOST 1048576: true; the input reads as it did. -/
def gateKnownUptoRow : OpenClaim := { program := "ytmaogkgjiplckaa", sum := "beabc5b3a48454b146ea10f32ee3ee81747b5b6ee9a36689057cdc42f6bb24cb", func := "backreach/backreachlaw15.GateKnown", spec := "gateKnown", unfollowed := true, recurses := true, plainKeys := false, apart := false, narrowed := true }
def GateKnownUptoSaid : Prop := gateKnownUptoRow.holds Try.pinned (OpenSpec.upto gateKnownSpec)

/-- 'backreachlaw15.GateRefuses', WHERE WHAT IT READS IS OF BULK AT MOST 1048576: true; the input reads as it did. -/
def gateRefusesUptoRow : OpenClaim := { program := "ytmaogkgjiplckaa", sum := "beabc5b3a48454b146ea10f32ee3ee81747b5b6ee9a36689057cdc42f6bb24cb", func := "backreach/backreachlaw15.GateRefuses", spec := "gateRefuses", unfollowed := true, recurses := true, plainKeys := false, apart := false, narrowed := true }
def GateRefusesUptoSaid : Prop := gateRefusesUptoRow.holds Try.pinned (OpenSpec.upto gateRefusesSpec)

/-- 'backreachlaw16.BlastLeaves', WHERE WHAT IT READS IS OF BULK AT MOST 1048576: true; the input reads as it did. -/
def blastLeavesUptoRow : OpenClaim := { program := "ytmaogkgjiplckaa", sum := "beabc5b3a48454b146ea10f32ee3ee81747b5b6ee9a36689057cdc42f6bb24cb", func := "backreach/backreachlaw16.BlastLeaves", spec := "blastLeaves", unfollowed := true, recurses := true, plainKeys := false, apart := false, narrowed := true }
def BlastLeavesUptoSaid : Prop := blastLeavesUptoRow.holds Try.pinned (OpenSpec.upto blastLeavesSpec)

end Rows
end Go.Proofs.Ytmaogkgjiplckaa
