/-
  No cell of these rows narrows 'for every input' (looked for: loops, veiled, ifaces, maps, wideKeys, modest, calm, conditions, laid).
  DERIVED. THE GIVEN ROWS OF THIS SEAT. 3 by the template 'for every input the law returns true; each argument reads behind the call as it read before'; 0 by the template 'total and deterministic' (their statements: YtmaogkgjiplckaaGreatTotals.lean).
  GIVEN WITH THE SEED: the statements are not yours to turn. If you find one false, say at which input.
  Laid BY PROGRAM, IN A SANDBOX (cutbox-rows.mjs): the forced cells as the released guide's own fill.sh prints them over the translation 4792f002e69797da… (all of the seat's roots in one cut). By AI agents, Wed Nov 11 2026. No macro, syntax, notation, axiom, sorry.
-/
import Derived.Test.YtmaogkgjiplckaaGreatChecked
import GoSem.Claim
import GoSem.ClaimJoined
import GoSem.ClaimMapViews
import Derived.JoinedTies
import Derived.KernelRfl
namespace Go.Proofs.YtmaogkgjiplckaaGreat
/- THE CELL 'sum', in the pinned program and in every row, IS THE sha256 OF THE DUMP (.gsa) THAT YtmaogkgjiplckaaGreatProg.lean LOADS. Nothing in Lean hashes anything: it is a label: what it is worth is what the hold of that sum in a sandbox is worth. -/
noncomputable def Tryz.pinned : Pinned := { name := "ytmaogkgjiplckaagreat", sum := "4792f002e69797da97f0bc683c897db5fbdaddc5f33054ba28996649ba7dc853", checked := Tryz.checked }
namespace Rows
def none {H : Type} : Left H := { results := [], args := [] }

/-- 'backreachlaw16.BlastValues': WHATEVER THE INPUT: true; the input reads as it did. -/
def blastValuesSpec : ChangeSpec := { name := "blastValues", fn := fun _ => fun
  | [d1, d2] => { results := [.lit (.bool true)], args := [d1, d2] }
  | _ => none }
def blastValuesRow : OpenClaim := { program := "ytmaogkgjiplckaagreat", sum := "4792f002e69797da97f0bc683c897db5fbdaddc5f33054ba28996649ba7dc853", func := "backreach/backreachlaw16.BlastValues", spec := "blastValues", unfollowed := true, recurses := true, plainKeys := false, apart := false }
def BlastValuesSaid : Prop := blastValuesRow.holds Tryz.pinned (OpenSpec.ofChange blastValuesSpec)

/-- ITS FALSE NEIGHBOUR: 'it returns false'. Refute it at one input. -/
def blastValuesWrong : ChangeSpec := { name := "blastValues", fn := fun _ => fun
  | [d1, d2] => { results := [.lit (.bool false)], args := [d1, d2] }
  | _ => none }
def BlastValuesWrongFalsely : Prop := blastValuesRow.holds Tryz.pinned (OpenSpec.ofChange blastValuesWrong)

/-- 'backreachlaw16.BlastFails': WHATEVER THE INPUT: true; the input reads as it did. -/
def blastFailsSpec : ChangeSpec := { name := "blastFails", fn := fun _ => fun
  | [d1, d2, d3] => { results := [.lit (.bool true)], args := [d1, d2, d3] }
  | _ => none }
def blastFailsRow : OpenClaim := { program := "ytmaogkgjiplckaagreat", sum := "4792f002e69797da97f0bc683c897db5fbdaddc5f33054ba28996649ba7dc853", func := "backreach/backreachlaw16.BlastFails", spec := "blastFails", unfollowed := true, recurses := true, plainKeys := false, apart := false }
def BlastFailsSaid : Prop := blastFailsRow.holds Tryz.pinned (OpenSpec.ofChange blastFailsSpec)

/-- ITS FALSE NEIGHBOUR: 'it returns false'. Refute it at one input. -/
def blastFailsWrong : ChangeSpec := { name := "blastFails", fn := fun _ => fun
  | [d1, d2, d3] => { results := [.lit (.bool false)], args := [d1, d2, d3] }
  | _ => none }
def BlastFailsWrongFalsely : Prop := blastFailsRow.holds Tryz.pinned (OpenSpec.ofChange blastFailsWrong)

/-- 'backreachlaw16.BlastRight': WHATEVER THE INPUT: true; the input reads as it did. -/
def blastRightSpec : ChangeSpec := { name := "blastRight", fn := fun _ => fun
  | [d1, d2] => { results := [.lit (.bool true)], args := [d1, d2] }
  | _ => none }
def blastRightRow : OpenClaim := { program := "ytmaogkgjiplckaagreat", sum := "4792f002e69797da97f0bc683c897db5fbdaddc5f33054ba28996649ba7dc853", func := "backreach/backreachlaw16.BlastRight", spec := "blastRight", unfollowed := true, recurses := true, plainKeys := false, apart := false }
def BlastRightSaid : Prop := blastRightRow.holds Tryz.pinned (OpenSpec.ofChange blastRightSpec)

/-- ITS FALSE NEIGHBOUR: 'it returns false'. Refute it at one input. -/
def blastRightWrong : ChangeSpec := { name := "blastRight", fn := fun _ => fun
  | [d1, d2] => { results := [.lit (.bool false)], args := [d1, d2] }
  | _ => none }
def BlastRightWrongFalsely : Prop := blastRightRow.holds Tryz.pinned (OpenSpec.ofChange blastRightWrong)

/- THE SECOND FORM. 'bulk': how many values and letters a reading holds, each counted each time it is reached (what is shared counts as often as it is met; a slice's spare places count too). A statement '..UptoSaid' is the law's where the arguments, and the package variables that the reading takes, are together of bulk at most 1048576: NARROWER than '..Said'. Prove '..Said' where nothing that the law and all that it calls make is longer than what came in: it says more and counts as full. Else prove '..UptoSaid'. A law counts once. -/
mutual
def uptoBulk {H : Type} : DataW H → Nat
  | .lit (.string bytes) => bytes.length + 1
  | .lit _ => 1
  | .nil => 1
  | .ptr d => uptoBulk d + 1
  | .slice elems spare => uptoBulkAll elems + uptoBulkAll spare + 1
  | .agg parts => uptoBulkAll parts + 1
  | .iface _ d => uptoBulk d + 1
  | .map entries => uptoBulkEntries entries + 1
  | .held _ => 1
def uptoBulkAll {H : Type} : List (DataW H) → Nat
  | [] => 0
  | d :: r => uptoBulk d + uptoBulkAll r
def uptoBulkEntries {H : Type} : List (Lit × DataW H) → Nat
  | [] => 0
  | x :: r => uptoBulkEntry x + uptoBulkEntries r
def uptoBulkEntry {H : Type} : Lit × DataW H → Nat
  | (.string bytes, d) => bytes.length + uptoBulk d + 1
  | (_, d) => uptoBulk d + 1
 end
def uptoSmall : (H : Type) → List (DataW H) → Bool := fun _ ds => decide (uptoBulkAll ds ≤ 1048576)
def OpenSpec.upto (s : _root_.Go.ChangeSpec) : _root_.Go.OpenSpec := { _root_.Go.OpenSpec.ofChange s with cond := some uptoSmall }

/-- 'backreachlaw16.BlastValues', WHERE WHAT IT READS IS OF BULK AT MOST 1048576: true; the input reads as it did. -/
def blastValuesUptoRow : OpenClaim := { program := "ytmaogkgjiplckaagreat", sum := "4792f002e69797da97f0bc683c897db5fbdaddc5f33054ba28996649ba7dc853", func := "backreach/backreachlaw16.BlastValues", spec := "blastValues", unfollowed := true, recurses := true, plainKeys := false, apart := false, narrowed := true }
def BlastValuesUptoSaid : Prop := blastValuesUptoRow.holds Tryz.pinned (OpenSpec.upto blastValuesSpec)

/-- 'backreachlaw16.BlastFails', WHERE WHAT IT READS IS OF BULK AT MOST 1048576: true; the input reads as it did. -/
def blastFailsUptoRow : OpenClaim := { program := "ytmaogkgjiplckaagreat", sum := "4792f002e69797da97f0bc683c897db5fbdaddc5f33054ba28996649ba7dc853", func := "backreach/backreachlaw16.BlastFails", spec := "blastFails", unfollowed := true, recurses := true, plainKeys := false, apart := false, narrowed := true }
def BlastFailsUptoSaid : Prop := blastFailsUptoRow.holds Tryz.pinned (OpenSpec.upto blastFailsSpec)

/-- 'backreachlaw16.BlastRight', WHERE WHAT IT READS IS OF BULK AT MOST 1048576: true; the input reads as it did. -/
def blastRightUptoRow : OpenClaim := { program := "ytmaogkgjiplckaagreat", sum := "4792f002e69797da97f0bc683c897db5fbdaddc5f33054ba28996649ba7dc853", func := "backreach/backreachlaw16.BlastRight", spec := "blastRight", unfollowed := true, recurses := true, plainKeys := false, apart := false, narrowed := true }
def BlastRightUptoSaid : Prop := blastRightUptoRow.holds Tryz.pinned (OpenSpec.upto blastRightSpec)

end Rows
end Go.Proofs.YtmaogkgjiplckaaGreat
