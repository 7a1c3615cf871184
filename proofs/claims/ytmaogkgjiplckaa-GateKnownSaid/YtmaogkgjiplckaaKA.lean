import Derived.Test.YtmaogkgjiplckaaLR
import Derived.DeepKeys4
set_option linter.unusedSimpArgs false
set_option linter.unusedVariables false
namespace Go.Proofs.Ytmaogkgjiplckaa
open Go.RowKit

theorem laidOut : laidOutB Try.prog = true := by kernel_rfl
def okI (x : Int) : Prop := -9223372036854775808 ≤ x ∧ x ≤ 9223372036854775807
def encI (x : Int) : Value := .int .i64 x
def encP (p : Int × Int) : Value := .agg #[.int .i64 p.1, .int .i64 p.2]
def okP (p : Int × Int) : Prop := okI p.1 ∧ okI p.2
theorem wf_i {x : Int} (h : okI x) : (Lit.int .i64 x).wf = true := by
  unfold okI at h
  exact WalkArith.wf_i64 (by omega)
theorem keyI : KeyE Try.prog 3 encI okI where
  law := Maps.int_keyed Try.underlying3
  key x h := ⟨_, Maps.keyOf_int_mk Try.underlying3 (wf_i h)⟩
  inj x y h := by injection h
theorem rowP : (130 : TypeId) < Try.prog.types.size := of_decide_eq_true (by kernel_rfl)
theorem wideP : (match Try.prog.underlying 130 with | some (.array _ _) | some (.struct _) => true | _ => false) = true := by kernel_rfl
theorem deepP : Try.prog.keyTypeAt (Try.prog.types.size + 1) 130 = true := by kernel_rfl
theorem cellsP : Try.prog.cellsOf 130 = 2 := by kernel_rfl
theorem cellsI : Try.prog.cellsOf 3 = 1 := by kernel_rfl
theorem formedP (a b : Value) : (Value.agg #[a, b]).formed Try.prog 130 = true := by
  simp [Value.formed, Try.underlying130, cellsP]
theorem litsI (d : Nat) (x : Int) (h : okI x) : Try.prog.keyLits (d + 1) 3 [.int .i64 x] = some [.int .i64 x] := by
  simp [Program.keyLits, Try.underlying3, wf_i h]
set_option maxRecDepth 100000 in
theorem keyP : KeyE Try.prog 130 encP okP where
  law := Maps.Keyed.of_law (deep_law_laid laidOut (m := 2) (by omega) rowP (by kernel_rfl) wideP)
  key x h := by
    obtain ⟨n, hn⟩ := Nat.exists_eq_succ_of_ne_zero (Nat.pos_iff_ne_zero.1 (Nat.lt_of_le_of_lt (Nat.zero_le _) rowP))
    have h1 : (Try.prog.keyLits (Try.prog.types.size + 1) 130 (encP x).cells.toList) = some [.int .i64 x.1, .int .i64 x.2] := by
      rw [hn]
      unfold Program.keyLits
      simp [encP, Value.cells, Try.underlying130, cellsP, cellsI, litsI _ _ h.1, litsI _ _ h.2, List.range, List.range.loop]
    refine ⟨.string (keyBytes [.int .i64 x.1, .int .i64 x.2]), ?_⟩
    unfold keyOf
    rw [Try.underlying130]
    dsimp only
    rw [h1, show Try.prog.keyType 130 = true from deepP, show (encP x).formed Try.prog 130 = true from formedP _ _]
    rfl
  inj x y h := by
    unfold encP at h
    simp only [Value.agg.injEq, Array.mk.injEq, List.cons.injEq, Value.int.injEq, true_and, and_true] at h
    exact Prod.ext h.1 h.2
theorem zero3 (w : World) : (zeroValue 3).run Try.prog w = .ok (.int .i64 0) w := by kernel_rfl

end Go.Proofs.Ytmaogkgjiplckaa
