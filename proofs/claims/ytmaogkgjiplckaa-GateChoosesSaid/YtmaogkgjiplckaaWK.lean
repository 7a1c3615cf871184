import Derived.Test.YtmaogkgjiplckaaWM
import Derived.Deep.QuietTactic
import Derived.BigQuiet
set_option linter.unusedSimpArgs false
set_option linter.unusedVariables false
namespace Go.Proofs.Ytmaogkgjiplckaa
open Go.RowKit

/-! regions that draw their order: what was there stays -/
def Cls (W w' : World) : Prop := Below W.heap.size W w'

section
variable {P : Program} {ops : Array Oper} {C : World → Prop} {o : Oper} {a : Act} {K : Act → Prop} {W : World}

theorem wp_region_cls {id : Nat} {Q : Exit → Act → World → Prop} {l : List Oper} (hm : P.follows .mixedOrders = true) (hB : Region.lexB .any l.toArray = true)
    (h : wpQuiet P l.toArray (Cls W) (fun a' => ∀ w', Cls W w' → Q .normal a' w') l a) : (Code.region id l.toArray true).wp P Q a W :=
  wp_region_quiet (C := Cls W) hm hB ⟨rfl, rfl, rfl, Nat.le_refl _, fun _ _ => rfl⟩ (by simpa using h)

theorem quiet_at (v : Value) (h : ∀ w, C w → o.quietAt P a C w v) (hk : K (a.put o.dst v)) : o.quiet P a C K := ⟨v, h, hk⟩

/-- a load of one cell that stays -/
theorem quiet_load (ty : TypeId) (x : Operand) (ho : o.op = .load ty x) (p : Addr) (hx : a.eval x = .pointer (some p)) (v : Value)
    (hc : ∀ w, C w → w.cell? p = some v) (hl : ∀ w, w.cell? p = some v → (Instr.loadAt ty (.pointer (some p))).run P w = .ok v w) (hk : K (a.put o.dst v)) : o.quiet P a C K := by
  refine ⟨v, fun w hw => ?_, hk⟩
  unfold Oper.quietAt execOp
  simp only [ho, hx, Sem.run_bind, hl w (hc w hw), Result.andThen_ok]
  exact ⟨rfl, rfl⟩
end


theorem int_eq' {k : IntKind} {a b : Int} (h : a = b) : Value.int k a = .int k b := by rw [h]

end Go.Proofs.Ytmaogkgjiplckaa
