import Derived.Test.YtcffgbmgjdhkjaaQ
import Derived.Recover
import Derived.Defers
set_option linter.unusedSimpArgs false
set_option linter.unusedVariables false
namespace Go.Proofs.Ytcffgbmgjdhkjaa
open Go.RowKit

set_option maxRecDepth 100000 in
set_option maxHeartbeats 400000 in
theorem told_any (E p : Int) (w : World) :
    Calls Try.prog 30 #[.iface 76 (.agg #[.int .i64 E, .int .i64 p])] w fun e w' => e = .returned (.tuple #[.int .i64 E, .int .i64 p]) ∧ Below w.heap.size w w' := by
  have ta : ∀ w, (Instr.typeAssert (.iface 76 (.agg #[.int .i64 E, .int .i64 p])) 20 76 true).run Try.prog w = .ok (.tuple #[.agg #[.int .i64 E, .int .i64 p], .bool true]) w := fun _ => by kernel_rfl
  go_enter Try.func30, Try.ntmps30
  (repeat (first | with_reducible refine xThenN ?_ | with_reducible refine xThenE ?_ | with_reducible refine xThenR ?_ | with_reducible refine xThenP ?_ | with_reducible refine xBlockEq ?_ | with_reducible refine xBlockNe rfl ?_ | with_reducible refine xBlockN ?_ | with_reducible refine xBlockR ?_ | with_reducible refine xBlockP ?_ | go_values | go_skip | go_guarded | go_step | go_upon | go_back | (dsimp only)))
  go_quiet (fail)
  go_wp2
  go_ret2
  exact ⟨rfl, by (repeat (first | with_reducible exact Below.refl _ _ | assumption | with_reducible refine below_drewN ?_ _ | with_reducible refine Below.drew ?_ | with_reducible refine Below.setRow ?_ ?_ _ | with_reducible refine Below.alloc ?_ ?_ _ | with_reducible refine Below.setCell ?_ ?_ _ | with_reducible exact Nat.le_refl _ | (focus (simp; done)) | (focus (simp; omega)) | omega))⟩

set_option maxRecDepth 100000 in
theorem catch_stop (pe : Addr) (x E p : Int) (older : List PanicEntry) (w : World) (hc : w.cell? pe = some (.int .i64 x)) (hz : w.frozen? pe = false) :
    CallsD Try.prog 29 #[.pointer (some pe)] (.panicking ({ v := .iface 76 (.agg #[.int .i64 E, .int .i64 p]), recovered := false } :: older)) w fun e u' w' =>
      e = .returned (.tuple #[]) ∧ u' = .panicking ({ v := .iface 76 (.agg #[.int .i64 E, .int .i64 p]), recovered := true } :: older) ∧ ∃ w1, Below w.heap.size w w1 ∧ w' = w1.setCell pe (.int .i64 E) := by
  refine callsD_of_wpS Try.func29 rfl fun c₀ cs hu => ?_
  have e : #[Value.pointer (some pe)] ++ Array.replicate (Try.f29.ntmps - #[Value.pointer (some pe)].size) undef = #[.pointer (some pe), undef, undef, undef, undef, undef, undef, undef, undef, undef] := by rw [Try.ntmps29]; rfl
  rw [e]
  apply wpS_seq
  apply wpS_region
  simp [wpOpsS, go_sem, recoverD, hu, Exit.thenS]
  refine wpS_of_wp ?_
  (repeat (first | with_reducible refine xThenN ?_ | with_reducible refine xThenE ?_ | with_reducible refine xThenR ?_ | with_reducible refine xThenP ?_ | with_reducible refine xBlockEq ?_ | with_reducible refine xBlockNe rfl ?_ | with_reducible refine xBlockN ?_ | with_reducible refine xBlockR ?_ | with_reducible refine xBlockP ?_ | (go_at_call 30; (with_reducible refine (told_any _ _ _).mono ?_); rintro e w1 ⟨rfl, hb⟩; have hc1 := cell_keep hb hc; have hz1 := (hb.frozen (World.block_lt_of_cell? w _ hc)).trans hz; clear hc hz) | go_values | go_skip | go_guarded | go_step | go_upon | go_back | (dsimp only)))
  exact ⟨rfl, _, rfl, _, results_none rfl _ _ _, rfl, rfl, w1, hb, rfl⟩

theorem catch_idle (pe : Addr) (w : World) :
    CallsD Try.prog 29 #[.pointer (some pe)] .returning w fun e u' w' => e = .returned (.tuple #[]) ∧ u' = .returning ∧ w' = w := by
  refine callsD_of_wpS Try.func29 rfl fun c₀ cs hu => ?_
  have e : #[Value.pointer (some pe)] ++ Array.replicate (Try.f29.ntmps - #[Value.pointer (some pe)].size) undef = #[.pointer (some pe), undef, undef, undef, undef, undef, undef, undef, undef, undef] := by rw [Try.ntmps29]; rfl
  rw [e]
  apply wpS_seq
  apply wpS_region
  simp [wpOpsS, go_sem, recoverD, hu, Exit.thenS]
  refine wpS_of_wp ?_
  (repeat (first | with_reducible refine xThenN ?_ | with_reducible refine xThenE ?_ | with_reducible refine xThenR ?_ | with_reducible refine xThenP ?_ | with_reducible refine xBlockEq ?_ | with_reducible refine xBlockNe rfl ?_ | with_reducible refine xBlockN ?_ | with_reducible refine xBlockR ?_ | with_reducible refine xBlockP ?_ | go_values | go_skip | go_guarded | go_step | go_upon | go_back | (dsimp only)))
  refine ⟨rfl, .returning, ?_, _, results_none rfl _ _ _, rfl, rfl, rfl⟩
  cases c₀; simp_all

end Go.Proofs.Ytcffgbmgjdhkjaa
