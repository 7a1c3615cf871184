import Derived.Test.YtcffgbmgjdhkjaaA
set_option linter.unusedSimpArgs false
set_option linter.unusedVariables false
namespace Go.Proofs.Ytcffgbmgjdhkjaa
open Go.RowKit

def numB (op wd n : Int) : Bool := if op = 0 then (if wd = 1 then n / 2 == 0 else if wd = 8 then n / 256 == 0 else true) else if op = 1 then decide (n < 16) else if op = 2 then decide (n < 8) else n == 0
def mostI (op wd : Int) : Int := if op = 0 then (if wd = 1 then 1 else if wd = 8 then 255 else 18446744073709551615) else if op = 1 then 15 else if op = 2 then 7 else 0

set_option maxHeartbeats 400000 in
theorem number_any (op wd n k0 k1 k2 : Int) (w : World) (hn : 0 ≤ n) (h : op = 0 → wd = 1 ∨ wd = 8 ∨ wd = 64) :
    Calls Try.prog 57 #[.agg #[.int .i64 op, .int .i64 wd, .int .u64 n, .int .i64 k0, .int .i64 k1, .int .i64 k2]] w fun e w' => e = .returned (.bool (numB op wd n)) ∧ Below w.heap.size w w' := by
  by_cases h0 : op = 0
  · subst h0
    rcases h rfl with rfl | rfl | rfl
    all_goals
      clear h
      go_enter Try.func57, Try.ntmps57
      (repeat' (first | with_reducible refine xThenN ?_ | with_reducible refine xThenE ?_ | with_reducible refine xThenR ?_ | with_reducible refine xThenP ?_ | with_reducible refine xBlockEq ?_ | with_reducible refine xBlockNe rfl ?_ | with_reducible refine xBlockN ?_ | with_reducible refine xBlockR ?_ | with_reducible refine xBlockP ?_ | go_values | go_skip | go_guarded | go_step | go_upon | go_back | (dsimp only)))
      all_goals
        go_ret
        exact ⟨ret_bool (by unfold numB; first | rfl | simp_all), by (repeat (first | with_reducible exact Below.refl _ _ | assumption | with_reducible refine below_drewN ?_ _ | with_reducible refine Below.drew ?_ | with_reducible refine Below.setRow ?_ ?_ _ | with_reducible refine Below.alloc ?_ ?_ _ | with_reducible refine Below.setCell ?_ ?_ _ | with_reducible exact Nat.le_refl _ | (focus (simp; done)) | (focus (simp; omega)) | omega))⟩
  have f0 : (op == 0) = false := by simpa using h0
  clear h
  go_enter Try.func57, Try.ntmps57
  (repeat' (first | with_reducible refine xThenN ?_ | with_reducible refine xThenE ?_ | with_reducible refine xThenR ?_ | with_reducible refine xThenP ?_ | with_reducible refine xBlockEq ?_ | with_reducible refine xBlockNe rfl ?_ | with_reducible refine xBlockN ?_ | with_reducible refine xBlockR ?_ | with_reducible refine xBlockP ?_ | go_values | go_skip | go_guarded | go_step | go_upon | go_back | (dsimp only)))
  all_goals
    go_ret
    exact ⟨ret_bool (by unfold numB; simp_all), by (repeat (first | with_reducible exact Below.refl _ _ | assumption | with_reducible refine below_drewN ?_ _ | with_reducible refine Below.drew ?_ | with_reducible refine Below.setRow ?_ ?_ _ | with_reducible refine Below.alloc ?_ ?_ _ | with_reducible refine Below.setCell ?_ ?_ _ | with_reducible exact Nat.le_refl _ | (focus (simp; done)) | (focus (simp; omega)) | omega))⟩

set_option maxHeartbeats 400000 in
theorem most_any (op wd n k0 k1 k2 : Int) (w : World) :
    Calls Try.prog 54 #[.agg #[.int .i64 op, .int .i64 wd, .int .u64 n, .int .i64 k0, .int .i64 k1, .int .i64 k2]] w fun e w' => e = .returned (.int .u64 (mostI op wd)) ∧ Below w.heap.size w w' := by
  go_enter Try.func54, Try.ntmps54
  (repeat' (first | with_reducible refine xThenN ?_ | with_reducible refine xThenE ?_ | with_reducible refine xThenR ?_ | with_reducible refine xThenP ?_ | with_reducible refine xBlockEq ?_ | with_reducible refine xBlockNe rfl ?_ | with_reducible refine xBlockN ?_ | with_reducible refine xBlockR ?_ | with_reducible refine xBlockP ?_ | go_values | go_skip | go_guarded | go_step | go_upon | go_back | (dsimp only)))
  all_goals
    go_ret
    exact ⟨ret_int (by unfold mostI; simp_all), by (repeat (first | with_reducible exact Below.refl _ _ | assumption | with_reducible refine below_drewN ?_ _ | with_reducible refine Below.drew ?_ | with_reducible refine Below.setRow ?_ ?_ _ | with_reducible refine Below.alloc ?_ ?_ _ | with_reducible refine Below.setCell ?_ ?_ _ | with_reducible exact Nat.le_refl _ | (focus (simp; done)) | (focus (simp; omega)) | omega))⟩

def widI (op wd a b c : Int) : Int :=
  if op = 0 then (if wd = 1 ∨ wd = 8 ∨ wd = 64 then wd else -1)
  else if op = 1 then 8
  else if op = 2 then 64
  else if op = 3 ∨ op = 4 then 0
  else if op = 5 then (if a = 0 then -1 else a)
  else if op = 6 then (if a = 1 ∨ a = 8 then 64 else -1)
  else if op = 7 then (if a = 64 then 8 else -1)
  else if op = 19 ∨ op = 20 ∨ op = 21 then (if a ≠ 0 ∧ a = b then 1 else -1)
  else if op = 22 then (if a = 1 ∧ b ≠ 0 ∧ b = c then b else -1)
  else if op = 23 then (if a = 0 ∧ b = 64 then 8 else -1)
  else if op = 24 then (if a = 0 ∧ b = 64 ∧ c = 8 then 0 else -1)
  else (if a ≠ 0 ∧ a = b then a else -1)

set_option maxHeartbeats 1000000 in
theorem width_any (op wd n k0 k1 k2 a b c : Int) (w : World) :
    Calls Try.prog 53 #[.agg #[.int .i64 op, .int .i64 wd, .int .u64 n, .int .i64 k0, .int .i64 k1, .int .i64 k2], .int .i64 a, .int .i64 b, .int .i64 c] w fun e w' => e = .returned (.int .i64 (widI op wd a b c)) ∧ Below w.heap.size w w' := by
  by_cases h3 : op = 3
  · subst h3
    go_enter Try.func53, Try.ntmps53
    (repeat' (first | with_reducible refine xThenN ?_ | with_reducible refine xThenE ?_ | with_reducible refine xThenR ?_ | with_reducible refine xThenP ?_ | with_reducible refine xBlockEq ?_ | with_reducible refine xBlockNe rfl ?_ | with_reducible refine xBlockN ?_ | with_reducible refine xBlockR ?_ | with_reducible refine xBlockP ?_ | go_values | go_skip | go_guarded | go_step | go_upon | go_back | (dsimp only)))
    all_goals
      go_ret
      exact ⟨ret_int (by unfold widI; simp_all), by (repeat (first | with_reducible exact Below.refl _ _ | assumption | with_reducible refine below_drewN ?_ _ | with_reducible refine Below.drew ?_ | with_reducible refine Below.setRow ?_ ?_ _ | with_reducible refine Below.alloc ?_ ?_ _ | with_reducible refine Below.setCell ?_ ?_ _ | with_reducible exact Nat.le_refl _ | (focus (simp; done)) | (focus (simp; omega)) | omega))⟩
  by_cases h4 : op = 4
  · subst h4
    go_enter Try.func53, Try.ntmps53
    (repeat' (first | with_reducible refine xThenN ?_ | with_reducible refine xThenE ?_ | with_reducible refine xThenR ?_ | with_reducible refine xThenP ?_ | with_reducible refine xBlockEq ?_ | with_reducible refine xBlockNe rfl ?_ | with_reducible refine xBlockN ?_ | with_reducible refine xBlockR ?_ | with_reducible refine xBlockP ?_ | go_values | go_skip | go_guarded | go_step | go_upon | go_back | (dsimp only)))
    all_goals
      go_ret
      exact ⟨ret_int (by unfold widI; simp_all), by (repeat (first | with_reducible exact Below.refl _ _ | assumption | with_reducible refine below_drewN ?_ _ | with_reducible refine Below.drew ?_ | with_reducible refine Below.setRow ?_ ?_ _ | with_reducible refine Below.alloc ?_ ?_ _ | with_reducible refine Below.setCell ?_ ?_ _ | with_reducible exact Nat.le_refl _ | (focus (simp; done)) | (focus (simp; omega)) | omega))⟩
  by_cases h19 : op = 19
  · subst h19
    go_enter Try.func53, Try.ntmps53
    (repeat' (first | with_reducible refine xThenN ?_ | with_reducible refine xThenE ?_ | with_reducible refine xThenR ?_ | with_reducible refine xThenP ?_ | with_reducible refine xBlockEq ?_ | with_reducible refine xBlockNe rfl ?_ | with_reducible refine xBlockN ?_ | with_reducible refine xBlockR ?_ | with_reducible refine xBlockP ?_ | go_values | go_skip | go_guarded | go_step | go_upon | go_back | (dsimp only)))
    all_goals
      go_ret
      exact ⟨ret_int (by unfold widI; simp_all), by (repeat (first | with_reducible exact Below.refl _ _ | assumption | with_reducible refine below_drewN ?_ _ | with_reducible refine Below.drew ?_ | with_reducible refine Below.setRow ?_ ?_ _ | with_reducible refine Below.alloc ?_ ?_ _ | with_reducible refine Below.setCell ?_ ?_ _ | with_reducible exact Nat.le_refl _ | (focus (simp; done)) | (focus (simp; omega)) | omega))⟩
  by_cases h20 : op = 20
  · subst h20
    go_enter Try.func53, Try.ntmps53
    (repeat' (first | with_reducible refine xThenN ?_ | with_reducible refine xThenE ?_ | with_reducible refine xThenR ?_ | with_reducible refine xThenP ?_ | with_reducible refine xBlockEq ?_ | with_reducible refine xBlockNe rfl ?_ | with_reducible refine xBlockN ?_ | with_reducible refine xBlockR ?_ | with_reducible refine xBlockP ?_ | go_values | go_skip | go_guarded | go_step | go_upon | go_back | (dsimp only)))
    all_goals
      go_ret
      exact ⟨ret_int (by unfold widI; simp_all), by (repeat (first | with_reducible exact Below.refl _ _ | assumption | with_reducible refine below_drewN ?_ _ | with_reducible refine Below.drew ?_ | with_reducible refine Below.setRow ?_ ?_ _ | with_reducible refine Below.alloc ?_ ?_ _ | with_reducible refine Below.setCell ?_ ?_ _ | with_reducible exact Nat.le_refl _ | (focus (simp; done)) | (focus (simp; omega)) | omega))⟩
  by_cases h21 : op = 21
  · subst h21
    go_enter Try.func53, Try.ntmps53
    (repeat' (first | with_reducible refine xThenN ?_ | with_reducible refine xThenE ?_ | with_reducible refine xThenR ?_ | with_reducible refine xThenP ?_ | with_reducible refine xBlockEq ?_ | with_reducible refine xBlockNe rfl ?_ | with_reducible refine xBlockN ?_ | with_reducible refine xBlockR ?_ | with_reducible refine xBlockP ?_ | go_values | go_skip | go_guarded | go_step | go_upon | go_back | (dsimp only)))
    all_goals
      go_ret
      exact ⟨ret_int (by unfold widI; simp_all), by (repeat (first | with_reducible exact Below.refl _ _ | assumption | with_reducible refine below_drewN ?_ _ | with_reducible refine Below.drew ?_ | with_reducible refine Below.setRow ?_ ?_ _ | with_reducible refine Below.alloc ?_ ?_ _ | with_reducible refine Below.setCell ?_ ?_ _ | with_reducible exact Nat.le_refl _ | (focus (simp; done)) | (focus (simp; omega)) | omega))⟩
  have f3 : (op == 3) = false := by simpa using h3
  have f4 : (op == 4) = false := by simpa using h4
  have f19 : (op == 19) = false := by simpa using h19
  have f20 : (op == 20) = false := by simpa using h20
  have f21 : (op == 21) = false := by simpa using h21
  go_enter Try.func53, Try.ntmps53
  (repeat' (first | with_reducible refine xThenN ?_ | with_reducible refine xThenE ?_ | with_reducible refine xThenR ?_ | with_reducible refine xThenP ?_ | with_reducible refine xBlockEq ?_ | with_reducible refine xBlockNe rfl ?_ | with_reducible refine xBlockN ?_ | with_reducible refine xBlockR ?_ | with_reducible refine xBlockP ?_ | go_values | go_skip | go_guarded | go_step | go_upon | go_back | (dsimp only)))
  all_goals
    go_ret
    exact ⟨ret_int (by unfold widI; simp_all), by (repeat (first | with_reducible exact Below.refl _ _ | assumption | with_reducible refine below_drewN ?_ _ | with_reducible refine Below.drew ?_ | with_reducible refine Below.setRow ?_ ?_ _ | with_reducible refine Below.alloc ?_ ?_ _ | with_reducible refine Below.setCell ?_ ?_ _ | with_reducible exact Nat.le_refl _ | (focus (simp; done)) | (focus (simp; omega)) | omega))⟩

end Go.Proofs.Ytcffgbmgjdhkjaa
