import Derived.Test.YtcffgbmgjdhkjaaProg
import Derived.WalkKit
import Derived.WalkSpells
import Derived.WalkLawsBesides
import Derived.Lib.Hide
import Derived.Deep.QuietTactic
import Derived.BigQuiet
import Derived.Deep.RegionHeld3
import Derived.StillTailTactics
import Derived.Deep.DeepCutAuto
import Derived.Deep.DeepFit
set_option linter.unusedSimpArgs false
set_option linter.unusedVariables false
namespace Go.Proofs.Ytcffgbmgjdhkjaa
open Go.RowKit

section
variable {K : Act → World → Prop} {Q : Exit → Act → World → Prop} {a : Act} {w : World} {id id' : Nat} {ch : List PanicEntry}
theorem xThenN (h : K a w) : Exit.then K Q .normal a w := h
theorem xThenE (h : Q (.exit id) a w) : Exit.then K Q (.exit id) a w := h
theorem xThenR (h : Q .ret a w) : Exit.then K Q .ret a w := h
theorem xThenP (h : Q (.panic ch) a w) : Exit.then K Q (.panic ch) a w := h
theorem xBlockN (h : Q .normal a w) : Exit.inBlock id Q .normal a w := h
theorem xBlockR (h : Q .ret a w) : Exit.inBlock id Q .ret a w := h
theorem xBlockP (h : Q (.panic ch) a w) : Exit.inBlock id Q (.panic ch) a w := h
theorem xBlockEq (h : Q .normal a w) : Exit.inBlock id Q (.exit id) a w := by simp only [Exit.inBlock, if_true]; exact h
theorem xBlockNe (e : (id' == id) = false) (h : Q (.exit id') a w) : Exit.inBlock id Q (.exit id') a w := by
  have : ¬ id' = id := by simpa using e
  simp only [Exit.inBlock, this, if_false]; exact h
end
theorem ret_int {k : IntKind} {a b : Int} (h : a = b) : Ending.returned (.int k a) = .returned (.int k b) := by rw [h]
theorem ret_bool {a b : Bool} (h : a = b) : Ending.returned (.bool a) = .returned (.bool b) := by rw [h]

theorem below_drewN {B : Nat} {w w' : World} (h : Below B w w') (n : Nat) : Below B w (w'.drewN n) :=
  h.trans ⟨rfl, rfl, rfl, Nat.le_refl _, fun _ _ => rfl⟩

/-- a node -/
structure Nd where
  op : Int
  w : Int
  n : Int
  k0 : Int
  k1 : Int
  k2 : Int
deriving DecidableEq
def Nd.cells (d : Nd) : List Value := [.int .i64 d.op, .int .i64 d.w, .int .u64 d.n, .int .i64 d.k0, .int .i64 d.k1, .int .i64 d.k2]

def kidsI (op : Int) : Int := if op < 5 ∨ 24 < op then 0 else if op ≤ 7 then 1 else if op ≤ 21 ∨ op = 23 then 2 else 3

set_option maxHeartbeats 400000 in
theorem kids_any (op : Int) (w : World) :
    Calls Try.prog 58 #[.int .i64 op] w fun e w' => e = .returned (.int .i64 (kidsI op)) ∧ w = w' := by
  go_enter Try.func58, Try.ntmps58
  (repeat' (first | with_reducible refine xThenN ?_ | with_reducible refine xThenE ?_ | with_reducible refine xThenR ?_ | with_reducible refine xThenP ?_ | with_reducible refine xBlockEq ?_ | with_reducible refine xBlockNe rfl ?_ | with_reducible refine xBlockN ?_ | with_reducible refine xBlockR ?_ | with_reducible refine xBlockP ?_ | go_values | go_skip | go_guarded | go_step | go_upon | go_back | (dsimp only)))
  all_goals
    go_ret
    exact ⟨ret_int (by unfold kidsI; first | (simp_all; done) | (simp_all; omega)), rfl⟩

set_option maxHeartbeats 400000 in
theorem rkids_any (op : Int) (w : World) (h0 : 0 ≤ op) (h1 : op ≤ 24) :
    Calls Try.prog 52 #[.int .i64 op] w fun e w' => e = .returned (.int .i64 (kidsI op)) ∧ w = w' := by
  go_enter Try.func52, Try.ntmps52
  (repeat' (first | with_reducible refine xThenN ?_ | with_reducible refine xThenE ?_ | with_reducible refine xThenR ?_ | with_reducible refine xThenP ?_ | with_reducible refine xBlockEq ?_ | with_reducible refine xBlockNe rfl ?_ | with_reducible refine xBlockN ?_ | with_reducible refine xBlockR ?_ | with_reducible refine xBlockP ?_ | go_values | go_skip | go_guarded | go_step | go_upon | go_back | (dsimp only)))
  all_goals
    go_ret
    exact ⟨ret_int (by unfold kidsI; first | (simp_all; done) | (simp_all; omega)), rfl⟩

def leafB (op wd : Int) : Bool := if op = 0 then wd == 1 || wd == 8 || wd == 64 else if op = 1 then wd == 8 else if op = 2 then wd == 64 else wd == 0
def wideB (op wd a b c : Int) : Bool :=
  if op = 5 then a != 0 && wd == a
  else if op = 6 then wd == 64 && (a == 1 || a == 8)
  else if op = 7 then wd == 8 && a == 64
  else if op = 19 ∨ op = 20 ∨ op = 21 then wd == 1 && a != 0 && a == b
  else if op = 22 then a == 1 && b != 0 && b == c && wd == b
  else if op = 23 then wd == 8 && a == 0 && b == 64
  else if op = 24 then wd == 0 && a == 0 && b == 64 && c == 8
  else if kidsI op = 0 then leafB op wd
  else a != 0 && a == b && wd == a

set_option maxHeartbeats 400000 in
theorem leaf_any (op wd n k0 k1 k2 : Int) (w : World) :
    Calls Try.prog 59 #[.agg #[.int .i64 op, .int .i64 wd, .int .u64 n, .int .i64 k0, .int .i64 k1, .int .i64 k2]] w fun e w' => e = .returned (.bool (leafB op wd)) ∧ Below w.heap.size w w' := by
  go_enter Try.func59, Try.ntmps59
  (repeat' (first | with_reducible refine xThenN ?_ | with_reducible refine xThenE ?_ | with_reducible refine xThenR ?_ | with_reducible refine xThenP ?_ | with_reducible refine xBlockEq ?_ | with_reducible refine xBlockNe rfl ?_ | with_reducible refine xBlockN ?_ | with_reducible refine xBlockR ?_ | with_reducible refine xBlockP ?_ | go_values | go_skip | go_guarded | go_step | go_upon | go_back | (dsimp only)))
  all_goals
    go_ret
    exact ⟨ret_bool (by unfold leafB; simp_all), by (repeat (first | with_reducible exact Below.refl _ _ | assumption | with_reducible refine below_drewN ?_ _ | with_reducible refine Below.drew ?_ | with_reducible refine Below.setRow ?_ ?_ _ | with_reducible refine Below.alloc ?_ ?_ _ | with_reducible refine Below.setCell ?_ ?_ _ | with_reducible exact Nat.le_refl _ | (focus (simp; done)) | (focus (simp; omega)) | omega))⟩

set_option maxHeartbeats 1000000 in
theorem wide_any (op wd n k0 k1 k2 a b c : Int) (w : World) :
    Calls Try.prog 56 #[.agg #[.int .i64 op, .int .i64 wd, .int .u64 n, .int .i64 k0, .int .i64 k1, .int .i64 k2], .agg #[.int .i64 a, .int .i64 b, .int .i64 c]] w fun e w' => e = .returned (.bool (wideB op wd a b c)) ∧ Below w.heap.size w w' := by
  by_cases h19 : op = 19
  · subst h19
    go_enter Try.func56, Try.ntmps56
    (repeat' (first | with_reducible refine xThenN ?_ | with_reducible refine xThenE ?_ | with_reducible refine xThenR ?_ | with_reducible refine xThenP ?_ | with_reducible refine xBlockEq ?_ | with_reducible refine xBlockNe rfl ?_ | with_reducible refine xBlockN ?_ | with_reducible refine xBlockR ?_ | with_reducible refine xBlockP ?_ | go_values | go_skip | go_guarded | go_step | go_upon | go_back | (dsimp only)))
    all_goals
      go_ret
      exact ⟨ret_bool (by unfold wideB; simp_all), by (repeat (first | with_reducible exact Below.refl _ _ | assumption | with_reducible refine below_drewN ?_ _ | with_reducible refine Below.drew ?_ | with_reducible refine Below.setRow ?_ ?_ _ | with_reducible refine Below.alloc ?_ ?_ _ | with_reducible refine Below.setCell ?_ ?_ _ | with_reducible exact Nat.le_refl _ | (focus (simp; done)) | (focus (simp; omega)) | omega))⟩
  by_cases h20 : op = 20
  · subst h20
    go_enter Try.func56, Try.ntmps56
    (repeat' (first | with_reducible refine xThenN ?_ | with_reducible refine xThenE ?_ | with_reducible refine xThenR ?_ | with_reducible refine xThenP ?_ | with_reducible refine xBlockEq ?_ | with_reducible refine xBlockNe rfl ?_ | with_reducible refine xBlockN ?_ | with_reducible refine xBlockR ?_ | with_reducible refine xBlockP ?_ | go_values | go_skip | go_guarded | go_step | go_upon | go_back | (dsimp only)))
    all_goals
      go_ret
      exact ⟨ret_bool (by unfold wideB; simp_all), by (repeat (first | with_reducible exact Below.refl _ _ | assumption | with_reducible refine below_drewN ?_ _ | with_reducible refine Below.drew ?_ | with_reducible refine Below.setRow ?_ ?_ _ | with_reducible refine Below.alloc ?_ ?_ _ | with_reducible refine Below.setCell ?_ ?_ _ | with_reducible exact Nat.le_refl _ | (focus (simp; done)) | (focus (simp; omega)) | omega))⟩
  by_cases h21 : op = 21
  · subst h21
    go_enter Try.func56, Try.ntmps56
    (repeat' (first | with_reducible refine xThenN ?_ | with_reducible refine xThenE ?_ | with_reducible refine xThenR ?_ | with_reducible refine xThenP ?_ | with_reducible refine xBlockEq ?_ | with_reducible refine xBlockNe rfl ?_ | with_reducible refine xBlockN ?_ | with_reducible refine xBlockR ?_ | with_reducible refine xBlockP ?_ | go_values | go_skip | go_guarded | go_step | go_upon | go_back | (dsimp only)))
    all_goals
      go_ret
      exact ⟨ret_bool (by unfold wideB; simp_all), by (repeat (first | with_reducible exact Below.refl _ _ | assumption | with_reducible refine below_drewN ?_ _ | with_reducible refine Below.drew ?_ | with_reducible refine Below.setRow ?_ ?_ _ | with_reducible refine Below.alloc ?_ ?_ _ | with_reducible refine Below.setCell ?_ ?_ _ | with_reducible exact Nat.le_refl _ | (focus (simp; done)) | (focus (simp; omega)) | omega))⟩
  have f19 : (op == 19) = false := by simpa using h19
  have f20 : (op == 20) = false := by simpa using h20
  have f21 : (op == 21) = false := by simpa using h21
  go_enter Try.func56, Try.ntmps56
  (repeat' (first | with_reducible refine xThenN ?_ | with_reducible refine xThenE ?_ | with_reducible refine xThenR ?_ | with_reducible refine xThenP ?_ | with_reducible refine xBlockEq ?_ | with_reducible refine xBlockNe rfl ?_ | with_reducible refine xBlockN ?_ | with_reducible refine xBlockR ?_ | with_reducible refine xBlockP ?_ | (go_at_call 58; (with_reducible refine (kids_any _ _).mono ?_); rintro e w1 ⟨rfl, rfl⟩) | (go_at_call 59; (with_reducible refine (leaf_any _ _ _ _ _ _ _).mono ?_); rintro e w1 ⟨rfl, hb⟩) | go_values | go_skip | go_guarded | go_step | go_upon | go_back | (dsimp only)))
  all_goals
    go_ret
    exact ⟨ret_bool (by unfold wideB; simp_all), by first | ((repeat (first | with_reducible exact Below.refl _ _ | assumption | with_reducible refine below_drewN ?_ _ | with_reducible refine Below.drew ?_ | with_reducible refine Below.setRow ?_ ?_ _ | with_reducible refine Below.alloc ?_ ?_ _ | with_reducible refine Below.setCell ?_ ?_ _ | with_reducible exact Nat.le_refl _ | (focus (simp; done)) | (focus (simp; omega)) | omega)); done) | exact Below.trans (by (repeat (first | with_reducible exact Below.refl _ _ | assumption | with_reducible refine below_drewN ?_ _ | with_reducible refine Below.drew ?_ | with_reducible refine Below.setRow ?_ ?_ _ | with_reducible refine Below.alloc ?_ ?_ _ | with_reducible refine Below.setCell ?_ ?_ _ | with_reducible exact Nat.le_refl _ | (focus (simp; done)) | (focus (simp; omega)) | omega))) (hb.mono (by simp; omega))⟩

end Go.Proofs.Ytcffgbmgjdhkjaa
