import Derived.Test.YtcffgbmgjdhkjaaC
import Derived.Laws.ResultCell
set_option linter.unusedSimpArgs false
set_option linter.unusedVariables false
namespace Go.Proofs.Ytcffgbmgjdhkjaa
open Go.RowKit

def kidW (has j K : Int) (ls : List Nd) : Option Int := if has ≤ j then (if K = 0 then some 0 else none) else if K < 0 ∨ ls.length ≤ K then none else some (wAt ls K)
def kidsR (op k0 k1 k2 : Int) (ls : List Nd) : Option (Int × Int × Int) :=
  match kidW (kidsI op) 0 k0 ls, kidW (kidsI op) 1 k1 ls, kidW (kidsI op) 2 k2 ls with
  | some a, some b, some c => some (a, b, c)
  | _, _, _ => none

theorem ld47 (w : World) (b : Nat) (x y z : Int) (h0 : w.cell? ⟨b, 0, none⟩ = some (.int .i64 x)) (h1 : w.cell? ⟨b, 1, none⟩ = some (.int .i64 y)) (h2 : w.cell? ⟨b, 2, none⟩ = some (.int .i64 z)) :
    (loadVar 47 ⟨b, 0, none⟩).run Try.prog w = .ok (.agg #[.int .i64 x, .int .i64 y, .int .i64 z]) w := by go_simp

def ci (o : Option Value) : Int := match o with | some (.int _ n) => n | _ => 0

theorem post55 {post : Ending → World → Prop} {a : Act} {w : World} (b : Nat) (ok : Bool) (hd : a.defers = []) (hp : a.tmps.getD 4 undef = .pointer (some ⟨b, 0, none⟩)) (hu : a.tmps.getD 5 undef = .bool ok)
    (h0 : w.cell? ⟨b, 0, none⟩ = some (.int .i64 (ci (w.cell? ⟨b, 0, none⟩)))) (h1 : w.cell? ⟨b, 1, none⟩ = some (.int .i64 (ci (w.cell? ⟨b, 1, none⟩)))) (h2 : w.cell? ⟨b, 2, none⟩ = some (.int .i64 (ci (w.cell? ⟨b, 2, none⟩))))
    (h : post (.returned (.tuple #[.agg #[.int .i64 (ci (w.cell? ⟨b, 0, none⟩)), .int .i64 (ci (w.cell? ⟨b, 1, none⟩)), .int .i64 (ci (w.cell? ⟨b, 2, none⟩))], .bool ok])) w) : bodyPost Try.prog Try.f55 post .ret a w := by
  refine bodyPost_ret ((results_cell_tmp rfl _ _ _).trans ?_) hd h
  rw [hp, hu]
  have e := ld47 w b _ _ _ h0 h1 h2
  simp only [asAddr, Sem.run_pure, Result.andThen_ok, e]

def Kids55 (op k0 k1 k2 : Int) (ls : List Nd) (e : Ending) : Prop :=
  ∃ x y z ok, e = .returned (.tuple #[.agg #[.int .i64 x, .int .i64 y, .int .i64 z], .bool ok]) ∧ kidsR op k0 k1 k2 ls = if ok then some (x, y, z) else none

set_option maxHeartbeats 1000000 in
theorem kids55_0 (op wd n k0 k1 k2 : Int) (b off cap : Nat) (ls : List Nd) (w : World) (hk : kidsI op = 0) (HR : RowAt 6 Nd.cells w b off ls) :
    Calls Try.prog 55 #[.agg #[.int .i64 op, .int .i64 wd, .int .u64 n, .int .i64 k0, .int .i64 k1, .int .i64 k2], .slice (some ⟨b, off, none⟩) ls.length cap] w fun e w' =>
      Kids55 op k0 k1 k2 ls e ∧ Below w.heap.size w w' := by
  go_enter Try.func55, Try.ntmps55
  (repeat' (first | with_reducible refine xThenN ?_ | with_reducible refine xThenE ?_ | with_reducible refine xThenR ?_ | with_reducible refine xThenP ?_ | with_reducible refine xBlockEq ?_ | with_reducible refine xBlockNe rfl ?_ | with_reducible refine xBlockN ?_ | with_reducible refine xBlockR ?_ | with_reducible refine xBlockP ?_ | ((with_reducible refine wl_id ?_); refine wl_ldW HR (by (repeat (first | with_reducible exact Below.refl _ _ | assumption | with_reducible refine below_drewN ?_ _ | with_reducible refine Below.drew ?_ | with_reducible refine Below.setRow ?_ ?_ _ | with_reducible refine Below.alloc ?_ ?_ _ | with_reducible refine Below.setCell ?_ ?_ _ | with_reducible exact Nat.le_refl _ | (focus (simp; done)) | (focus (simp; omega)) | omega))) _ (by omega) (by omega) rfl _ rfl rfl ?_; simp only [Act.put, List.setIfInBounds_toArray, List.set_cons_succ, List.set_cons_zero]) | (go_at_call 58; (with_reducible refine (kids_anyX _ 0 _ hk).mono ?_); rintro e w1 ⟨rfl, rfl⟩) | (with_reducible refine wp_loop_rounds 4 ?_) | rw [rounds_succ] | go_values | go_skip | go_guarded | go_step | go_upon | go_back | (dsimp only)))
  all_goals
    refine post55 (w.heap.size + 1) _ rfl rfl rfl ?_ ?_ ?_ ⟨⟨_, _, _, _, rfl, ?_⟩, ?_⟩
    · simp [ci, go_sem]
    · simp [ci, go_sem]
    · simp [ci, go_sem]
    · simp_all [ci, go_sem, kidsR, kidW] <;> (repeat rw [if_neg (by omega)])
    · (repeat (first | with_reducible exact Below.refl _ _ | assumption | with_reducible refine below_drewN ?_ _ | with_reducible refine Below.drew ?_ | with_reducible refine Below.setRow ?_ ?_ _ | with_reducible refine Below.alloc ?_ ?_ _ | with_reducible refine Below.setCell ?_ ?_ _ | with_reducible exact Nat.le_refl _ | (focus (simp; done)) | (focus (simp; omega)) | omega))

set_option maxHeartbeats 1000000 in
theorem kids55n_0 (op wd n k0 k1 k2 : Int) (ao : Option Addr) (cap : Nat) (w : World) (hk : kidsI op = 0) :
    Calls Try.prog 55 #[.agg #[.int .i64 op, .int .i64 wd, .int .u64 n, .int .i64 k0, .int .i64 k1, .int .i64 k2], .slice ao 0 cap] w fun e w' =>
      Kids55 op k0 k1 k2 [] e ∧ Below w.heap.size w w' := by
  go_enter Try.func55, Try.ntmps55
  (repeat' (first | with_reducible refine xThenN ?_ | with_reducible refine xThenE ?_ | with_reducible refine xThenR ?_ | with_reducible refine xThenP ?_ | with_reducible refine xBlockEq ?_ | with_reducible refine xBlockNe rfl ?_ | with_reducible refine xBlockN ?_ | with_reducible refine xBlockR ?_ | with_reducible refine xBlockP ?_ | (go_at_call 58; (with_reducible refine (kids_anyX _ 0 _ hk).mono ?_); rintro e w1 ⟨rfl, rfl⟩) | (with_reducible refine wp_loop_rounds 4 ?_) | rw [rounds_succ] | go_values | go_skip | go_guarded | go_step | go_upon | go_back | (dsimp only)))
  all_goals
    first | (exfalso; omega) | skip
    refine post55 (w.heap.size + 1) _ rfl rfl rfl ?_ ?_ ?_ ⟨⟨_, _, _, _, rfl, ?_⟩, ?_⟩
    · simp [ci, go_sem]
    · simp [ci, go_sem]
    · simp [ci, go_sem]
    · simp_all [ci, go_sem, kidsR, kidW] <;> (repeat rw [if_neg (by omega)])
    · (repeat (first | with_reducible exact Below.refl _ _ | assumption | with_reducible refine below_drewN ?_ _ | with_reducible refine Below.drew ?_ | with_reducible refine Below.setRow ?_ ?_ _ | with_reducible refine Below.alloc ?_ ?_ _ | with_reducible refine Below.setCell ?_ ?_ _ | with_reducible exact Nat.le_refl _ | (focus (simp; done)) | (focus (simp; omega)) | omega))

set_option maxHeartbeats 1000000 in
theorem kids55_1 (op wd n k0 k1 k2 : Int) (b off cap : Nat) (ls : List Nd) (w : World) (hk : kidsI op = 1) (HR : RowAt 6 Nd.cells w b off ls) :
    Calls Try.prog 55 #[.agg #[.int .i64 op, .int .i64 wd, .int .u64 n, .int .i64 k0, .int .i64 k1, .int .i64 k2], .slice (some ⟨b, off, none⟩) ls.length cap] w fun e w' =>
      Kids55 op k0 k1 k2 ls e ∧ Below w.heap.size w w' := by
  go_enter Try.func55, Try.ntmps55
  (repeat' (first | with_reducible refine xThenN ?_ | with_reducible refine xThenE ?_ | with_reducible refine xThenR ?_ | with_reducible refine xThenP ?_ | with_reducible refine xBlockEq ?_ | with_reducible refine xBlockNe rfl ?_ | with_reducible refine xBlockN ?_ | with_reducible refine xBlockR ?_ | with_reducible refine xBlockP ?_ | ((with_reducible refine wl_id ?_); refine wl_ldW HR (by (repeat (first | with_reducible exact Below.refl _ _ | assumption | with_reducible refine below_drewN ?_ _ | with_reducible refine Below.drew ?_ | with_reducible refine Below.setRow ?_ ?_ _ | with_reducible refine Below.alloc ?_ ?_ _ | with_reducible refine Below.setCell ?_ ?_ _ | with_reducible exact Nat.le_refl _ | (focus (simp; done)) | (focus (simp; omega)) | omega))) _ (by omega) (by omega) rfl _ rfl rfl ?_; simp only [Act.put, List.setIfInBounds_toArray, List.set_cons_succ, List.set_cons_zero]) | (go_at_call 58; (with_reducible refine (kids_anyX _ 1 _ hk).mono ?_); rintro e w1 ⟨rfl, rfl⟩) | (with_reducible refine wp_loop_rounds 4 ?_) | rw [rounds_succ] | go_values | go_skip | go_guarded | go_step | go_upon | go_back | (dsimp only)))
  all_goals
    refine post55 (w.heap.size + 1) _ rfl rfl rfl ?_ ?_ ?_ ⟨⟨_, _, _, _, rfl, ?_⟩, ?_⟩
    · simp [ci, go_sem]
    · simp [ci, go_sem]
    · simp [ci, go_sem]
    · simp_all [ci, go_sem, kidsR, kidW] <;> (repeat rw [if_neg (by omega)])
    · (repeat (first | with_reducible exact Below.refl _ _ | assumption | with_reducible refine below_drewN ?_ _ | with_reducible refine Below.drew ?_ | with_reducible refine Below.setRow ?_ ?_ _ | with_reducible refine Below.alloc ?_ ?_ _ | with_reducible refine Below.setCell ?_ ?_ _ | with_reducible exact Nat.le_refl _ | (focus (simp; done)) | (focus (simp; omega)) | omega))

set_option maxHeartbeats 1000000 in
theorem kids55n_1 (op wd n k0 k1 k2 : Int) (ao : Option Addr) (cap : Nat) (w : World) (hk : kidsI op = 1) :
    Calls Try.prog 55 #[.agg #[.int .i64 op, .int .i64 wd, .int .u64 n, .int .i64 k0, .int .i64 k1, .int .i64 k2], .slice ao 0 cap] w fun e w' =>
      Kids55 op k0 k1 k2 [] e ∧ Below w.heap.size w w' := by
  go_enter Try.func55, Try.ntmps55
  (repeat' (first | with_reducible refine xThenN ?_ | with_reducible refine xThenE ?_ | with_reducible refine xThenR ?_ | with_reducible refine xThenP ?_ | with_reducible refine xBlockEq ?_ | with_reducible refine xBlockNe rfl ?_ | with_reducible refine xBlockN ?_ | with_reducible refine xBlockR ?_ | with_reducible refine xBlockP ?_ | (go_at_call 58; (with_reducible refine (kids_anyX _ 1 _ hk).mono ?_); rintro e w1 ⟨rfl, rfl⟩) | (with_reducible refine wp_loop_rounds 4 ?_) | rw [rounds_succ] | go_values | go_skip | go_guarded | go_step | go_upon | go_back | (dsimp only)))
  all_goals
    first | (exfalso; omega) | skip
    refine post55 (w.heap.size + 1) _ rfl rfl rfl ?_ ?_ ?_ ⟨⟨_, _, _, _, rfl, ?_⟩, ?_⟩
    · simp [ci, go_sem]
    · simp [ci, go_sem]
    · simp [ci, go_sem]
    · simp_all [ci, go_sem, kidsR, kidW] <;> (repeat rw [if_neg (by omega)])
    · (repeat (first | with_reducible exact Below.refl _ _ | assumption | with_reducible refine below_drewN ?_ _ | with_reducible refine Below.drew ?_ | with_reducible refine Below.setRow ?_ ?_ _ | with_reducible refine Below.alloc ?_ ?_ _ | with_reducible refine Below.setCell ?_ ?_ _ | with_reducible exact Nat.le_refl _ | (focus (simp; done)) | (focus (simp; omega)) | omega))

set_option maxHeartbeats 1000000 in
theorem kids55_2 (op wd n k0 k1 k2 : Int) (b off cap : Nat) (ls : List Nd) (w : World) (hk : kidsI op = 2) (HR : RowAt 6 Nd.cells w b off ls) :
    Calls Try.prog 55 #[.agg #[.int .i64 op, .int .i64 wd, .int .u64 n, .int .i64 k0, .int .i64 k1, .int .i64 k2], .slice (some ⟨b, off, none⟩) ls.length cap] w fun e w' =>
      Kids55 op k0 k1 k2 ls e ∧ Below w.heap.size w w' := by
  go_enter Try.func55, Try.ntmps55
  (repeat' (first | with_reducible refine xThenN ?_ | with_reducible refine xThenE ?_ | with_reducible refine xThenR ?_ | with_reducible refine xThenP ?_ | with_reducible refine xBlockEq ?_ | with_reducible refine xBlockNe rfl ?_ | with_reducible refine xBlockN ?_ | with_reducible refine xBlockR ?_ | with_reducible refine xBlockP ?_ | ((with_reducible refine wl_id ?_); refine wl_ldW HR (by (repeat (first | with_reducible exact Below.refl _ _ | assumption | with_reducible refine below_drewN ?_ _ | with_reducible refine Below.drew ?_ | with_reducible refine Below.setRow ?_ ?_ _ | with_reducible refine Below.alloc ?_ ?_ _ | with_reducible refine Below.setCell ?_ ?_ _ | with_reducible exact Nat.le_refl _ | (focus (simp; done)) | (focus (simp; omega)) | omega))) _ (by omega) (by omega) rfl _ rfl rfl ?_; simp only [Act.put, List.setIfInBounds_toArray, List.set_cons_succ, List.set_cons_zero]) | (go_at_call 58; (with_reducible refine (kids_anyX _ 2 _ hk).mono ?_); rintro e w1 ⟨rfl, rfl⟩) | (with_reducible refine wp_loop_rounds 4 ?_) | rw [rounds_succ] | go_values | go_skip | go_guarded | go_step | go_upon | go_back | (dsimp only)))
  all_goals
    refine post55 (w.heap.size + 1) _ rfl rfl rfl ?_ ?_ ?_ ⟨⟨_, _, _, _, rfl, ?_⟩, ?_⟩
    · simp [ci, go_sem]
    · simp [ci, go_sem]
    · simp [ci, go_sem]
    · simp_all [ci, go_sem, kidsR, kidW] <;> (repeat rw [if_neg (by omega)])
    · (repeat (first | with_reducible exact Below.refl _ _ | assumption | with_reducible refine below_drewN ?_ _ | with_reducible refine Below.drew ?_ | with_reducible refine Below.setRow ?_ ?_ _ | with_reducible refine Below.alloc ?_ ?_ _ | with_reducible refine Below.setCell ?_ ?_ _ | with_reducible exact Nat.le_refl _ | (focus (simp; done)) | (focus (simp; omega)) | omega))

set_option maxHeartbeats 1000000 in
theorem kids55n_2 (op wd n k0 k1 k2 : Int) (ao : Option Addr) (cap : Nat) (w : World) (hk : kidsI op = 2) :
    Calls Try.prog 55 #[.agg #[.int .i64 op, .int .i64 wd, .int .u64 n, .int .i64 k0, .int .i64 k1, .int .i64 k2], .slice ao 0 cap] w fun e w' =>
      Kids55 op k0 k1 k2 [] e ∧ Below w.heap.size w w' := by
  go_enter Try.func55, Try.ntmps55
  (repeat' (first | with_reducible refine xThenN ?_ | with_reducible refine xThenE ?_ | with_reducible refine xThenR ?_ | with_reducible refine xThenP ?_ | with_reducible refine xBlockEq ?_ | with_reducible refine xBlockNe rfl ?_ | with_reducible refine xBlockN ?_ | with_reducible refine xBlockR ?_ | with_reducible refine xBlockP ?_ | (go_at_call 58; (with_reducible refine (kids_anyX _ 2 _ hk).mono ?_); rintro e w1 ⟨rfl, rfl⟩) | (with_reducible refine wp_loop_rounds 4 ?_) | rw [rounds_succ] | go_values | go_skip | go_guarded | go_step | go_upon | go_back | (dsimp only)))
  all_goals
    first | (exfalso; omega) | skip
    refine post55 (w.heap.size + 1) _ rfl rfl rfl ?_ ?_ ?_ ⟨⟨_, _, _, _, rfl, ?_⟩, ?_⟩
    · simp [ci, go_sem]
    · simp [ci, go_sem]
    · simp [ci, go_sem]
    · simp_all [ci, go_sem, kidsR, kidW] <;> (repeat rw [if_neg (by omega)])
    · (repeat (first | with_reducible exact Below.refl _ _ | assumption | with_reducible refine below_drewN ?_ _ | with_reducible refine Below.drew ?_ | with_reducible refine Below.setRow ?_ ?_ _ | with_reducible refine Below.alloc ?_ ?_ _ | with_reducible refine Below.setCell ?_ ?_ _ | with_reducible exact Nat.le_refl _ | (focus (simp; done)) | (focus (simp; omega)) | omega))

set_option maxHeartbeats 1000000 in
theorem kids55_3 (op wd n k0 k1 k2 : Int) (b off cap : Nat) (ls : List Nd) (w : World) (hk : kidsI op = 3) (HR : RowAt 6 Nd.cells w b off ls) :
    Calls Try.prog 55 #[.agg #[.int .i64 op, .int .i64 wd, .int .u64 n, .int .i64 k0, .int .i64 k1, .int .i64 k2], .slice (some ⟨b, off, none⟩) ls.length cap] w fun e w' =>
      Kids55 op k0 k1 k2 ls e ∧ Below w.heap.size w w' := by
  go_enter Try.func55, Try.ntmps55
  (repeat' (first | with_reducible refine xThenN ?_ | with_reducible refine xThenE ?_ | with_reducible refine xThenR ?_ | with_reducible refine xThenP ?_ | with_reducible refine xBlockEq ?_ | with_reducible refine xBlockNe rfl ?_ | with_reducible refine xBlockN ?_ | with_reducible refine xBlockR ?_ | with_reducible refine xBlockP ?_ | ((with_reducible refine wl_id ?_); refine wl_ldW HR (by (repeat (first | with_reducible exact Below.refl _ _ | assumption | with_reducible refine below_drewN ?_ _ | with_reducible refine Below.drew ?_ | with_reducible refine Below.setRow ?_ ?_ _ | with_reducible refine Below.alloc ?_ ?_ _ | with_reducible refine Below.setCell ?_ ?_ _ | with_reducible exact Nat.le_refl _ | (focus (simp; done)) | (focus (simp; omega)) | omega))) _ (by omega) (by omega) rfl _ rfl rfl ?_; simp only [Act.put, List.setIfInBounds_toArray, List.set_cons_succ, List.set_cons_zero]) | (go_at_call 58; (with_reducible refine (kids_anyX _ 3 _ hk).mono ?_); rintro e w1 ⟨rfl, rfl⟩) | (with_reducible refine wp_loop_rounds 4 ?_) | rw [rounds_succ] | go_values | go_skip | go_guarded | go_step | go_upon | go_back | (dsimp only)))
  all_goals
    refine post55 (w.heap.size + 1) _ rfl rfl rfl ?_ ?_ ?_ ⟨⟨_, _, _, _, rfl, ?_⟩, ?_⟩
    · simp [ci, go_sem]
    · simp [ci, go_sem]
    · simp [ci, go_sem]
    · simp_all [ci, go_sem, kidsR, kidW] <;> (repeat rw [if_neg (by omega)])
    · (repeat (first | with_reducible exact Below.refl _ _ | assumption | with_reducible refine below_drewN ?_ _ | with_reducible refine Below.drew ?_ | with_reducible refine Below.setRow ?_ ?_ _ | with_reducible refine Below.alloc ?_ ?_ _ | with_reducible refine Below.setCell ?_ ?_ _ | with_reducible exact Nat.le_refl _ | (focus (simp; done)) | (focus (simp; omega)) | omega))

set_option maxHeartbeats 1000000 in
theorem kids55n_3 (op wd n k0 k1 k2 : Int) (ao : Option Addr) (cap : Nat) (w : World) (hk : kidsI op = 3) :
    Calls Try.prog 55 #[.agg #[.int .i64 op, .int .i64 wd, .int .u64 n, .int .i64 k0, .int .i64 k1, .int .i64 k2], .slice ao 0 cap] w fun e w' =>
      Kids55 op k0 k1 k2 [] e ∧ Below w.heap.size w w' := by
  go_enter Try.func55, Try.ntmps55
  (repeat' (first | with_reducible refine xThenN ?_ | with_reducible refine xThenE ?_ | with_reducible refine xThenR ?_ | with_reducible refine xThenP ?_ | with_reducible refine xBlockEq ?_ | with_reducible refine xBlockNe rfl ?_ | with_reducible refine xBlockN ?_ | with_reducible refine xBlockR ?_ | with_reducible refine xBlockP ?_ | (go_at_call 58; (with_reducible refine (kids_anyX _ 3 _ hk).mono ?_); rintro e w1 ⟨rfl, rfl⟩) | (with_reducible refine wp_loop_rounds 4 ?_) | rw [rounds_succ] | go_values | go_skip | go_guarded | go_step | go_upon | go_back | (dsimp only)))
  all_goals
    first | (exfalso; omega) | skip
    refine post55 (w.heap.size + 1) _ rfl rfl rfl ?_ ?_ ?_ ⟨⟨_, _, _, _, rfl, ?_⟩, ?_⟩
    · simp [ci, go_sem]
    · simp [ci, go_sem]
    · simp [ci, go_sem]
    · simp_all [ci, go_sem, kidsR, kidW] <;> (repeat rw [if_neg (by omega)])
    · (repeat (first | with_reducible exact Below.refl _ _ | assumption | with_reducible refine below_drewN ?_ _ | with_reducible refine Below.drew ?_ | with_reducible refine Below.setRow ?_ ?_ _ | with_reducible refine Below.alloc ?_ ?_ _ | with_reducible refine Below.setCell ?_ ?_ _ | with_reducible exact Nat.le_refl _ | (focus (simp; done)) | (focus (simp; omega)) | omega))

end Go.Proofs.Ytcffgbmgjdhkjaa
