import Derived.Test.YtafjllfmagmhbaaA
namespace Go.Proofs.Ytafjllfmagmhbaa
open Go.RowKit

section
variable {K : Act → World → Prop} {Q : Exit → Act → World → Prop} {a : Act} {w : World} {id id' : Nat} {ch : List PanicEntry}
theorem xThenN (h : K a w) : Exit.then K Q .normal a w := h
theorem xThenE (h : Q (.exit id) a w) : Exit.then K Q (.exit id) a w := h
theorem xThenR (h : Q .ret a w) : Exit.then K Q .ret a w := h
theorem xThenP (h : Q (.panic ch) a w) : Exit.then K Q (.panic ch) a w := h
theorem xBlockN (h : Q .normal a w) : Exit.inBlock id Q .normal a w := h
theorem xBlockR (h : Q .ret a w) : Exit.inBlock id Q .ret a w := h
theorem xBlockP (h : Q (.panic ch) a w) : Exit.inBlock id Q (.panic ch) a w := h
theorem xBlockEq (h : Q .normal a w) : Exit.inBlock id Q (.exit id) a w := by simp only [Exit.inBlock, if_true]; exact h
theorem xBlockNe (e : (id' == id) = false) (h : Q (.exit id') a w) : Exit.inBlock id Q (.exit id') a w := by
  have : ¬ id' = id := by simpa using e
  simp only [Exit.inBlock, this, if_false]; exact h
end

theorem cut_lt (a x : Int) : 0 ≤ x % 2 ^ wid a ∧ x % 2 ^ wid a < 2 ^ wid a ∧ x % 2 ^ wid a < 18446744073709551616 := by
  have hb := wid_bd a
  have hp : (0 : Int) < 2 ^ wid a := Int.pow_pos (by decide)
  have hle : (2 : Int) ^ wid a ≤ 18446744073709551616 := by
    have := pow_le64 hb.2
    have h2 : ((2 ^ wid a : Nat) : Int) ≤ ((18446744073709551616 : Nat) : Int) := Int.ofNat_le.2 this
    simpa using h2
  have h1 := Int.emod_nonneg x (show (2 : Int) ^ wid a ≠ 0 by omega)
  have h2 := Int.emod_lt_of_pos x hp
  exact ⟨h1, h2, by omega⟩

set_option maxRecDepth 100000 in
set_option maxHeartbeats 1000000 in
theorem apply_5 (a x y : Int) (w : World) :
    Calls Try.prog 11 #[.int .i64 5, .int .i64 a, .int .u64 x, .int .u64 y] w fun e w' => e = .returned (.int .u64 (opI 5 (wid a) (x % 2 ^ wid a) (y % 2 ^ wid a))) ∧ Below w.heap.size w w' := by
  have hww := wid_wid a
  have hb := wid_bd a
  have bx := (cut_lt a x).1
  have bxM := (cut_lt a x).2.1
  have bx2 := Lib.hid (cut_lt a x).2.2
  have by1 := (cut_lt a y).1
  have byM := (cut_lt a y).2.1
  go_enter Try.func11, Try.ntmps11
  repeat (first | with_reducible refine xThenN ?_ | with_reducible refine xThenE ?_ | with_reducible refine xThenR ?_ | with_reducible refine xThenP ?_ | with_reducible refine xBlockEq ?_ | with_reducible refine xBlockNe rfl ?_ | with_reducible refine xBlockN ?_ | with_reducible refine xBlockR ?_ | with_reducible refine xBlockP ?_ | (go_at_call 25; with_reducible refine (width_any _ _).mono ?_; rintro e w1 ⟨rfl, rfl⟩) | (go_at_call 14; with_reducible refine (cut_any _ _ _).mono ?_; rintro e w1 ⟨rfl, rfl⟩) | (go_at_call 26; with_reducible refine (parts_any _ _ _ _ (by assumption) bx2 (by assumption)).mono ?_; rintro e w1 ⟨rfl, nq, rfl⟩) | (go_at_call 31; with_reducible refine (flag_any _ _).mono ?_; rintro e w1 ⟨rfl, rfl⟩) | (go_at_call 18; with_reducible refine (sign_any _ _ _).mono ?_; rintro e w1 ⟨rfl, rfl⟩) | go_values | go_skip | go_guarded | go_step | go_upon | go_back | (dsimp only))
  go_ret
  exact ⟨ret_int (by rw [hww]; exact m_5 hb bx bxM), by (repeat (first | with_reducible exact Below.refl _ _ | assumption | with_reducible refine below_drewN ?_ _ | with_reducible refine Below.alloc ?_ ?_ _ | with_reducible refine Below.setCell ?_ ?_ _ | with_reducible exact Nat.le_refl _ | (simp; done) | (simp; omega) | omega))⟩

set_option maxRecDepth 100000 in
set_option maxHeartbeats 1000000 in
theorem apply_9 (a x y : Int) (w : World) :
    Calls Try.prog 11 #[.int .i64 9, .int .i64 a, .int .u64 x, .int .u64 y] w fun e w' => e = .returned (.int .u64 (opI 9 (wid a) (x % 2 ^ wid a) (y % 2 ^ wid a))) ∧ Below w.heap.size w w' := by
  have hww := wid_wid a
  have hb := wid_bd a
  have bx := (cut_lt a x).1
  have bxM := (cut_lt a x).2.1
  have bx2 := Lib.hid (cut_lt a x).2.2
  have by1 := (cut_lt a y).1
  have byM := (cut_lt a y).2.1
  go_enter Try.func11, Try.ntmps11
  repeat (first | with_reducible refine xThenN ?_ | with_reducible refine xThenE ?_ | with_reducible refine xThenR ?_ | with_reducible refine xThenP ?_ | with_reducible refine xBlockEq ?_ | with_reducible refine xBlockNe rfl ?_ | with_reducible refine xBlockN ?_ | with_reducible refine xBlockR ?_ | with_reducible refine xBlockP ?_ | (go_at_call 25; with_reducible refine (width_any _ _).mono ?_; rintro e w1 ⟨rfl, rfl⟩) | (go_at_call 14; with_reducible refine (cut_any _ _ _).mono ?_; rintro e w1 ⟨rfl, rfl⟩) | (go_at_call 26; with_reducible refine (parts_any _ _ _ _ (by assumption) bx2 (by assumption)).mono ?_; rintro e w1 ⟨rfl, nq, rfl⟩) | (go_at_call 31; with_reducible refine (flag_any _ _).mono ?_; rintro e w1 ⟨rfl, rfl⟩) | (go_at_call 18; with_reducible refine (sign_any _ _ _).mono ?_; rintro e w1 ⟨rfl, rfl⟩) | go_values | go_skip | go_guarded | go_step | go_upon | go_back | (dsimp only))
  go_ret
  exact ⟨ret_int (by rw [hww]; exact m_9 hb _ _), by (repeat (first | with_reducible exact Below.refl _ _ | assumption | with_reducible refine below_drewN ?_ _ | with_reducible refine Below.alloc ?_ ?_ _ | with_reducible refine Below.setCell ?_ ?_ _ | with_reducible exact Nat.le_refl _ | (simp; done) | (simp; omega) | omega))⟩

set_option maxRecDepth 100000 in
set_option maxHeartbeats 1000000 in
theorem apply_8 (a x y : Int) (w : World) :
    Calls Try.prog 11 #[.int .i64 8, .int .i64 a, .int .u64 x, .int .u64 y] w fun e w' => e = .returned (.int .u64 (opI 8 (wid a) (x % 2 ^ wid a) (y % 2 ^ wid a))) ∧ Below w.heap.size w w' := by
  have hww := wid_wid a
  have hb := wid_bd a
  have bx := (cut_lt a x).1
  have bxM := (cut_lt a x).2.1
  have bx2 := Lib.hid (cut_lt a x).2.2
  have by1 := (cut_lt a y).1
  have byM := (cut_lt a y).2.1
  go_enter Try.func11, Try.ntmps11
  repeat (first | with_reducible refine xThenN ?_ | with_reducible refine xThenE ?_ | with_reducible refine xThenR ?_ | with_reducible refine xThenP ?_ | with_reducible refine xBlockEq ?_ | with_reducible refine xBlockNe rfl ?_ | with_reducible refine xBlockN ?_ | with_reducible refine xBlockR ?_ | with_reducible refine xBlockP ?_ | (go_at_call 25; with_reducible refine (width_any _ _).mono ?_; rintro e w1 ⟨rfl, rfl⟩) | (go_at_call 14; with_reducible refine (cut_any _ _ _).mono ?_; rintro e w1 ⟨rfl, rfl⟩) | (go_at_call 26; with_reducible refine (parts_any _ _ _ _ (by assumption) bx2 (by assumption)).mono ?_; rintro e w1 ⟨rfl, nq, rfl⟩) | (go_at_call 31; with_reducible refine (flag_any _ _).mono ?_; rintro e w1 ⟨rfl, rfl⟩) | (go_at_call 18; with_reducible refine (sign_any _ _ _).mono ?_; rintro e w1 ⟨rfl, rfl⟩) | go_values | go_skip | go_guarded | go_step | go_upon | go_back | (dsimp only))
  go_ret
  exact ⟨ret_int (by rw [hww]; exact wrap_mod _ hb.2), by (repeat (first | with_reducible exact Below.refl _ _ | assumption | with_reducible refine below_drewN ?_ _ | with_reducible refine Below.alloc ?_ ?_ _ | with_reducible refine Below.setCell ?_ ?_ _ | with_reducible exact Nat.le_refl _ | (simp; done) | (simp; omega) | omega))⟩

set_option maxRecDepth 100000 in
set_option maxHeartbeats 1000000 in
theorem apply_10 (a x y : Int) (w : World) :
    Calls Try.prog 11 #[.int .i64 10, .int .i64 a, .int .u64 x, .int .u64 y] w fun e w' => e = .returned (.int .u64 (opI 10 (wid a) (x % 2 ^ wid a) (y % 2 ^ wid a))) ∧ Below w.heap.size w w' := by
  have hww := wid_wid a
  have hb := wid_bd a
  have bx := (cut_lt a x).1
  have bxM := (cut_lt a x).2.1
  have bx2 := Lib.hid (cut_lt a x).2.2
  have by1 := (cut_lt a y).1
  have byM := (cut_lt a y).2.1
  go_enter Try.func11, Try.ntmps11
  repeat (first | with_reducible refine xThenN ?_ | with_reducible refine xThenE ?_ | with_reducible refine xThenR ?_ | with_reducible refine xThenP ?_ | with_reducible refine xBlockEq ?_ | with_reducible refine xBlockNe rfl ?_ | with_reducible refine xBlockN ?_ | with_reducible refine xBlockR ?_ | with_reducible refine xBlockP ?_ | (go_at_call 25; with_reducible refine (width_any _ _).mono ?_; rintro e w1 ⟨rfl, rfl⟩) | (go_at_call 14; with_reducible refine (cut_any _ _ _).mono ?_; rintro e w1 ⟨rfl, rfl⟩) | (go_at_call 26; with_reducible refine (parts_any _ _ _ _ (by assumption) bx2 (by assumption)).mono ?_; rintro e w1 ⟨rfl, nq, rfl⟩) | (go_at_call 31; with_reducible refine (flag_any _ _).mono ?_; rintro e w1 ⟨rfl, rfl⟩) | (go_at_call 18; with_reducible refine (sign_any _ _ _).mono ?_; rintro e w1 ⟨rfl, rfl⟩) | go_values | go_skip | go_guarded | go_step | go_upon | go_back | (dsimp only))
  go_ret
  exact ⟨ret_int (by rw [hww]; exact wrap_mod _ hb.2), by (repeat (first | with_reducible exact Below.refl _ _ | assumption | with_reducible refine below_drewN ?_ _ | with_reducible refine Below.alloc ?_ ?_ _ | with_reducible refine Below.setCell ?_ ?_ _ | with_reducible exact Nat.le_refl _ | (simp; done) | (simp; omega) | omega))⟩

set_option maxRecDepth 100000 in
set_option maxHeartbeats 1000000 in
theorem apply_11 (a x y : Int) (w : World) :
    Calls Try.prog 11 #[.int .i64 11, .int .i64 a, .int .u64 x, .int .u64 y] w fun e w' => e = .returned (.int .u64 (opI 11 (wid a) (x % 2 ^ wid a) (y % 2 ^ wid a))) ∧ Below w.heap.size w w' := by
  have hww := wid_wid a
  have hb := wid_bd a
  have bx := (cut_lt a x).1
  have bxM := (cut_lt a x).2.1
  have bx2 := Lib.hid (cut_lt a x).2.2
  have by1 := (cut_lt a y).1
  have byM := (cut_lt a y).2.1
  go_enter Try.func11, Try.ntmps11
  repeat (first | with_reducible refine xThenN ?_ | with_reducible refine xThenE ?_ | with_reducible refine xThenR ?_ | with_reducible refine xThenP ?_ | with_reducible refine xBlockEq ?_ | with_reducible refine xBlockNe rfl ?_ | with_reducible refine xBlockN ?_ | with_reducible refine xBlockR ?_ | with_reducible refine xBlockP ?_ | (go_at_call 25; with_reducible refine (width_any _ _).mono ?_; rintro e w1 ⟨rfl, rfl⟩) | (go_at_call 14; with_reducible refine (cut_any _ _ _).mono ?_; rintro e w1 ⟨rfl, rfl⟩) | (go_at_call 26; with_reducible refine (parts_any _ _ _ _ (by assumption) bx2 (by assumption)).mono ?_; rintro e w1 ⟨rfl, nq, rfl⟩) | (go_at_call 31; with_reducible refine (flag_any _ _).mono ?_; rintro e w1 ⟨rfl, rfl⟩) | (go_at_call 18; with_reducible refine (sign_any _ _ _).mono ?_; rintro e w1 ⟨rfl, rfl⟩) | go_values | go_skip | go_guarded | go_step | go_upon | go_back | (dsimp only))
  go_ret
  exact ⟨ret_int (by rw [hww]; exact m_11 bx bxM by1 _ hww), by (repeat (first | with_reducible exact Below.refl _ _ | assumption | with_reducible refine below_drewN ?_ _ | with_reducible refine Below.alloc ?_ ?_ _ | with_reducible refine Below.setCell ?_ ?_ _ | with_reducible exact Nat.le_refl _ | (simp; done) | (simp; omega) | omega))⟩

set_option maxRecDepth 100000 in
set_option maxHeartbeats 1000000 in
theorem apply_12 (a x y : Int) (w : World) :
    Calls Try.prog 11 #[.int .i64 12, .int .i64 a, .int .u64 x, .int .u64 y] w fun e w' => e = .returned (.int .u64 (opI 12 (wid a) (x % 2 ^ wid a) (y % 2 ^ wid a))) ∧ Below w.heap.size w w' := by
  have hww := wid_wid a
  have hb := wid_bd a
  have bx := (cut_lt a x).1
  have bxM := (cut_lt a x).2.1
  have bx2 := Lib.hid (cut_lt a x).2.2
  have by1 := (cut_lt a y).1
  have byM := (cut_lt a y).2.1
  go_enter Try.func11, Try.ntmps11
  repeat (first | with_reducible refine xThenN ?_ | with_reducible refine xThenE ?_ | with_reducible refine xThenR ?_ | with_reducible refine xThenP ?_ | with_reducible refine xBlockEq ?_ | with_reducible refine xBlockNe rfl ?_ | with_reducible refine xBlockN ?_ | with_reducible refine xBlockR ?_ | with_reducible refine xBlockP ?_ | (go_at_call 25; with_reducible refine (width_any _ _).mono ?_; rintro e w1 ⟨rfl, rfl⟩) | (go_at_call 14; with_reducible refine (cut_any _ _ _).mono ?_; rintro e w1 ⟨rfl, rfl⟩) | (go_at_call 26; with_reducible refine (parts_any _ _ _ _ (by assumption) bx2 (by assumption)).mono ?_; rintro e w1 ⟨rfl, nq, rfl⟩) | (go_at_call 31; with_reducible refine (flag_any _ _).mono ?_; rintro e w1 ⟨rfl, rfl⟩) | (go_at_call 18; with_reducible refine (sign_any _ _ _).mono ?_; rintro e w1 ⟨rfl, rfl⟩) | go_values | go_skip | go_guarded | go_step | go_upon | go_back | (dsimp only))
  go_ret
  exact ⟨ret_int (by rw [hww]; exact m_12 bx bxM by1 byM), by (repeat (first | with_reducible exact Below.refl _ _ | assumption | with_reducible refine below_drewN ?_ _ | with_reducible refine Below.alloc ?_ ?_ _ | with_reducible refine Below.setCell ?_ ?_ _ | with_reducible exact Nat.le_refl _ | (simp; done) | (simp; omega) | omega))⟩

set_option maxRecDepth 100000 in
set_option maxHeartbeats 1000000 in
theorem apply_13 (a x y : Int) (w : World) :
    Calls Try.prog 11 #[.int .i64 13, .int .i64 a, .int .u64 x, .int .u64 y] w fun e w' => e = .returned (.int .u64 (opI 13 (wid a) (x % 2 ^ wid a) (y % 2 ^ wid a))) ∧ Below w.heap.size w w' := by
  have hww := wid_wid a
  have hb := wid_bd a
  have bx := (cut_lt a x).1
  have bxM := (cut_lt a x).2.1
  have bx2 := Lib.hid (cut_lt a x).2.2
  have by1 := (cut_lt a y).1
  have byM := (cut_lt a y).2.1
  go_enter Try.func11, Try.ntmps11
  repeat (first | with_reducible refine xThenN ?_ | with_reducible refine xThenE ?_ | with_reducible refine xThenR ?_ | with_reducible refine xThenP ?_ | with_reducible refine xBlockEq ?_ | with_reducible refine xBlockNe rfl ?_ | with_reducible refine xBlockN ?_ | with_reducible refine xBlockR ?_ | with_reducible refine xBlockP ?_ | (go_at_call 25; with_reducible refine (width_any _ _).mono ?_; rintro e w1 ⟨rfl, rfl⟩) | (go_at_call 14; with_reducible refine (cut_any _ _ _).mono ?_; rintro e w1 ⟨rfl, rfl⟩) | (go_at_call 26; with_reducible refine (parts_any _ _ _ _ (by assumption) bx2 (by assumption)).mono ?_; rintro e w1 ⟨rfl, nq, rfl⟩) | (go_at_call 31; with_reducible refine (flag_any _ _).mono ?_; rintro e w1 ⟨rfl, rfl⟩) | (go_at_call 18; with_reducible refine (sign_any _ _ _).mono ?_; rintro e w1 ⟨rfl, rfl⟩) | go_values | go_skip | go_guarded | go_step | go_upon | go_back | (dsimp only))
  go_ret
  exact ⟨ret_int (by rw [hww]; exact m_13 hb bx bxM by1 byM), by (repeat (first | with_reducible exact Below.refl _ _ | assumption | with_reducible refine below_drewN ?_ _ | with_reducible refine Below.alloc ?_ ?_ _ | with_reducible refine Below.setCell ?_ ?_ _ | with_reducible exact Nat.le_refl _ | (simp; done) | (simp; omega) | omega))⟩

set_option maxRecDepth 100000 in
set_option maxHeartbeats 1000000 in
theorem apply_14 (a x y : Int) (w : World) :
    Calls Try.prog 11 #[.int .i64 14, .int .i64 a, .int .u64 x, .int .u64 y] w fun e w' => e = .returned (.int .u64 (opI 14 (wid a) (x % 2 ^ wid a) (y % 2 ^ wid a))) ∧ Below w.heap.size w w' := by
  have hww := wid_wid a
  have hb := wid_bd a
  have bx := (cut_lt a x).1
  have bxM := (cut_lt a x).2.1
  have bx2 := Lib.hid (cut_lt a x).2.2
  have by1 := (cut_lt a y).1
  have byM := (cut_lt a y).2.1
  go_enter Try.func11, Try.ntmps11
  repeat (first | with_reducible refine xThenN ?_ | with_reducible refine xThenE ?_ | with_reducible refine xThenR ?_ | with_reducible refine xThenP ?_ | with_reducible refine xBlockEq ?_ | with_reducible refine xBlockNe rfl ?_ | with_reducible refine xBlockN ?_ | with_reducible refine xBlockR ?_ | with_reducible refine xBlockP ?_ | (go_at_call 25; with_reducible refine (width_any _ _).mono ?_; rintro e w1 ⟨rfl, rfl⟩) | (go_at_call 14; with_reducible refine (cut_any _ _ _).mono ?_; rintro e w1 ⟨rfl, rfl⟩) | (go_at_call 26; with_reducible refine (parts_any _ _ _ _ (by assumption) bx2 (by assumption)).mono ?_; rintro e w1 ⟨rfl, nq, rfl⟩) | (go_at_call 31; with_reducible refine (flag_any _ _).mono ?_; rintro e w1 ⟨rfl, rfl⟩) | (go_at_call 18; with_reducible refine (sign_any _ _ _).mono ?_; rintro e w1 ⟨rfl, rfl⟩) | go_values | go_skip | go_guarded | go_step | go_upon | go_back | (dsimp only))
  go_ret
  exact ⟨ret_int (by rw [hww]; exact m_14 hb bx bxM by1 byM), by (repeat (first | with_reducible exact Below.refl _ _ | assumption | with_reducible refine below_drewN ?_ _ | with_reducible refine Below.alloc ?_ ?_ _ | with_reducible refine Below.setCell ?_ ?_ _ | with_reducible exact Nat.le_refl _ | (simp; done) | (simp; omega) | omega))⟩

set_option maxRecDepth 100000 in
set_option maxHeartbeats 1000000 in
theorem apply_15 (a x y : Int) (w : World) :
    Calls Try.prog 11 #[.int .i64 15, .int .i64 a, .int .u64 x, .int .u64 y] w fun e w' => e = .returned (.int .u64 (opI 15 (wid a) (x % 2 ^ wid a) (y % 2 ^ wid a))) ∧ Below w.heap.size w w' := by
  have hww := wid_wid a
  have hb := wid_bd a
  have bx := (cut_lt a x).1
  have bxM := (cut_lt a x).2.1
  have bx2 := Lib.hid (cut_lt a x).2.2
  have by1 := (cut_lt a y).1
  have byM := (cut_lt a y).2.1
  go_enter Try.func11, Try.ntmps11
  repeat (first | with_reducible refine xThenN ?_ | with_reducible refine xThenE ?_ | with_reducible refine xThenR ?_ | with_reducible refine xThenP ?_ | with_reducible refine xBlockEq ?_ | with_reducible refine xBlockNe rfl ?_ | with_reducible refine xBlockN ?_ | with_reducible refine xBlockR ?_ | with_reducible refine xBlockP ?_ | (go_at_call 25; with_reducible refine (width_any _ _).mono ?_; rintro e w1 ⟨rfl, rfl⟩) | (go_at_call 14; with_reducible refine (cut_any _ _ _).mono ?_; rintro e w1 ⟨rfl, rfl⟩) | (go_at_call 26; with_reducible refine (parts_any _ _ _ _ (by assumption) bx2 (by assumption)).mono ?_; rintro e w1 ⟨rfl, nq, rfl⟩) | (go_at_call 31; with_reducible refine (flag_any _ _).mono ?_; rintro e w1 ⟨rfl, rfl⟩) | (go_at_call 18; with_reducible refine (sign_any _ _ _).mono ?_; rintro e w1 ⟨rfl, rfl⟩) | go_values | go_skip | go_guarded | go_step | go_upon | go_back | (dsimp only))
  go_ret
  exact ⟨ret_int (by rw [hww]; exact m_15 hb bx bxM by1 byM), by (repeat (first | with_reducible exact Below.refl _ _ | assumption | with_reducible refine below_drewN ?_ _ | with_reducible refine Below.alloc ?_ ?_ _ | with_reducible refine Below.setCell ?_ ?_ _ | with_reducible exact Nat.le_refl _ | (simp; done) | (simp; omega) | omega))⟩

set_option maxRecDepth 100000 in
set_option maxHeartbeats 1000000 in
theorem apply_19 (a x y : Int) (w : World) :
    Calls Try.prog 11 #[.int .i64 19, .int .i64 a, .int .u64 x, .int .u64 y] w fun e w' => e = .returned (.int .u64 (opI 19 (wid a) (x % 2 ^ wid a) (y % 2 ^ wid a))) ∧ Below w.heap.size w w' := by
  have hww := wid_wid a
  have hb := wid_bd a
  have bx := (cut_lt a x).1
  have bxM := (cut_lt a x).2.1
  have bx2 := Lib.hid (cut_lt a x).2.2
  have by1 := (cut_lt a y).1
  have byM := (cut_lt a y).2.1
  go_enter Try.func11, Try.ntmps11
  repeat (first | with_reducible refine xThenN ?_ | with_reducible refine xThenE ?_ | with_reducible refine xThenR ?_ | with_reducible refine xThenP ?_ | with_reducible refine xBlockEq ?_ | with_reducible refine xBlockNe rfl ?_ | with_reducible refine xBlockN ?_ | with_reducible refine xBlockR ?_ | with_reducible refine xBlockP ?_ | (go_at_call 25; with_reducible refine (width_any _ _).mono ?_; rintro e w1 ⟨rfl, rfl⟩) | (go_at_call 14; with_reducible refine (cut_any _ _ _).mono ?_; rintro e w1 ⟨rfl, rfl⟩) | (go_at_call 26; with_reducible refine (parts_any _ _ _ _ (by assumption) bx2 (by assumption)).mono ?_; rintro e w1 ⟨rfl, nq, rfl⟩) | (go_at_call 31; with_reducible refine (flag_any _ _).mono ?_; rintro e w1 ⟨rfl, rfl⟩) | (go_at_call 18; with_reducible refine (sign_any _ _ _).mono ?_; rintro e w1 ⟨rfl, rfl⟩) | go_values | go_skip | go_guarded | go_step | go_upon | go_back | (dsimp only))
  go_ret
  exact ⟨ret_int (by rw [hww]; exact m_19 hb.1 _ _), by (repeat (first | with_reducible exact Below.refl _ _ | assumption | with_reducible refine below_drewN ?_ _ | with_reducible refine Below.alloc ?_ ?_ _ | with_reducible refine Below.setCell ?_ ?_ _ | with_reducible exact Nat.le_refl _ | (simp; done) | (simp; omega) | omega))⟩

set_option maxRecDepth 100000 in
set_option maxHeartbeats 1000000 in
theorem apply_20 (a x y : Int) (w : World) :
    Calls Try.prog 11 #[.int .i64 20, .int .i64 a, .int .u64 x, .int .u64 y] w fun e w' => e = .returned (.int .u64 (opI 20 (wid a) (x % 2 ^ wid a) (y % 2 ^ wid a))) ∧ Below w.heap.size w w' := by
  have hww := wid_wid a
  have hb := wid_bd a
  have bx := (cut_lt a x).1
  have bxM := (cut_lt a x).2.1
  have bx2 := Lib.hid (cut_lt a x).2.2
  have by1 := (cut_lt a y).1
  have byM := (cut_lt a y).2.1
  go_enter Try.func11, Try.ntmps11
  repeat (first | with_reducible refine xThenN ?_ | with_reducible refine xThenE ?_ | with_reducible refine xThenR ?_ | with_reducible refine xThenP ?_ | with_reducible refine xBlockEq ?_ | with_reducible refine xBlockNe rfl ?_ | with_reducible refine xBlockN ?_ | with_reducible refine xBlockR ?_ | with_reducible refine xBlockP ?_ | (go_at_call 25; with_reducible refine (width_any _ _).mono ?_; rintro e w1 ⟨rfl, rfl⟩) | (go_at_call 14; with_reducible refine (cut_any _ _ _).mono ?_; rintro e w1 ⟨rfl, rfl⟩) | (go_at_call 26; with_reducible refine (parts_any _ _ _ _ (by assumption) bx2 (by assumption)).mono ?_; rintro e w1 ⟨rfl, nq, rfl⟩) | (go_at_call 31; with_reducible refine (flag_any _ _).mono ?_; rintro e w1 ⟨rfl, rfl⟩) | (go_at_call 18; with_reducible refine (sign_any _ _ _).mono ?_; rintro e w1 ⟨rfl, rfl⟩) | go_values | go_skip | go_guarded | go_step | go_upon | go_back | (dsimp only))
  go_ret
  exact ⟨ret_int (by rw [hww]; exact m_20 hb.1 _ _), by (repeat (first | with_reducible exact Below.refl _ _ | assumption | with_reducible refine below_drewN ?_ _ | with_reducible refine Below.alloc ?_ ?_ _ | with_reducible refine Below.setCell ?_ ?_ _ | with_reducible exact Nat.le_refl _ | (simp; done) | (simp; omega) | omega))⟩

set_option maxRecDepth 100000 in
set_option maxHeartbeats 1000000 in
theorem apply_21 (a x y : Int) (w : World) :
    Calls Try.prog 11 #[.int .i64 21, .int .i64 a, .int .u64 x, .int .u64 y] w fun e w' => e = .returned (.int .u64 (opI 21 (wid a) (x % 2 ^ wid a) (y % 2 ^ wid a))) ∧ Below w.heap.size w w' := by
  have hww := wid_wid a
  have hb := wid_bd a
  have bx := (cut_lt a x).1
  have bxM := (cut_lt a x).2.1
  have bx2 := Lib.hid (cut_lt a x).2.2
  have by1 := (cut_lt a y).1
  have byM := (cut_lt a y).2.1
  go_enter Try.func11, Try.ntmps11
  repeat (first | with_reducible refine xThenN ?_ | with_reducible refine xThenE ?_ | with_reducible refine xThenR ?_ | with_reducible refine xThenP ?_ | with_reducible refine xBlockEq ?_ | with_reducible refine xBlockNe rfl ?_ | with_reducible refine xBlockN ?_ | with_reducible refine xBlockR ?_ | with_reducible refine xBlockP ?_ | (go_at_call 25; with_reducible refine (width_any _ _).mono ?_; rintro e w1 ⟨rfl, rfl⟩) | (go_at_call 14; with_reducible refine (cut_any _ _ _).mono ?_; rintro e w1 ⟨rfl, rfl⟩) | (go_at_call 26; with_reducible refine (parts_any _ _ _ _ (by assumption) bx2 (by assumption)).mono ?_; rintro e w1 ⟨rfl, nq, rfl⟩) | (go_at_call 31; with_reducible refine (flag_any _ _).mono ?_; rintro e w1 ⟨rfl, rfl⟩) | (go_at_call 18; with_reducible refine (sign_any _ _ _).mono ?_; rintro e w1 ⟨rfl, rfl⟩) | go_values | go_skip | go_guarded | go_step | go_upon | go_back | (dsimp only))
  go_ret
  refine ⟨ret_int (by rw [hww]; exact m_21 hb bx bxM by1 byM), ?_⟩
  (repeat (first | with_reducible exact Below.refl _ _ | assumption | with_reducible refine below_drewN ?_ _ | with_reducible refine Below.alloc ?_ ?_ _ | with_reducible refine Below.setCell ?_ ?_ _ | with_reducible exact Nat.le_refl _ | (simp; done) | (simp; omega) | omega))

set_option maxRecDepth 100000 in
set_option maxHeartbeats 1000000 in
theorem apply_16_hi (a x y : Int) (w : World) (hy : ((wid a : Nat) : Int) ≤ y % 2 ^ wid a) :
    Calls Try.prog 11 #[.int .i64 16, .int .i64 a, .int .u64 x, .int .u64 y] w fun e w' => e = .returned (.int .u64 (opI 16 (wid a) (x % 2 ^ wid a) (y % 2 ^ wid a))) ∧ Below w.heap.size w w' := by
  have hww := wid_wid a
  have hb := wid_bd a
  have bx := (cut_lt a x).1
  have bxM := (cut_lt a x).2.1
  have bx2 := Lib.hid (cut_lt a x).2.2
  have by1 := (cut_lt a y).1
  have byM := (cut_lt a y).2.1
  go_enter Try.func11, Try.ntmps11
  repeat (first | with_reducible refine xThenN ?_ | with_reducible refine xThenE ?_ | with_reducible refine xThenR ?_ | with_reducible refine xThenP ?_ | with_reducible refine xBlockEq ?_ | with_reducible refine xBlockNe rfl ?_ | with_reducible refine xBlockN ?_ | with_reducible refine xBlockR ?_ | with_reducible refine xBlockP ?_ | (go_at_call 27; with_reducible refine (shift_hi _ _ _ _ _ (by omega) (by omega) hy).mono ?_; rintro e w1 ⟨rfl, rfl⟩) | (go_at_call 25; with_reducible refine (width_any _ _).mono ?_; rintro e w1 ⟨rfl, rfl⟩) | (go_at_call 14; with_reducible refine (cut_any _ _ _).mono ?_; rintro e w1 ⟨rfl, rfl⟩) | (go_at_call 26; with_reducible refine (parts_any _ _ _ _ (by assumption) bx2 (by assumption)).mono ?_; rintro e w1 ⟨rfl, nq, rfl⟩) | (go_at_call 31; with_reducible refine (flag_any _ _).mono ?_; rintro e w1 ⟨rfl, rfl⟩) | (go_at_call 18; with_reducible refine (sign_any _ _ _).mono ?_; rintro e w1 ⟨rfl, rfl⟩) | go_values | go_skip | go_guarded | go_step | go_upon | go_back | (dsimp only))
  go_ret
  refine ⟨ret_int (by rw [hww]; exact m_16hi by1 hy), ?_⟩
  (repeat (first | with_reducible exact Below.refl _ _ | assumption | with_reducible refine below_drewN ?_ _ | with_reducible refine Below.alloc ?_ ?_ _ | with_reducible refine Below.setCell ?_ ?_ _ | with_reducible exact Nat.le_refl _ | (simp; done) | (simp; omega) | omega))

set_option maxRecDepth 100000 in
set_option maxHeartbeats 1000000 in
theorem apply_16_lo (a x y : Int) (w : World) (hy : y % 2 ^ wid a < ((wid a : Nat) : Int)) :
    Calls Try.prog 11 #[.int .i64 16, .int .i64 a, .int .u64 x, .int .u64 y] w fun e w' => e = .returned (.int .u64 (opI 16 (wid a) (x % 2 ^ wid a) (y % 2 ^ wid a))) ∧ Below w.heap.size w w' := by
  have hww := wid_wid a
  have hb := wid_bd a
  have bx := (cut_lt a x).1
  have bxM := (cut_lt a x).2.1
  have bx2 := Lib.hid (cut_lt a x).2.2
  have by1 := (cut_lt a y).1
  have byM := (cut_lt a y).2.1
  go_enter Try.func11, Try.ntmps11
  repeat (first | with_reducible refine xThenN ?_ | with_reducible refine xThenE ?_ | with_reducible refine xThenR ?_ | with_reducible refine xThenP ?_ | with_reducible refine xBlockEq ?_ | with_reducible refine xBlockNe rfl ?_ | with_reducible refine xBlockN ?_ | with_reducible refine xBlockR ?_ | with_reducible refine xBlockP ?_ | (go_at_call 27; with_reducible refine (shift_lo _ _ _ 28 _ _ _ (by omega) (by omega) hy (by omega) (shl_any _ (x % 2 ^ wid a) _ _ (by simp) by1 (by omega))).mono ?_; rintro e w1 ⟨rfl, rfl⟩) | (go_at_call 25; with_reducible refine (width_any _ _).mono ?_; rintro e w1 ⟨rfl, rfl⟩) | (go_at_call 14; with_reducible refine (cut_any _ _ _).mono ?_; rintro e w1 ⟨rfl, rfl⟩) | (go_at_call 26; with_reducible refine (parts_any _ _ _ _ (by assumption) bx2 (by assumption)).mono ?_; rintro e w1 ⟨rfl, nq, rfl⟩) | (go_at_call 31; with_reducible refine (flag_any _ _).mono ?_; rintro e w1 ⟨rfl, rfl⟩) | (go_at_call 18; with_reducible refine (sign_any _ _ _).mono ?_; rintro e w1 ⟨rfl, rfl⟩) | go_values | go_skip | go_guarded | go_step | go_upon | go_back | (dsimp only))
  go_ret
  refine ⟨ret_int (by rw [hww]; exact wrap_mod _ hb.2), ?_⟩
  (repeat (first | with_reducible exact Below.refl _ _ | assumption | with_reducible refine below_drewN ?_ _ | with_reducible refine Below.alloc ?_ ?_ _ | with_reducible refine Below.setCell ?_ ?_ _ | with_reducible exact Nat.le_refl _ | (simp; done) | (simp; omega) | omega))

set_option maxRecDepth 100000 in
set_option maxHeartbeats 1000000 in
theorem apply_17_hi (a x y : Int) (w : World) (hy : ((wid a : Nat) : Int) ≤ y % 2 ^ wid a) :
    Calls Try.prog 11 #[.int .i64 17, .int .i64 a, .int .u64 x, .int .u64 y] w fun e w' => e = .returned (.int .u64 (opI 17 (wid a) (x % 2 ^ wid a) (y % 2 ^ wid a))) ∧ Below w.heap.size w w' := by
  have hww := wid_wid a
  have hb := wid_bd a
  have bx := (cut_lt a x).1
  have bxM := (cut_lt a x).2.1
  have bx2 := Lib.hid (cut_lt a x).2.2
  have by1 := (cut_lt a y).1
  have byM := (cut_lt a y).2.1
  go_enter Try.func11, Try.ntmps11
  repeat (first | with_reducible refine xThenN ?_ | with_reducible refine xThenE ?_ | with_reducible refine xThenR ?_ | with_reducible refine xThenP ?_ | with_reducible refine xBlockEq ?_ | with_reducible refine xBlockNe rfl ?_ | with_reducible refine xBlockN ?_ | with_reducible refine xBlockR ?_ | with_reducible refine xBlockP ?_ | (go_at_call 27; with_reducible refine (shift_hi _ _ _ _ _ (by omega) (by omega) hy).mono ?_; rintro e w1 ⟨rfl, rfl⟩) | (go_at_call 25; with_reducible refine (width_any _ _).mono ?_; rintro e w1 ⟨rfl, rfl⟩) | (go_at_call 14; with_reducible refine (cut_any _ _ _).mono ?_; rintro e w1 ⟨rfl, rfl⟩) | (go_at_call 26; with_reducible refine (parts_any _ _ _ _ (by assumption) bx2 (by assumption)).mono ?_; rintro e w1 ⟨rfl, nq, rfl⟩) | (go_at_call 31; with_reducible refine (flag_any _ _).mono ?_; rintro e w1 ⟨rfl, rfl⟩) | (go_at_call 18; with_reducible refine (sign_any _ _ _).mono ?_; rintro e w1 ⟨rfl, rfl⟩) | go_values | go_skip | go_guarded | go_step | go_upon | go_back | (dsimp only))
  go_ret
  refine ⟨ret_int (by rw [hww]; exact m_17hi bx bxM by1 hy), ?_⟩
  (repeat (first | with_reducible exact Below.refl _ _ | assumption | with_reducible refine below_drewN ?_ _ | with_reducible refine Below.alloc ?_ ?_ _ | with_reducible refine Below.setCell ?_ ?_ _ | with_reducible exact Nat.le_refl _ | (simp; done) | (simp; omega) | omega))

set_option maxRecDepth 100000 in
set_option maxHeartbeats 1000000 in
theorem apply_17_lo (a x y : Int) (w : World) (hy : y % 2 ^ wid a < ((wid a : Nat) : Int)) :
    Calls Try.prog 11 #[.int .i64 17, .int .i64 a, .int .u64 x, .int .u64 y] w fun e w' => e = .returned (.int .u64 (opI 17 (wid a) (x % 2 ^ wid a) (y % 2 ^ wid a))) ∧ Below w.heap.size w w' := by
  have hww := wid_wid a
  have hb := wid_bd a
  have bx := (cut_lt a x).1
  have bxM := (cut_lt a x).2.1
  have bx2 := Lib.hid (cut_lt a x).2.2
  have by1 := (cut_lt a y).1
  have byM := (cut_lt a y).2.1
  go_enter Try.func11, Try.ntmps11
  repeat (first | with_reducible refine xThenN ?_ | with_reducible refine xThenE ?_ | with_reducible refine xThenR ?_ | with_reducible refine xThenP ?_ | with_reducible refine xBlockEq ?_ | with_reducible refine xBlockNe rfl ?_ | with_reducible refine xBlockN ?_ | with_reducible refine xBlockR ?_ | with_reducible refine xBlockP ?_ | (go_at_call 27; with_reducible refine (shift_lo _ _ _ 29 _ _ _ (by omega) (by omega) hy (by omega) (shr_any _ (x % 2 ^ wid a) _ _ (by simp) by1 (by omega))).mono ?_; rintro e w1 ⟨rfl, rfl⟩) | (go_at_call 25; with_reducible refine (width_any _ _).mono ?_; rintro e w1 ⟨rfl, rfl⟩) | (go_at_call 14; with_reducible refine (cut_any _ _ _).mono ?_; rintro e w1 ⟨rfl, rfl⟩) | (go_at_call 26; with_reducible refine (parts_any _ _ _ _ (by assumption) bx2 (by assumption)).mono ?_; rintro e w1 ⟨rfl, nq, rfl⟩) | (go_at_call 31; with_reducible refine (flag_any _ _).mono ?_; rintro e w1 ⟨rfl, rfl⟩) | (go_at_call 18; with_reducible refine (sign_any _ _ _).mono ?_; rintro e w1 ⟨rfl, rfl⟩) | go_values | go_skip | go_guarded | go_step | go_upon | go_back | (dsimp only))
  go_ret
  refine ⟨ret_int (by rw [hww]; exact m_17lo bx bxM), ?_⟩
  (repeat (first | with_reducible exact Below.refl _ _ | assumption | with_reducible refine below_drewN ?_ _ | with_reducible refine Below.alloc ?_ ?_ _ | with_reducible refine Below.setCell ?_ ?_ _ | with_reducible exact Nat.le_refl _ | (simp; done) | (simp; omega) | omega))

set_option maxRecDepth 100000 in
set_option maxHeartbeats 1000000 in
theorem apply_18_hi (a x y : Int) (w : World) (hy : ((wid a : Nat) : Int) ≤ y % 2 ^ wid a) :
    Calls Try.prog 11 #[.int .i64 18, .int .i64 a, .int .u64 x, .int .u64 y] w fun e w' => e = .returned (.int .u64 (opI 18 (wid a) (x % 2 ^ wid a) (y % 2 ^ wid a))) ∧ Below w.heap.size w w' := by
  have hww := wid_wid a
  have hb := wid_bd a
  have bx := (cut_lt a x).1
  have bxM := (cut_lt a x).2.1
  have bx2 := Lib.hid (cut_lt a x).2.2
  have by1 := (cut_lt a y).1
  have byM := (cut_lt a y).2.1
  go_enter Try.func11, Try.ntmps11
  repeat (first | with_reducible refine xThenN ?_ | with_reducible refine xThenE ?_ | with_reducible refine xThenR ?_ | with_reducible refine xThenP ?_ | with_reducible refine xBlockEq ?_ | with_reducible refine xBlockNe rfl ?_ | with_reducible refine xBlockN ?_ | with_reducible refine xBlockR ?_ | with_reducible refine xBlockP ?_ | (go_at_call 27; with_reducible refine (shift_hi _ _ _ _ _ (by omega) (by omega) hy).mono ?_; rintro e w1 ⟨rfl, rfl⟩) | (go_at_call 25; with_reducible refine (width_any _ _).mono ?_; rintro e w1 ⟨rfl, rfl⟩) | (go_at_call 14; with_reducible refine (cut_any _ _ _).mono ?_; rintro e w1 ⟨rfl, rfl⟩) | (go_at_call 26; with_reducible refine (parts_any _ _ _ _ (by assumption) bx2 (by assumption)).mono ?_; rintro e w1 ⟨rfl, nq, rfl⟩) | (go_at_call 31; with_reducible refine (flag_any _ _).mono ?_; rintro e w1 ⟨rfl, rfl⟩) | (go_at_call 18; with_reducible refine (sign_any _ _ _).mono ?_; rintro e w1 ⟨rfl, rfl⟩) | go_values | go_skip | go_guarded | go_step | go_upon | go_back | (dsimp only))
  go_ret
  refine ⟨ret_int (by rw [hww]; exact m_18hi hb _ _ hy), ?_⟩
  (repeat (first | with_reducible exact Below.refl _ _ | assumption | with_reducible refine below_drewN ?_ _ | with_reducible refine Below.alloc ?_ ?_ _ | with_reducible refine Below.setCell ?_ ?_ _ | with_reducible exact Nat.le_refl _ | (simp; done) | (simp; omega) | omega))

set_option maxRecDepth 100000 in
set_option maxHeartbeats 1000000 in
theorem apply_18_lo (a x y : Int) (w : World) (hy : y % 2 ^ wid a < ((wid a : Nat) : Int)) :
    Calls Try.prog 11 #[.int .i64 18, .int .i64 a, .int .u64 x, .int .u64 y] w fun e w' => e = .returned (.int .u64 (opI 18 (wid a) (x % 2 ^ wid a) (y % 2 ^ wid a))) ∧ Below w.heap.size w w' := by
  have hww := wid_wid a
  have hb := wid_bd a
  have bx := (cut_lt a x).1
  have bxM := (cut_lt a x).2.1
  have bx2 := Lib.hid (cut_lt a x).2.2
  have by1 := (cut_lt a y).1
  have byM := (cut_lt a y).2.1
  go_enter Try.func11, Try.ntmps11
  repeat (first | with_reducible refine xThenN ?_ | with_reducible refine xThenE ?_ | with_reducible refine xThenR ?_ | with_reducible refine xThenP ?_ | with_reducible refine xBlockEq ?_ | with_reducible refine xBlockNe rfl ?_ | with_reducible refine xBlockN ?_ | with_reducible refine xBlockR ?_ | with_reducible refine xBlockP ?_ | (go_at_call 27; with_reducible refine (shift_lo _ _ _ 30 _ _ _ (by omega) (by omega) hy (by omega) (sar_any _ (sgI (wid a) (x % 2 ^ wid a)) _ _ (by first | (simp; done) | go_simp) by1 (by omega))).mono ?_; rintro e w1 ⟨rfl, rfl⟩) | (go_at_call 25; with_reducible refine (width_any _ _).mono ?_; rintro e w1 ⟨rfl, rfl⟩) | (go_at_call 14; with_reducible refine (cut_any _ _ _).mono ?_; rintro e w1 ⟨rfl, rfl⟩) | (go_at_call 26; with_reducible refine (parts_any _ _ _ _ (by assumption) bx2 (by assumption)).mono ?_; rintro e w1 ⟨rfl, nq, rfl⟩) | (go_at_call 31; with_reducible refine (flag_any _ _).mono ?_; rintro e w1 ⟨rfl, rfl⟩) | (go_at_call 18; with_reducible refine (sign_any _ _ _).mono ?_; rintro e w1 ⟨rfl, rfl⟩) | go_values | go_skip | go_guarded | go_step | go_upon | go_back | (dsimp only))
  go_ret
  refine ⟨ret_int (by rw [hww]; exact wrap_mod _ hb.2), ?_⟩
  (repeat (first | with_reducible exact Below.refl _ _ | assumption | with_reducible refine below_drewN ?_ _ | with_reducible refine Below.alloc ?_ ?_ _ | with_reducible refine Below.setCell ?_ ?_ _ | with_reducible exact Nat.le_refl _ | (simp; done) | (simp; omega) | omega))
end Go.Proofs.Ytafjllfmagmhbaa
