import Derived.Test.YtafjllfmagmhbaaB
namespace Go.Proofs.Ytafjllfmagmhbaa
open Go.RowKit

set_option maxRecDepth 100000 in
set_option maxHeartbeats 1000000 in
theorem apply_else (op a x y : Int) (w : World) (h5 : (op == 5) = false) (h8 : (op == 8) = false) (h9 : (op == 9) = false) (h10 : (op == 10) = false) (h11 : (op == 11) = false)
    (h12 : (op == 12) = false) (h13 : (op == 13) = false) (h14 : (op == 14) = false) (h15 : (op == 15) = false) (h16 : (op == 16) = false) (h17 : (op == 17) = false)
    (h18 : (op == 18) = false) (h19 : (op == 19) = false) (h20 : (op == 20) = false) (h21 : (op == 21) = false) :
    Calls Try.prog 11 #[.int .i64 op, .int .i64 a, .int .u64 x, .int .u64 y] w fun e w' => e = .returned (.int .u64 (opI op (wid a) (x % 2 ^ wid a) (y % 2 ^ wid a))) ∧ Below w.heap.size w w' := by
  have hww := wid_wid a
  have hb := wid_bd a
  have bx := (cut_lt a x).1
  have bxM := (cut_lt a x).2.1
  have bx2 := Lib.hid (cut_lt a x).2.2
  have by1 := (cut_lt a y).1
  have byM := (cut_lt a y).2.1
  have hfin : opI op (wid a) (x % 2 ^ wid a) (y % 2 ^ wid a) = 0 := by
    simp only [beq_eq_false_iff_ne, ne_eq] at *
    simp only [opI, if_neg, *, not_false_eq_true]
  have H := Lib.hid hfin; clear hfin
  go_enter Try.func11, Try.ntmps11
  repeat (first | with_reducible refine xThenN ?_ | with_reducible refine xThenE ?_ | with_reducible refine xThenR ?_ | with_reducible refine xThenP ?_ | with_reducible refine xBlockEq ?_ | with_reducible refine xBlockNe rfl ?_ | with_reducible refine xBlockN ?_ | with_reducible refine xBlockR ?_ | with_reducible refine xBlockP ?_ | (go_at_call 25; with_reducible refine (width_any _ _).mono ?_; rintro e w1 ⟨rfl, rfl⟩) | (go_at_call 14; with_reducible refine (cut_any _ _ _).mono ?_; rintro e w1 ⟨rfl, rfl⟩) | (go_at_call 26; with_reducible refine (parts_any _ _ _ _ (by assumption) bx2 (by assumption)).mono ?_; rintro e w1 ⟨rfl, nq, rfl⟩) | (go_at_call 31; with_reducible refine (flag_any _ _).mono ?_; rintro e w1 ⟨rfl, rfl⟩) | (go_at_call 18; with_reducible refine (sign_any _ _ _).mono ?_; rintro e w1 ⟨rfl, rfl⟩) | go_values | go_skip | go_guarded | go_step | go_upon | go_back | (dsimp only))
  go_ret
  refine ⟨ret_int (by rw [H.out]; simp), ?_⟩
  (repeat (first | with_reducible exact Below.refl _ _ | assumption | with_reducible refine below_drewN ?_ _ | with_reducible refine Below.alloc ?_ ?_ _ | with_reducible refine Below.setCell ?_ ?_ _ | with_reducible exact Nat.le_refl _ | (simp; done) | (simp; omega) | omega))

/-- an operation, of numbers as they come -/
def AP (op a x y : Int) : Int := opI op (wid a) (x % 2 ^ wid a) (y % 2 ^ wid a)

theorem apply_any (op a x y : Int) (w : World) :
    Calls Try.prog 11 #[.int .i64 op, .int .i64 a, .int .u64 x, .int .u64 y] w fun e w' => e = .returned (.int .u64 (AP op a x y)) ∧ Below w.heap.size w w' := by
  show Calls Try.prog 11 #[.int .i64 op, .int .i64 a, .int .u64 x, .int .u64 y] w fun e w' => e = .returned (.int .u64 (opI op (wid a) (x % 2 ^ wid a) (y % 2 ^ wid a))) ∧ Below w.heap.size w w'
  by_cases h5 : op = 5
  · subst h5; exact apply_5 a x y w
  by_cases h8 : op = 8
  · subst h8; exact apply_8 a x y w
  by_cases h9 : op = 9
  · subst h9; exact apply_9 a x y w
  by_cases h10 : op = 10
  · subst h10; exact apply_10 a x y w
  by_cases h11 : op = 11
  · subst h11; exact apply_11 a x y w
  by_cases h12 : op = 12
  · subst h12; exact apply_12 a x y w
  by_cases h13 : op = 13
  · subst h13; exact apply_13 a x y w
  by_cases h14 : op = 14
  · subst h14; exact apply_14 a x y w
  by_cases h15 : op = 15
  · subst h15; exact apply_15 a x y w
  by_cases h16 : op = 16
  · subst h16
    rcases Int.lt_or_le (y % 2 ^ wid a) ((wid a : Nat) : Int) with h | h
    · exact apply_16_lo a x y w h
    · exact apply_16_hi a x y w h
  by_cases h17 : op = 17
  · subst h17
    rcases Int.lt_or_le (y % 2 ^ wid a) ((wid a : Nat) : Int) with h | h
    · exact apply_17_lo a x y w h
    · exact apply_17_hi a x y w h
  by_cases h18 : op = 18
  · subst h18
    rcases Int.lt_or_le (y % 2 ^ wid a) ((wid a : Nat) : Int) with h | h
    · exact apply_18_lo a x y w h
    · exact apply_18_hi a x y w h
  by_cases h19 : op = 19
  · subst h19; exact apply_19 a x y w
  by_cases h20 : op = 20
  · subst h20; exact apply_20 a x y w
  by_cases h21 : op = 21
  · subst h21; exact apply_21 a x y w
  refine apply_else op a x y w ?_ ?_ ?_ ?_ ?_ ?_ ?_ ?_ ?_ ?_ ?_ ?_ ?_ ?_ ?_ <;> (simp only [beq_eq_false_iff_ne, ne_eq]; assumption)

theorem awk1 : (AP 8 8 200 100 == 44) = true := by decide +kernel
theorem awk2 : (AP 9 8 200 100 == 100) = true := by decide +kernel
theorem awk3 : (AP 11 8 200 100 == 2) = true := by decide +kernel
theorem awk4 : (AP 18 8 200 4 == 252) = true := by decide +kernel
theorem awk5 : (sgI (wid 8) 200 == -56) = true := by decide +kernel
theorem awk6 : (maskI 8 == 255) = true := by decide +kernel
theorem awk7 : ((300 : Int) % 2 ^ wid 8 == 44) = true := by decide +kernel

set_option maxHeartbeats 1000000 in
theorem awake_any (w : World) : Calls Try.prog 9 #[] w fun e w' => e = .returned (.bool true) ∧ Below w.heap.size w w' := by
  have k1 := awk1
  have k2 := awk2
  have k3 := awk3
  have k4 := awk4
  have k5 := awk5
  have k6 := awk6
  have k7 := awk7
  have HB := Below.refl w.heap.size w
  go_enter Try.func9, Try.ntmps9
  repeat (first | with_reducible refine xThenN ?_ | with_reducible refine xThenE ?_ | with_reducible refine xThenR ?_ | with_reducible refine xThenP ?_ | with_reducible refine xBlockEq ?_ | with_reducible refine xBlockNe rfl ?_ | with_reducible refine xBlockN ?_ | with_reducible refine xBlockR ?_ | with_reducible refine xBlockP ?_ | (go_at_call 11; with_reducible refine (apply_any _ _ _ _ _).mono ?_; rintro e w1 ⟨rfl, hb⟩; replace HB := HB.trans (hb.mono HB.size); clear hb) | (go_at_call 14; with_reducible refine (cut_any _ _ _).mono ?_; rintro e w1 ⟨rfl, rfl⟩) | (go_at_call 13; with_reducible refine (mask_any _ _).mono ?_; rintro e w1 ⟨rfl, rfl⟩) | (go_at_call 18; with_reducible refine (sign_any _ _ _).mono ?_; rintro e w1 ⟨rfl, rfl⟩) | go_values | go_skip | go_guarded | go_step | go_upon | go_back | (dsimp only))
  all_goals trace_state
  go_ret
  exact ⟨rfl, HB⟩

end Go.Proofs.Ytafjllfmagmhbaa
