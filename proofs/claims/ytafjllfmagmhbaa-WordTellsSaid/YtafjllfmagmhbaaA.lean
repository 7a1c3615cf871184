import Derived.Test.YtafjllfmagmhbaaProg
import Derived.Test.YtafjllfmagmhbaaM
import Derived.WalkKit
import Derived.WalkSpells
import Derived.WalkLawsBesides
import Derived.Lib.Hide
import Derived.Deep.QuietTactic
import Derived.BigQuiet
import Derived.Deep.RegionHeld3
import Derived.StillTailTactics
import Derived.Deep.DeepCutAuto
import Derived.Deep.DeepFit
namespace Go.Proofs.Ytafjllfmagmhbaa
open Go.RowKit

theorem ret_int {k : IntKind} {a b : Int} (h : a = b) : Ending.returned (.int k a) = .returned (.int k b) := by rw [h]

set_option maxHeartbeats 400000 in
theorem width_any (a : Int) (w : World) :
    Calls Try.prog 25 #[.int .i64 a] w fun e w' => e = .returned (.int .i64 (wid a : Nat)) ∧ w = w' := by
  go_enter Try.func25, Try.ntmps25
  go_wp2
  all_goals
    go_ret
    refine ⟨ret_int ?_, rfl⟩
    unfold wid
    (repeat' split at *) <;> omega

set_option maxHeartbeats 400000 in
theorem flag_any (b : Bool) (w : World) :
    Calls Try.prog 31 #[.bool b] w fun e w' => e = .returned (.int .u64 (if b then 1 else 0)) ∧ w = w' := by
  cases b
  all_goals
    go_enter Try.func31, Try.ntmps31
    go_wp2
    go_ret
    exact ⟨rfl, rfl⟩

set_option maxHeartbeats 400000 in
theorem mask_any (a : Int) (w : World) :
    Calls Try.prog 13 #[.int .i64 a] w fun e w' => e = .returned (.int .u64 (maskI a)) ∧ w = w' := by
  have hb := wid_bd a
  go_enter Try.func13, Try.ntmps13
  go_wp2_with (go_at_call 25; with_reducible refine (width_any _ _).mono ?_; rintro e w1 ⟨rfl, rfl⟩)
  go_ret
  exact ⟨ret_int (mask_m a), rfl⟩

set_option maxHeartbeats 400000 in
theorem cut_any (a x : Int) (w : World) :
    Calls Try.prog 14 #[.int .i64 a, .int .u64 x] w fun e w' => e = .returned (.int .u64 (x % 2 ^ wid a)) ∧ w = w' := by
  have hb := wid_bd a
  go_enter Try.func14, Try.ntmps14
  go_wp2_with (go_at_call 13; with_reducible refine (mask_any _ _).mono ?_; rintro e w1 ⟨rfl, rfl⟩)
  go_ret
  exact ⟨ret_int (cut_m a x), rfl⟩

set_option maxHeartbeats 400000 in
theorem sign_any (a x : Int) (w : World) :
    Calls Try.prog 18 #[.int .i64 a, .int .u64 x] w fun e w' => e = .returned (.int .i64 (sgI (wid a) x)) ∧ w = w' := by
  have hb := wid_bd a
  go_enter Try.func18, Try.ntmps18
  go_wp2_with (go_at_call 25; with_reducible refine (width_any _ _).mono ?_; rintro e w1 ⟨rfl, rfl⟩)
  go_ret
  exact ⟨ret_int (sign_m a x), rfl⟩

set_option maxHeartbeats 400000 in
theorem parts_zero (a x : Int) (w : World) :
    Calls Try.prog 26 #[.int .i64 a, .int .u64 x, .int .u64 0] w fun e w' => e = .returned (.tuple #[.int .u64 (maskI a), .int .u64 x]) ∧ w = w' := by
  go_enter Try.func26, Try.ntmps26
  go_wp2_with (go_at_call 13; with_reducible refine (mask_any _ _).mono ?_; rintro e w1 ⟨rfl, rfl⟩)
  go_ret2
  exact ⟨rfl, rfl⟩

theorem quo_m {x y : Int} (hx : 0 ≤ x) (hx2 : x < 18446744073709551616) (hy : 0 < y) : IntKind.u64.wrap (x.tdiv y) = x / y := by
  rw [IntKind.wrap_u64, Int.tdiv_eq_ediv_of_nonneg hx]
  have h1 := Int.ediv_nonneg hx (Int.le_of_lt hy)
  have h2 : x / y ≤ x := Int.ediv_le_self _ hx
  omega

theorem ret_two {a b c d : Value} (h : a = c) (h2 : b = d) : Ending.returned (.tuple #[a, b]) = .returned (.tuple #[c, d]) := by rw [h, h2]
theorem int_eq {k : IntKind} {a b : Int} (h : a = b) : Value.int k a = .int k b := by rw [h]

set_option maxHeartbeats 400000 in
theorem parts_pos (a x y : Int) (w : World) (hx : 0 ≤ x) (hx2 : Hid (x < 18446744073709551616)) (hy : 0 < y) :
    Calls Try.prog 26 #[.int .i64 a, .int .u64 x, .int .u64 y] w fun e w' => e = .returned (.tuple #[.int .u64 (x / y), .int .u64 (x % y)]) ∧ ∃ n, w' = w.drewN n := by
  have h0 : (y == 0) = false := by simp; omega
  have h1 : ¬ y = 0 := by omega
  go_enter Try.func26, Try.ntmps26
  go_wp2
  go_quiet (fail)
  go_wp2
  go_ret2
  exact ⟨ret_two (int_eq (quo_m hx hx2.out hy)) rfl, _, rfl⟩

theorem parts_any (a x y : Int) (w : World) (hx : 0 ≤ x) (hx2 : Hid (x < 18446744073709551616)) (hy : 0 ≤ y) :
    Calls Try.prog 26 #[.int .i64 a, .int .u64 x, .int .u64 y] w fun e w' => e = .returned (.tuple #[.int .u64 (quoI a x y), .int .u64 (x % y)]) ∧ ∃ n, w' = w.drewN n := by
  by_cases h : y = 0
  · subst h
    refine (parts_zero a x w).mono ?_
    rintro e w1 ⟨rfl, rfl⟩
    exact ⟨ret_two (int_eq (by simp [quoI])) (int_eq (by simp)), 0, rfl⟩
  · refine (parts_pos a x y w hx hx2 (by omega)).mono ?_
    rintro e w1 ⟨rfl, hn⟩
    exact ⟨ret_two (int_eq (by simp [quoI, h])) rfl, hn⟩

set_option maxHeartbeats 400000 in
theorem shift_hi (n y i : Int) (f : Value) (w : World) (h0 : 1 ≤ n) (h1 : n ≤ 64) (hy : n ≤ y) :
    Calls Try.prog 27 #[.int .i64 n, .int .u64 y, .int .u64 i, f] w fun e w' => e = .returned (.int .u64 i) ∧ w = w' := by
  go_enter Try.func27, Try.ntmps27
  go_wp2
  go_ret
  exact ⟨rfl, rfl⟩

set_option maxHeartbeats 400000 in
theorem shift_lo (n y i : Int) (k : Nat) (b : Nat) (w : World) (r : Int) (h0 : 1 ≤ n) (h1 : n ≤ 64) (hy : y < n) (hk : k = 28 ∨ k = 29 ∨ k = 30)
    (hf : Calls Try.prog k #[.int .u64 y, .pointer (some ⟨b, 0, none⟩)] w fun e w' => e = .returned (.int .u64 r) ∧ w = w') :
    Calls Try.prog 27 #[.int .i64 n, .int .u64 y, .int .u64 i, .func (.func k) #[] #[.pointer (some ⟨b, 0, none⟩)]] w fun e w' => e = .returned (.int .u64 r) ∧ w = w' := by
  have H := Lib.hid hf; clear hf
  rcases hk with rfl | rfl | rfl
  all_goals
    go_enter Try.func27, Try.ntmps27
    go_wp2_with fail
    refine H.out.mono ?_
    rintro e w1 ⟨rfl, rfl⟩
    go_wp2
    go_ret
    exact ⟨rfl, rfl⟩

set_option maxHeartbeats 400000 in
theorem shl_any (b : Nat) (x y : Int) (w : World) (hc : w.cell? ⟨b, 0, none⟩ = some (.int .u64 x)) (h0 : 0 ≤ y) (h1 : y < 64) :
    Calls Try.prog 28 #[.int .u64 y, .pointer (some ⟨b, 0, none⟩)] w fun e w' => e = .returned (.int .u64 (IntKind.u64.wrap (x * 2 ^ y.toNat))) ∧ w = w' := by
  go_enter Try.func28, Try.ntmps28
  go_wp2
  go_ret
  exact ⟨rfl, rfl⟩

set_option maxHeartbeats 400000 in
theorem shr_any (b : Nat) (x y : Int) (w : World) (hc : w.cell? ⟨b, 0, none⟩ = some (.int .u64 x)) (h0 : 0 ≤ y) (h1 : y < 64) :
    Calls Try.prog 29 #[.int .u64 y, .pointer (some ⟨b, 0, none⟩)] w fun e w' => e = .returned (.int .u64 (x / 2 ^ y.toNat)) ∧ w = w' := by
  go_enter Try.func29, Try.ntmps29
  go_wp2
  go_ret
  exact ⟨rfl, rfl⟩

set_option maxHeartbeats 400000 in
theorem sar_any (b : Nat) (x y : Int) (w : World) (hc : w.cell? ⟨b, 0, none⟩ = some (.int .i64 x)) (h0 : 0 ≤ y) (h1 : y < 64) :
    Calls Try.prog 30 #[.int .u64 y, .pointer (some ⟨b, 0, none⟩)] w fun e w' => e = .returned (.int .u64 (IntKind.u64.wrap (x / 2 ^ y.toNat))) ∧ w = w' := by
  go_enter Try.func30, Try.ntmps30
  go_wp2
  go_ret
  exact ⟨rfl, rfl⟩

end Go.Proofs.Ytafjllfmagmhbaa
