import Derived.Test.YtafjllfmagmhbaaE
namespace Go.Proofs.Ytafjllfmagmhbaa
open Go.RowKit

theorem emod_le' {z M : Int} (h : 0 ≤ z) (hM : 0 < M) : z % M ≤ z := by
  have h1 := Int.mul_ediv_add_emod z M
  have h2 := Int.mul_nonneg (Int.le_of_lt hM) (Int.ediv_nonneg h (Int.le_of_lt hM))
  omega
theorem int_eq' {k : IntKind} {a b : Int} (h : a = b) : Value.int k a = .int k b := by rw [h]
theorem shU_zero (a x : Int) : x % 2 ^ wid a = shU a x 0 := by unfold shU; rw [Int.pow_zero, Int.mul_one, Int.emod_emod]
theorem shD_zero (a x : Int) : x % 2 ^ wid a = shD a x 0 := by unfold shD; rw [Int.pow_zero, Int.ediv_one]
theorem shS_zero (a x : Int) : sgI (wid a) x = shS a x 0 := by unfold shS; rw [Int.pow_zero, Int.ediv_one]

set_option maxRecDepth 100000 in
set_option maxHeartbeats 2000000 in
theorem shifts_walk (a x b : Int) (w : World) (hb0 : 0 ≤ b) (hb1 : b ≤ 255) :
    Calls Try.prog 6 #[.int .i64 a, .int .u64 x, .int .u8 b] w fun e w' => e = .returned (.bool true) ∧ Below w.heap.size w w' := by
  have HB := Below.refl w.heap.size w
  have n0 : 0 ≤ b % 64 % 2 ^ wid a := (cut_lt a (b % 64)).1
  have n1 : b % 64 % 2 ^ wid a < 64 := Int.lt_of_le_of_lt (emod_le' (by omega) (Int.pow_pos (by decide))) (show b % 64 < 64 by omega)
  go_enter Try.func6, Try.ntmps6
  (repeat (first | with_reducible refine xThenN ?_ | with_reducible refine xThenE ?_ | with_reducible refine xThenR ?_ | with_reducible refine xThenP ?_ | with_reducible refine xBlockEq ?_ | with_reducible refine xBlockNe rfl ?_ | with_reducible refine xBlockN ?_ | with_reducible refine xBlockR ?_ | with_reducible refine xBlockP ?_ | (go_at_call 9; with_reducible refine (awake_any _).mono ?_; rintro e w1 ⟨rfl, hb⟩; replace HB := HB.trans (hb.mono HB.size); clear hb) | (go_at_call 11; with_reducible refine (apply_any _ _ _ _ _).mono ?_; rintro e w1 ⟨rfl, hb⟩; replace HB := HB.trans (hb.mono HB.size); clear hb) | (go_at_call 14; with_reducible refine (cut_any _ _ _).mono ?_; rintro e w1 ⟨rfl, rfl⟩) | (go_at_call 13; with_reducible refine (mask_any _ _).mono ?_; rintro e w1 ⟨rfl, rfl⟩) | (go_at_call 18; with_reducible refine (sign_any _ _ _).mono ?_; rintro e w1 ⟨rfl, rfl⟩) | go_values | go_skip | go_guarded | go_step | go_upon | go_back | (dsimp only)))
  go_loopw [9, 10, 11, 12] (fun u d s i wr => ∃ k : Nat, (k : Int) ≤ b % 64 % 2 ^ wid a ∧ u = .int .u64 (shU a x k) ∧ d = .int .u64 (shD a x k) ∧ s = .int .i64 (shS a x k) ∧ i = .int .u64 k ∧ Below w.heap.size w wr) (fun _ _ _ i _ => (b % 64 % 2 ^ wid a - intOf i).toNat)
  case atStart => exact ⟨0, n0, int_eq' (shU_zero a x), int_eq' (shD_zero a x), int_eq' (shS_zero a x), rfl, HB⟩
  case round =>
    clear HB
    obtain ⟨k, hk, rfl, rfl, rfl, rfl, HB⟩ := hrel
    by_cases hlt : (k : Int) < b % 64 % 2 ^ wid a
    · have e1 := shU_succ a x k
      have e2 := shD_succ a x k
      have e3 := shS_succ a x k
      (repeat (first | with_reducible refine xThenN ?_ | with_reducible refine xThenE ?_ | with_reducible refine xThenR ?_ | with_reducible refine xThenP ?_ | with_reducible refine xBlockEq ?_ | with_reducible refine xBlockNe rfl ?_ | with_reducible refine xBlockN ?_ | with_reducible refine xBlockR ?_ | with_reducible refine xBlockP ?_ | (go_at_call 9; with_reducible refine (awake_any _).mono ?_; rintro e w1 ⟨rfl, hb⟩; replace HB := HB.trans (hb.mono HB.size); clear hb) | (go_at_call 11; with_reducible refine (apply_any _ _ _ _ _).mono ?_; rintro e w1 ⟨rfl, hb⟩; replace HB := HB.trans (hb.mono HB.size); clear hb) | (go_at_call 14; with_reducible refine (cut_any _ _ _).mono ?_; rintro e w1 ⟨rfl, rfl⟩) | (go_at_call 13; with_reducible refine (mask_any _ _).mono ?_; rintro e w1 ⟨rfl, rfl⟩) | (go_at_call 18; with_reducible refine (sign_any _ _ _).mono ?_; rintro e w1 ⟨rfl, rfl⟩) | go_values | go_skip | go_guarded | go_step | go_upon | go_back | (dsimp only)))
      exact ⟨⟨k + 1, by omega, int_eq' e1, rfl, rfl, by go_num, HB⟩, by simp [intOf]; omega⟩
    · have hkk : (k : Int) = b % 64 % 2 ^ wid a := by omega
      obtain ⟨e1, e2, e3⟩ := shifts_end a x (b % 64) k hkk
      (repeat (first | with_reducible refine xThenN ?_ | with_reducible refine xThenE ?_ | with_reducible refine xThenR ?_ | with_reducible refine xThenP ?_ | with_reducible refine xBlockEq ?_ | with_reducible refine xBlockNe rfl ?_ | with_reducible refine xBlockN ?_ | with_reducible refine xBlockR ?_ | with_reducible refine xBlockP ?_ | (go_at_call 9; with_reducible refine (awake_any _).mono ?_; rintro e w1 ⟨rfl, hb⟩; replace HB := HB.trans (hb.mono HB.size); clear hb) | (go_at_call 11; with_reducible refine (apply_any _ _ _ _ _).mono ?_; rintro e w1 ⟨rfl, hb⟩; replace HB := HB.trans (hb.mono HB.size); clear hb) | (go_at_call 14; with_reducible refine (cut_any _ _ _).mono ?_; rintro e w1 ⟨rfl, rfl⟩) | (go_at_call 13; with_reducible refine (mask_any _ _).mono ?_; rintro e w1 ⟨rfl, rfl⟩) | (go_at_call 18; with_reducible refine (sign_any _ _ _).mono ?_; rintro e w1 ⟨rfl, rfl⟩) | go_values | go_skip | go_guarded | go_step | go_upon | go_back | (dsimp only)))
      go_ret
      exact ⟨rfl, HB⟩

end Go.Proofs.Ytafjllfmagmhbaa
