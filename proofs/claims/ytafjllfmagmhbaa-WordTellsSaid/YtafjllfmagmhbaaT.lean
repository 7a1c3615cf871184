import Derived.Test.YtafjllfmagmhbaaS
set_option linter.unusedSimpArgs false
set_option linter.unusedVariables false
namespace Go.Proofs.Ytafjllfmagmhbaa
open Go.RowKit

theorem and_dec {p q : Prop} [Decidable p] [Decidable q] {b : Bool} (h : p ↔ q) : (decide p && b) = (decide q && b) := by
  rw [decide_eq_decide.2 h]

theorem up_bits (W x : Nat) (b : Bool) (j : Nat) : ((2 * x + b.toNat) % 2 ^ W).testBit j = (decide (j < W) && if j = 0 then b else x.testBit (j - 1)) := by
  rw [Nat.testBit_mod_two_pow]
  congr 1
  cases j with
  | zero => cases b <;> simp [Nat.testBit_zero] <;> omega
  | succ j =>
    rw [Nat.testBit_succ, if_neg (by omega), Nat.add_sub_cancel]
    congr 1
    have := Bool.toNat_le b
    have : b.toNat < 2 := by omega
    omega

set_option maxRecDepth 100000 in
set_option maxHeartbeats 1000000 in
theorem up_any (W x : Nat) (b : Bool) (w : World) (hW0 : 1 ≤ W) (hW : W ≤ 64) :
    Calls Try.prog 39 #[.int .i64 W, .agg (bw x), .bool b] w fun e w' => e = .returned (.agg (bw ((2 * x + b.toNat) % 2 ^ W))) ∧ Below w.heap.size w w' := by
  have hz := (zero_of_info zero29).1
  obtain ⟨V, rfl⟩ : ∃ V, W = V + 1 := ⟨W - 1, by omega⟩
  go_enter Try.func39, Try.ntmps39
  (repeat (first | with_reducible refine xThenN ?_ | with_reducible refine xThenE ?_ | with_reducible refine xThenR ?_ | with_reducible refine xThenP ?_ | with_reducible refine xBlockEq ?_ | with_reducible refine xBlockNe rfl ?_ | with_reducible refine xBlockN ?_ | with_reducible refine xBlockR ?_ | with_reducible refine xBlockP ?_ | go_values | go_skip | go_guarded | go_step | go_upon | go_back | (dsimp only)))
  go_loopw [8] (fun i wr => ∃ p m : Nat, p ≤ V ∧ Hid (∀ j, m.testBit j = (decide (p < j ∧ j < V + 1) && x.testBit (j - 1))) ∧ i = .int .i64 p ∧ wr = (((w.alloc (.cells (bw x) 29)).alloc (.cells (bw 0) 29)).alloc (.cells (bw m) 29))) (fun i _ => (intOf i).toNat)
  case atStart => exact ⟨V, 0, by omega, Lib.hid (fun j => by simp; omega), by go_num, rfl⟩
  case round =>
    obtain ⟨p, m, hp, hm, rfl, rfl⟩ := hrel
    rcases p with _ | p
    · have hs := bw_set m 0
      have hr := bw_get m 0 (by omega)
      (repeat (first | with_reducible refine xThenN ?_ | with_reducible refine xThenE ?_ | with_reducible refine xThenR ?_ | with_reducible refine xThenP ?_ | with_reducible refine xBlockEq ?_ | with_reducible refine xBlockNe rfl ?_ | with_reducible refine xBlockN ?_ | with_reducible refine xBlockR ?_ | with_reducible refine xBlockP ?_ | ((with_reducible refine wl_load29 rfl _ rfl ?_); apply Exists.intro; apply Exists.intro; refine ⟨rfl, ?_, ?_⟩; (· (repeat (first | (with_reducible assumption) | ((with_reducible refine heap_new _ _ _ ?_); (simp; done)) | ((with_reducible refine (heap_old _ _ _ ?_).trans ?_); (· (simp; done))) | (with_reducible refine row_same ?_ _) | ((with_reducible refine row_other ?_ _ ?_); rotate_left; (· (simp; done)))))); simp only [Act.put, List.setIfInBounds_toArray, List.set_cons_succ, List.set_cons_zero]) | ((with_reducible refine wl_store29 rfl _ _ rfl ?_); apply Exists.intro; apply Exists.intro; apply Exists.intro; refine ⟨rfl, rfl, ?_, ?_⟩; (· (repeat (first | (with_reducible assumption) | ((with_reducible refine heap_new _ _ _ ?_); (simp; done)) | ((with_reducible refine (heap_old _ _ _ ?_).trans ?_); (· (simp; done))) | (with_reducible refine row_same ?_ _) | ((with_reducible refine row_other ?_ _ ?_); rotate_left; (· (simp; done)))))); simp only [Act.put, List.setIfInBounds_toArray, List.set_cons_succ, List.set_cons_zero]) | go_values | go_skip | go_guarded | go_step | go_upon | go_back | (dsimp only)))
      refine bodyPost_ret (res29 rfl _ _ _ _ rfl (row_same (n := 0) (by (repeat (first | (with_reducible assumption) | ((with_reducible refine heap_new _ _ _ ?_); (simp; done)) | ((with_reducible refine (heap_old _ _ _ ?_).trans ?_); (· (simp; done))) | (with_reducible refine row_same ?_ _) | ((with_reducible refine row_other ?_ _ ?_); rotate_left; (· (simp; done)))))) _)) rfl ⟨?_, ?_⟩
      · refine ret_bw fun j hj => ?_
        rw [setb_test, up_bits, hm.out]
        by_cases e : j = 0
        · subst e; simp
        · rw [if_neg (fun h => e h.symm), if_neg e]
          exact and_dec (by omega)
      · refine Below.setRow ?_ (by omega) _
        (repeat (first | with_reducible exact Below.refl _ _ | assumption | with_reducible refine below_drewN ?_ _ | with_reducible refine Below.drew ?_ | with_reducible refine Below.setRow ?_ ?_ _ | with_reducible refine Below.alloc ?_ ?_ _ | with_reducible refine Below.setCell ?_ ?_ _ | with_reducible exact Nat.le_refl _ | (focus (simp; done)) | (focus (simp; omega)) | omega))
    · have hs := bw_set m (p + 1)
      have hr := bw_get m (p + 1) (by omega)
      have hrx := bw_get x p (by omega)
      have b0 : (0 : Int) ≤ p := by omega
      have b1 : (p : Int) + 1 < 64 := by omega
      (repeat (first | with_reducible refine xThenN ?_ | with_reducible refine xThenE ?_ | with_reducible refine xThenR ?_ | with_reducible refine xThenP ?_ | with_reducible refine xBlockEq ?_ | with_reducible refine xBlockNe rfl ?_ | with_reducible refine xBlockN ?_ | with_reducible refine xBlockR ?_ | with_reducible refine xBlockP ?_ | go_values | go_skip | go_guarded | go_step | go_upon | go_back | (dsimp only)))
      exact ⟨⟨p, _, by omega, Lib.hid (fun j => by
        rw [setb_test, hm.out]
        by_cases e : p + 1 = j
        · subst e; simp; omega
        · rw [if_neg e]
          exact and_dec (by omega)), by go_num, rfl⟩, by simp [intOf]⟩

theorem down_bits {W x : Nat} (hW : 1 ≤ W) (hx : x < 2 ^ W) (b : Bool) (j : Nat) : (x / 2 + b.toNat * 2 ^ (W - 1)).testBit j = (if j = W - 1 then b else x.testBit (j + 1)) := by
  obtain ⟨V, rfl⟩ : ∃ V, W = V + 1 := ⟨W - 1, by omega⟩
  rw [show V + 1 - 1 = V by omega]
  rw [Nat.pow_succ] at hx
  have h2 : x / 2 < 2 ^ V := by omega
  have hbit : ∀ i, x.testBit (i + 1) = (x / 2).testBit i := fun i => Nat.testBit_succ x i
  rw [hbit]
  cases b with
  | false =>
    simp only [Bool.toNat_false, Nat.zero_mul, Nat.add_zero]
    split
    · subst_vars; exact Nat.testBit_lt_two_pow h2
    · rfl
  | true =>
    rw [Bool.toNat_true, Nat.one_mul, Nat.add_comm]
    rcases Nat.lt_trichotomy j V with h | h | h
    · rw [Nat.testBit_two_pow_add_gt h, if_neg (by omega)]
    · subst h; rw [Nat.testBit_two_pow_add_eq, Nat.testBit_lt_two_pow h2]; simp
    · rw [if_neg (by omega)]
      have hl : (2 ^ V + x / 2) < 2 ^ j := by
        have : 2 ^ (V + 1) ≤ 2 ^ j := Nat.pow_le_pow_right (by omega) (by omega)
        rw [Nat.pow_succ] at this; omega
      rw [Nat.testBit_lt_two_pow hl, Nat.testBit_lt_two_pow (by omega)]

set_option maxRecDepth 100000 in
set_option maxHeartbeats 1000000 in
theorem down_any (W x : Nat) (b : Bool) (w : World) (hW0 : 1 ≤ W) (hW : W ≤ 64) (hx : Hid (x < 2 ^ W)) :
    Calls Try.prog 41 #[.int .i64 W, .agg (bw x), .bool b] w fun e w' => e = .returned (.agg (bw (x / 2 + b.toNat * 2 ^ (W - 1)))) ∧ Below w.heap.size w w' := by
  have hz := (zero_of_info zero29).1
  obtain ⟨V, rfl⟩ : ∃ V, W = V + 1 := ⟨W - 1, by omega⟩
  go_enter Try.func41, Try.ntmps41
  (repeat (first | with_reducible refine xThenN ?_ | with_reducible refine xThenE ?_ | with_reducible refine xThenR ?_ | with_reducible refine xThenP ?_ | with_reducible refine xBlockEq ?_ | with_reducible refine xBlockNe rfl ?_ | with_reducible refine xBlockN ?_ | with_reducible refine xBlockR ?_ | with_reducible refine xBlockP ?_ | go_values | go_skip | go_guarded | go_step | go_upon | go_back | (dsimp only)))
  go_loopw [8] (fun i wr => ∃ k m : Nat, k ≤ V ∧ Hid (∀ j, m.testBit j = (decide (j < k) && x.testBit (j + 1))) ∧ i = .int .i64 k ∧ wr = (((w.alloc (.cells (bw x) 29)).alloc (.cells (bw 0) 29)).alloc (.cells (bw m) 29))) (fun i _ => V - (intOf i).toNat)
  case atStart => exact ⟨0, 0, by omega, Lib.hid (fun j => by simp), rfl, rfl⟩
  case round =>
    obtain ⟨k, m, hk, hm, rfl, rfl⟩ := hrel
    by_cases hlt : k < V
    · have hs := bw_set m k
      have hr := bw_get m k (by omega)
      have hrx := bw_get x (k + 1) (by omega)
      have b0 : (0 : Int) ≤ k := by omega
      have b1 : (k : Int) + 1 < 64 := by omega
      (repeat (first | with_reducible refine xThenN ?_ | with_reducible refine xThenE ?_ | with_reducible refine xThenR ?_ | with_reducible refine xThenP ?_ | with_reducible refine xBlockEq ?_ | with_reducible refine xBlockNe rfl ?_ | with_reducible refine xBlockN ?_ | with_reducible refine xBlockR ?_ | with_reducible refine xBlockP ?_ | go_values | go_skip | go_guarded | go_step | go_upon | go_back | (dsimp only)))
      exact ⟨⟨k + 1, _, by omega, Lib.hid (fun j => by
        rw [setb_test, hm.out]
        by_cases e : k = j
        · subst e; simp
        · rw [if_neg e]
          exact and_dec (by omega)), by go_num, rfl⟩, by simp [intOf]; omega⟩
    · obtain rfl : k = V := by omega
      have hs := bw_set m k
      have hr := bw_get m k (by omega)
      have b0 : (0 : Int) ≤ k := by omega
      have b1 : (k : Int) < 64 := by omega
      (repeat (first | with_reducible refine xThenN ?_ | with_reducible refine xThenE ?_ | with_reducible refine xThenR ?_ | with_reducible refine xThenP ?_ | with_reducible refine xBlockEq ?_ | with_reducible refine xBlockNe rfl ?_ | with_reducible refine xBlockN ?_ | with_reducible refine xBlockR ?_ | with_reducible refine xBlockP ?_ | ((with_reducible refine wl_load29 rfl _ rfl ?_); apply Exists.intro; apply Exists.intro; refine ⟨rfl, ?_, ?_⟩; (· (repeat (first | (with_reducible assumption) | ((with_reducible refine heap_new _ _ _ ?_); (simp; done)) | ((with_reducible refine (heap_old _ _ _ ?_).trans ?_); (· (simp; done))) | (with_reducible refine row_same ?_ _) | ((with_reducible refine row_other ?_ _ ?_); rotate_left; (· (simp; done)))))); simp only [Act.put, List.setIfInBounds_toArray, List.set_cons_succ, List.set_cons_zero]) | ((with_reducible refine wl_store29 rfl _ _ rfl ?_); apply Exists.intro; apply Exists.intro; apply Exists.intro; refine ⟨rfl, rfl, ?_, ?_⟩; (· (repeat (first | (with_reducible assumption) | ((with_reducible refine heap_new _ _ _ ?_); (simp; done)) | ((with_reducible refine (heap_old _ _ _ ?_).trans ?_); (· (simp; done))) | (with_reducible refine row_same ?_ _) | ((with_reducible refine row_other ?_ _ ?_); rotate_left; (· (simp; done)))))); simp only [Act.put, List.setIfInBounds_toArray, List.set_cons_succ, List.set_cons_zero]) | go_values | go_skip | go_guarded | go_step | go_upon | go_back | (dsimp only)))
      refine bodyPost_ret (res29 rfl _ _ _ _ rfl (row_same (n := 0) (by (repeat (first | (with_reducible assumption) | ((with_reducible refine heap_new _ _ _ ?_); (simp; done)) | ((with_reducible refine (heap_old _ _ _ ?_).trans ?_); (· (simp; done))) | (with_reducible refine row_same ?_ _) | ((with_reducible refine row_other ?_ _ ?_); rotate_left; (· (simp; done)))))) _)) rfl ⟨?_, ?_⟩
      · refine ret_bw fun j hj => ?_
        rw [setb_test, down_bits (by omega) hx.out, hm.out, Nat.add_sub_cancel]
        by_cases e : k = j
        · subst e; simp
        · have : ¬ j = k := fun h => e h.symm
          simp only [e, this, if_false]
          by_cases h : j < k
          · simp [h]
          · simp only [h, decide_false, Bool.false_and]
            exact (Nat.testBit_lt_two_pow (Nat.lt_of_lt_of_le hx.out (Nat.pow_le_pow_right (by omega) (by omega)))).symm
      · refine Below.setRow ?_ (by omega) _
        (repeat (first | with_reducible exact Below.refl _ _ | assumption | with_reducible refine below_drewN ?_ _ | with_reducible refine Below.drew ?_ | with_reducible refine Below.setRow ?_ ?_ _ | with_reducible refine Below.alloc ?_ ?_ _ | with_reducible refine Below.setCell ?_ ?_ _ | with_reducible exact Nat.le_refl _ | (focus (simp; done)) | (focus (simp; omega)) | omega))

set_option maxRecDepth 100000 in
set_option maxHeartbeats 1000000 in
theorem truth_any (b : Bool) (w : World) :
    Calls Try.prog 37 #[.bool b] w fun e w' => e = .returned (.agg (bw b.toNat)) ∧ Below w.heap.size w w' := by
  have hz := (zero_of_info zero29).1
  have hs := bw_set 0 0
  have hr := bw_get 0 0 (by omega)
  go_enter Try.func37, Try.ntmps37
  (repeat (first | with_reducible refine xThenN ?_ | with_reducible refine xThenE ?_ | with_reducible refine xThenR ?_ | with_reducible refine xThenP ?_ | with_reducible refine xBlockEq ?_ | with_reducible refine xBlockNe rfl ?_ | with_reducible refine xBlockN ?_ | with_reducible refine xBlockR ?_ | with_reducible refine xBlockP ?_ | ((with_reducible refine wl_load29 rfl _ rfl ?_); apply Exists.intro; apply Exists.intro; refine ⟨rfl, ?_, ?_⟩; (· (repeat (first | (with_reducible assumption) | ((with_reducible refine heap_new _ _ _ ?_); (simp; done)) | ((with_reducible refine (heap_old _ _ _ ?_).trans ?_); (· (simp; done))) | (with_reducible refine row_same ?_ _) | ((with_reducible refine row_other ?_ _ ?_); rotate_left; (· (simp; done)))))); simp only [Act.put, List.setIfInBounds_toArray, List.set_cons_succ, List.set_cons_zero]) | ((with_reducible refine wl_store29 rfl _ _ rfl ?_); apply Exists.intro; apply Exists.intro; apply Exists.intro; refine ⟨rfl, rfl, ?_, ?_⟩; (· (repeat (first | (with_reducible assumption) | ((with_reducible refine heap_new _ _ _ ?_); (simp; done)) | ((with_reducible refine (heap_old _ _ _ ?_).trans ?_); (· (simp; done))) | (with_reducible refine row_same ?_ _) | ((with_reducible refine row_other ?_ _ ?_); rotate_left; (· (simp; done)))))); simp only [Act.put, List.setIfInBounds_toArray, List.set_cons_succ, List.set_cons_zero]) | go_values | go_skip | go_guarded | go_step | go_upon | go_back | (dsimp only)))
  refine bodyPost_ret (res29 rfl _ _ _ _ rfl (row_same (n := 0) (by (repeat (first | (with_reducible assumption) | ((with_reducible refine heap_new _ _ _ ?_); (simp; done)) | ((with_reducible refine (heap_old _ _ _ ?_).trans ?_); (· (simp; done))) | (with_reducible refine row_same ?_ _) | ((with_reducible refine row_other ?_ _ ?_); rotate_left; (· (simp; done)))))) _)) rfl ⟨?_, ?_⟩
  · refine ret_bw fun j hj => ?_
    rw [setb_test]
    by_cases e : 0 = j
    · subst e; cases b <;> simp
    · have : ¬ j = 0 := fun h => e h.symm
      simp only [e, if_false, Nat.zero_testBit]
      exact (Nat.testBit_lt_two_pow (Nat.lt_of_lt_of_le (show b.toNat < 2 ^ 1 by have := Bool.toNat_le b; omega) (Nat.pow_le_pow_right (by omega) (by omega)))).symm
  · refine Below.setRow ?_ (by omega) _
    (repeat (first | with_reducible exact Below.refl _ _ | assumption | with_reducible refine below_drewN ?_ _ | with_reducible refine Below.drew ?_ | with_reducible refine Below.setRow ?_ ?_ _ | with_reducible refine Below.alloc ?_ ?_ _ | with_reducible refine Below.setCell ?_ ?_ _ | with_reducible exact Nat.le_refl _ | (focus (simp; done)) | (focus (simp; omega)) | omega))

theorem less_step {x y k : Nat} (h : x / 2 ^ (k + 1) = y / 2 ^ (k + 1)) (hb : x.testBit k = y.testBit k) : x / 2 ^ k = y / 2 ^ k := by
  rw [num_step rfl, num_step (n := y) rfl, h, hb]

theorem less_fin {x y k : Nat} (h : x / 2 ^ (k + 1) = y / 2 ^ (k + 1)) (hb : ¬ x.testBit k = y.testBit k) : y.testBit k = decide (x < y) := by
  have h1 := num_step (n := x) (k := k) rfl
  have h2 := num_step (n := y) (k := k) rfl
  have hp := Nat.pow_pos (n := k) (show 0 < 2 by omega)
  rw [h] at h1
  have d1 := Nat.div_add_mod x (2 ^ k)
  have d2 := Nat.div_add_mod y (2 ^ k)
  have m1 := Nat.mod_lt x hp
  have m2 := Nat.mod_lt y hp
  rw [h1] at d1
  rw [h2] at d2
  generalize y / 2 ^ (k + 1) = q at *
  generalize 2 ^ k = P at *
  cases hx : x.testBit k <;> cases hy : y.testBit k <;> simp [hx, hy] at *
  · rw [Nat.mul_add, Nat.mul_one] at d2
    omega
  · rw [Nat.mul_add, Nat.mul_one] at d1
    omega

set_option maxRecDepth 100000 in
set_option maxHeartbeats 1000000 in
theorem less_ref (W x y : Nat) (w : World) (hW : W ≤ 64) (hx : Hid (x < 2 ^ W)) (hy : Hid (y < 2 ^ W)) :
    Calls Try.prog 38 #[.int .i64 W, .agg (bw x), .agg (bw y)] w fun e w' => e = .returned (.bool (decide (x < y))) ∧ Below w.heap.size w w' := by
  go_enter Try.func38, Try.ntmps38
  (repeat (first | with_reducible refine xThenN ?_ | with_reducible refine xThenE ?_ | with_reducible refine xThenR ?_ | with_reducible refine xThenP ?_ | with_reducible refine xBlockEq ?_ | with_reducible refine xBlockNe rfl ?_ | with_reducible refine xBlockN ?_ | with_reducible refine xBlockR ?_ | with_reducible refine xBlockP ?_ | go_values | go_skip | go_guarded | go_step | go_upon | go_back | (dsimp only)))
  go_loopw [7] (fun i wr => ∃ k nq : Nat, k ≤ W ∧ Hid (x / 2 ^ k = y / 2 ^ k) ∧ i = .int .i64 ((k : Int) - 1) ∧ wr = ((w.alloc (.cells (bw x) 29)).alloc (.cells (bw y) 29)).drewN nq) (fun i _ => (intOf i + 1).toNat)
  case atStart => exact ⟨W, 0, by omega, Lib.hid (by rw [Nat.div_eq_of_lt hx.out, Nat.div_eq_of_lt hy.out]), rfl, rfl⟩
  case round =>
    obtain ⟨k, nq, hk, hq, rfl, rfl⟩ := hrel
    rcases k with _ | k
    · (repeat (first | with_reducible refine xThenN ?_ | with_reducible refine xThenE ?_ | with_reducible refine xThenR ?_ | with_reducible refine xThenP ?_ | with_reducible refine xBlockEq ?_ | with_reducible refine xBlockNe rfl ?_ | with_reducible refine xBlockN ?_ | with_reducible refine xBlockR ?_ | with_reducible refine xBlockP ?_ | go_values | go_skip | go_guarded | go_step | go_upon | go_back | (dsimp only)))
      go_ret
      refine ⟨?_, by (repeat (first | with_reducible exact Below.refl _ _ | assumption | with_reducible refine below_drewN ?_ _ | with_reducible refine Below.drew ?_ | with_reducible refine Below.setRow ?_ ?_ _ | with_reducible refine Below.alloc ?_ ?_ _ | with_reducible refine Below.setCell ?_ ?_ _ | with_reducible exact Nat.le_refl _ | (focus (simp; done)) | (focus (simp; omega)) | omega))⟩
      have := hq.out
      rw [Nat.pow_zero, Nat.div_one, Nat.div_one] at this
      subst this
      simp
    · have hrx := bw_get x k (by omega)
      have hry := bw_get y k (by omega)
      have b0 : (0 : Int) ≤ k := by omega
      have b1 : (k : Int) < 64 := by omega
      have e1 : ((k + 1 : Nat) : Int) - 1 = k := by omega
      cases hbx : x.testBit k <;> cases hby : y.testBit k
      all_goals
        have Hx := Lib.hid hbx
        have Hy := Lib.hid hby
        rw [hbx] at hrx
        rw [hby] at hry
        clear hbx hby
        (repeat (first | with_reducible refine xThenN ?_ | with_reducible refine xThenE ?_ | with_reducible refine xThenR ?_ | with_reducible refine xThenP ?_ | with_reducible refine xBlockEq ?_ | with_reducible refine xBlockNe rfl ?_ | with_reducible refine xBlockN ?_ | with_reducible refine xBlockR ?_ | with_reducible refine xBlockP ?_ | go_values | go_skip | go_guarded | go_step | go_upon | go_back | (dsimp only)))
        go_quiet (fail)
        (repeat (first | with_reducible refine xThenN ?_ | with_reducible refine xThenE ?_ | with_reducible refine xThenR ?_ | with_reducible refine xThenP ?_ | with_reducible refine xBlockEq ?_ | with_reducible refine xBlockNe rfl ?_ | with_reducible refine xBlockN ?_ | with_reducible refine xBlockR ?_ | with_reducible refine xBlockP ?_ | go_values | go_skip | go_guarded | go_step | go_upon | go_back | (dsimp only)))
      · exact ⟨⟨k, _, by omega, Lib.hid (less_step hq.out (by rw [Hx.out, Hy.out])), rfl, rfl⟩, by simp [intOf]⟩
      · go_ret
        refine ⟨?_, by (repeat (first | with_reducible exact Below.refl _ _ | assumption | with_reducible refine below_drewN ?_ _ | with_reducible refine Below.drew ?_ | with_reducible refine Below.setRow ?_ ?_ _ | with_reducible refine Below.alloc ?_ ?_ _ | with_reducible refine Below.setCell ?_ ?_ _ | with_reducible exact Nat.le_refl _ | (focus (simp; done)) | (focus (simp; omega)) | omega))⟩
        rw [← less_fin hq.out (by rw [Hx.out, Hy.out]; simp), Hy.out]
        rfl
      · go_ret
        refine ⟨?_, by (repeat (first | with_reducible exact Below.refl _ _ | assumption | with_reducible refine below_drewN ?_ _ | with_reducible refine Below.drew ?_ | with_reducible refine Below.setRow ?_ ?_ _ | with_reducible refine Below.alloc ?_ ?_ _ | with_reducible refine Below.setCell ?_ ?_ _ | with_reducible exact Nat.le_refl _ | (focus (simp; done)) | (focus (simp; omega)) | omega))⟩
        rw [← less_fin hq.out (by rw [Hx.out, Hy.out]; simp), Hy.out]
        rfl
      · exact ⟨⟨k, _, by omega, Lib.hid (less_step hq.out (by rw [Hx.out, Hy.out])), rfl, rfl⟩, by simp [intOf]⟩

end Go.Proofs.Ytafjllfmagmhbaa
