import Derived.Test.YtmaogkgjiplckaaWR
set_option linter.unusedSimpArgs false
set_option linter.unusedVariables false
namespace Go.Proofs.Ytmaogkgjiplckaa
open Go.RowKit

theorem bw_congr {a b : Nat} (h : ∀ j, j < 64 → a.testBit j = b.testBit j) : bw a = bw b := by
  apply Array.ext_getElem?
  intro j
  by_cases hj : j < 64
  · rw [bw_get _ _ hj, bw_get _ _ hj, h j hj]
  · rw [Array.getElem?_eq_none (by simp [bw_size]; omega), Array.getElem?_eq_none (by simp [bw_size]; omega)]

theorem ret_bw {a b : Nat} (h : ∀ j, j < 64 → a.testBit j = b.testBit j) : Ending.returned (.agg (bw a)) = .returned (.agg (bw b)) := by rw [bw_congr h]

set_option maxHeartbeats 400000 in
theorem rwidth_any (a : Int) (w : World) :
    Calls Try.prog 27 #[.int .i64 a] w fun e w' => e = .returned (.int .i64 (wid a : Nat)) ∧ w = w' := by
  rcases Int.lt_or_le a 1 with h | h
  · go_enter Try.func27, Try.ntmps27
    (repeat (first | (with_reducible first | refine xA ?_ | refine xB ?_ | refine xC ?_ | refine xD ?_ | refine xH ?_ | refine xI rfl ?_ | refine xE ?_ | refine xF ?_ | refine xG ?_) | go_values | go_skip | go_guarded | go_step | go_upon | go_back | (dsimp only)))
    go_ret
    exact ⟨ret_int (by unfold wid; rw [if_pos h]; rfl), rfl⟩
  rcases Int.lt_or_le 64 a with h2 | h2
  · go_enter Try.func27, Try.ntmps27
    (repeat (first | (with_reducible first | refine xA ?_ | refine xB ?_ | refine xC ?_ | refine xD ?_ | refine xH ?_ | refine xI rfl ?_ | refine xE ?_ | refine xF ?_ | refine xG ?_) | go_values | go_skip | go_guarded | go_step | go_upon | go_back | (dsimp only)))
    go_ret
    exact ⟨ret_int (by unfold wid; rw [if_neg (by omega), if_pos h2]; rfl), rfl⟩
  · go_enter Try.func27, Try.ntmps27
    (repeat (first | (with_reducible first | refine xA ?_ | refine xB ?_ | refine xC ?_ | refine xD ?_ | refine xH ?_ | refine xI rfl ?_ | refine xE ?_ | refine xF ?_ | refine xG ?_) | go_values | go_skip | go_guarded | go_step | go_upon | go_back | (dsimp only)))
    go_ret
    exact ⟨ret_int (by unfold wid; rw [if_neg (by omega), if_neg (by omega)]; omega), rfl⟩

theorem bit_of (q : Nat) : (((q : Nat) : Int) % 2 == 1) = q.testBit 0 := by
  rw [Nat.testBit_zero, Bool.eq_iff_iff]; simp; omega

theorem of_step {x k m W : Nat} (hk : k < W) (hm : m = x % 2 ^ (min k W)) : setb m k ((x / 2 ^ k).testBit 0) = x % 2 ^ (min (k + 1) W) := by
  rw [Nat.min_eq_left (by omega)] at hm ⊢
  have e : (x / 2 ^ k).testBit 0 = x.testBit k := by rw [Nat.testBit_div_two_pow, Nat.zero_add]
  rw [e, hm, setb_lt (Nat.mod_lt _ (Nat.pow_pos (by omega))), mod_succ]

theorem of_step2 {x k m W : Nat} (hk : ¬ k < W) (hm : m = x % 2 ^ (min k W)) : setb m k false = x % 2 ^ (min (k + 1) W) := by
  rw [Nat.min_eq_right (by omega)] at hm ⊢
  have e : m < 2 ^ k := by
    rw [hm]; exact Nat.lt_of_lt_of_le (Nat.mod_lt _ (Nat.pow_pos (by omega))) (Nat.pow_le_pow_right (by omega) (by omega))
  rw [setb_lt e, hm]; simp

theorem half_u64 (q : Nat) (h : q < 18446744073709551616) : IntKind.u64.wrap (((q : Nat) : Int) / 2) = ((q / 2 : Nat) : Int) := by
  rw [IntKind.wrap_u64]; omega

set_option maxRecDepth 100000 in
set_option maxHeartbeats 800000 in
theorem of_any (W x : Nat) (w : World) (hW : W ≤ 64) (hx : Hid (x < 18446744073709551616)) :
    Calls Try.prog 49 #[.int .i64 W, .int .u64 x] w fun e w' => e = .returned (.agg (bw (x % 2 ^ W))) ∧ Below w.heap.size w w' := by
  have hz := (zero_of_info zero29).1
  go_enter Try.func49, Try.ntmps49
  (repeat (first | (with_reducible first | refine xA ?_ | refine xB ?_ | refine xC ?_ | refine xD ?_ | refine xH ?_ | refine xI rfl ?_ | refine xE ?_ | refine xF ?_ | refine xG ?_) | go_values | go_skip | go_guarded | go_step | go_upon | go_back | (dsimp only)))
  go_loopw [1, 6] (fun v i wr => ∃ k q m : Nat, k ≤ 64 ∧ Hid (q = x / 2 ^ k) ∧ Hid (m = x % 2 ^ (min k W)) ∧ v = .int .u64 q ∧ i = .int .i64 k ∧ wr = ((w.alloc (.cells (bw 0) 80)).alloc (.cells (bw m) 80))) (fun _ i _ => 64 - (intOf i).toNat)
  case atStart => exact ⟨0, x, 0, by omega, Lib.hid (by simp), Lib.hid (by simp [Nat.mod_one]), rfl, rfl, rfl⟩
  case round =>
    obtain ⟨k, q, m, hk, hq, hm, rfl, rfl, rfl⟩ := hrel
    have hq64 : Hid (q < 18446744073709551616) := Lib.hid (by rw [hq.out]; exact Nat.lt_of_le_of_lt (Nat.div_le_self _ _) hx.out)
    by_cases hlt : k < 64
    · have hs := bw_set m k
      have hr2 := bw_get m k hlt
      have b0 : (0 : Int) ≤ k := by omega
      have b1 : (k : Int) < 64 := by omega
      have Hhalf := Lib.hid (half_u64 q hq64.out)
      by_cases hkW : k < W
      · have hd : decide ((k : Int) < W) = true := by simp; omega
        (repeat (first | (with_reducible first | refine xA ?_ | refine xB ?_ | refine xC ?_ | refine xD ?_ | refine xH ?_ | refine xI rfl ?_ | refine xE ?_ | refine xF ?_ | refine xG ?_) | go_values | go_skip | go_guarded | go_step | go_upon | go_back | (dsimp only)))
        exact ⟨⟨k + 1, q / 2, _, by omega, Lib.hid (by rw [hq.out, Nat.div_div_eq_div_mul, Nat.pow_succ]), Lib.hid (by have h := of_step hkW hm.out; rw [← hq.out] at h; rw [bit_of]; exact h), int_eq' Hhalf.out, by go_num, rfl⟩, by simp [intOf]; omega⟩
      · have hd : decide ((k : Int) < W) = false := by simp; omega
        (repeat (first | (with_reducible first | refine xA ?_ | refine xB ?_ | refine xC ?_ | refine xD ?_ | refine xH ?_ | refine xI rfl ?_ | refine xE ?_ | refine xF ?_ | refine xG ?_) | go_values | go_skip | go_guarded | go_step | go_upon | go_back | (dsimp only)))
        exact ⟨⟨k + 1, q / 2, _, by omega, Lib.hid (by rw [hq.out, Nat.div_div_eq_div_mul, Nat.pow_succ]), Lib.hid (of_step2 hkW hm.out), int_eq' Hhalf.out, by go_num, rfl⟩, by simp [intOf]; omega⟩
    · obtain rfl : k = 64 := by omega
      (repeat (first | (with_reducible first | refine xA ?_ | refine xB ?_ | refine xC ?_ | refine xD ?_ | refine xH ?_ | refine xI rfl ?_ | refine xE ?_ | refine xF ?_ | refine xG ?_) | go_skip | go_guarded | ((with_reducible refine wl_load29 rfl _ rfl ?_); apply Exists.intro; apply Exists.intro; refine ⟨rfl, ?_, ?_⟩; (· (repeat (first | (with_reducible assumption) | ((with_reducible refine heap_new _ _ _ ?_); (simp; done)) | ((with_reducible refine (heap_old _ _ _ ?_).trans ?_); (· (simp; done))) | (with_reducible refine row_same ?_ _) | ((with_reducible refine row_other ?_ _ ?_); rotate_left; (· (simp; done)))))); simp only [Act.put, List.setIfInBounds_toArray, List.set_cons_succ, List.set_cons_zero]) | ((with_reducible refine wl_store29 rfl _ _ rfl ?_); apply Exists.intro; apply Exists.intro; apply Exists.intro; refine ⟨rfl, rfl, ?_, ?_⟩; (· (repeat (first | (with_reducible assumption) | ((with_reducible refine heap_new _ _ _ ?_); (simp; done)) | ((with_reducible refine (heap_old _ _ _ ?_).trans ?_); (· (simp; done))) | (with_reducible refine row_same ?_ _) | ((with_reducible refine row_other ?_ _ ?_); rotate_left; (· (simp; done)))))); simp only [Act.put, List.setIfInBounds_toArray, List.set_cons_succ, List.set_cons_zero]) | go_values | go_skip | go_guarded | go_step | go_upon | go_back | (dsimp only)))
      refine bodyPost_ret (res29 rfl _ _ _ _ rfl (row_same (n := 0) (by (repeat (first | (with_reducible assumption) | ((with_reducible refine heap_new _ _ _ ?_); (simp; done)) | ((with_reducible refine (heap_old _ _ _ ?_).trans ?_); (· (simp; done))) | (with_reducible refine row_same ?_ _) | ((with_reducible refine row_other ?_ _ ?_); rotate_left; (· (simp; done)))))) _)) rfl ⟨?_, ?_⟩
      · rw [hm.out, Nat.min_eq_right hW]
      · refine Below.setRow ?_ (by omega) _
        (repeat (first | with_reducible exact Below.refl _ _ | assumption | with_reducible refine below_drewN ?_ _ | with_reducible refine Below.drew ?_ | with_reducible refine Below.setRow ?_ ?_ _ | with_reducible refine Below.alloc ?_ ?_ _ | with_reducible refine Below.setCell ?_ ?_ _ | with_reducible exact Nat.le_refl _ | (focus (simp; done)) | (focus (simp; omega)) | omega))

theorem num_step {n k q : Nat} (hq : q = n / 2 ^ (k + 1)) : n / 2 ^ k = 2 * q + (if n.testBit k then 1 else 0) := by
  rw [hq, Nat.pow_succ, ← Nat.div_div_eq_div_mul, Nat.testBit_eq_decide_div_mod_eq]
  rcases Nat.mod_two_eq_zero_or_one (n / 2 ^ k) with h | h <;> simp [h] <;> omega

theorem num_w1 {n k q : Nat} (hn : n < 18446744073709551616) (hq : q = n / 2 ^ (k + 1)) : IntKind.u64.wrap (((q : Nat) : Int) * 2) = ((2 * q : Nat) : Int) ∧ (n.testBit k = true → IntKind.u64.wrap (((2 * q : Nat) : Int) + 1) = ((2 * q + 1 : Nat) : Int)) := by
  have h1 := num_step hq
  have h2 : n / 2 ^ k ≤ n := Nat.div_le_self _ _
  refine ⟨?_, fun h => ?_⟩
  · rw [IntKind.wrap_u64]; split at h1 <;> omega
  · rw [if_pos h] at h1
    rw [IntKind.wrap_u64]; omega

set_option maxRecDepth 100000 in
set_option maxHeartbeats 800000 in
theorem num_any (n : Nat) (w : World) (hn : Hid (n < 18446744073709551616)) :
    Calls Try.prog 42 #[.agg (bw n)] w fun e w' => e = .returned (.int .u64 n) ∧ Below w.heap.size w w' := by
  go_enter Try.func42, Try.ntmps42
  (repeat (first | (with_reducible first | refine xA ?_ | refine xB ?_ | refine xC ?_ | refine xD ?_ | refine xH ?_ | refine xI rfl ?_ | refine xE ?_ | refine xF ?_ | refine xG ?_) | go_values | go_skip | go_guarded | go_step | go_upon | go_back | (dsimp only)))
  go_loop [3, 4] (fun v i => ∃ k q : Nat, k ≤ 64 ∧ Hid (q = n / 2 ^ k) ∧ v = .int .u64 q ∧ i = .int .i64 ((k : Int) - 1)) (fun _ i => (intOf i + 1).toNat)
  case atStart => exact ⟨64, 0, by omega, Lib.hid (Nat.div_eq_of_lt hn.out).symm, rfl, rfl⟩
  case round =>
    obtain ⟨k, q, hk, hq, rfl, rfl⟩ := hrel
    rcases k with _ | k
    · (repeat (first | (with_reducible first | refine xA ?_ | refine xB ?_ | refine xC ?_ | refine xD ?_ | refine xH ?_ | refine xI rfl ?_ | refine xE ?_ | refine xF ?_ | refine xG ?_) | go_values | go_skip | go_guarded | go_step | go_upon | go_back | (dsimp only)))
      go_ret
      refine ⟨ret_int (by rw [hq.out]; simp), ?_⟩
      (repeat (first | with_reducible exact Below.refl _ _ | assumption | with_reducible refine below_drewN ?_ _ | with_reducible refine Below.drew ?_ | with_reducible refine Below.setRow ?_ ?_ _ | with_reducible refine Below.alloc ?_ ?_ _ | with_reducible refine Below.setCell ?_ ?_ _ | with_reducible exact Nat.le_refl _ | (focus (simp; done)) | (focus (simp; omega)) | omega))
    · have hr := bw_get n k (by omega)
      have Hw := Lib.hid (num_w1 hn.out hq.out)
      have H3 := Lib.hid (num_step hq.out)
      have b0 : (0 : Int) ≤ k := by omega
      have b1 : (k : Int) < 64 := by omega
      have e1 : ((k + 1 : Nat) : Int) - 1 = k := by omega
      cases hb : n.testBit k with
      | true =>
        rw [hb] at hr
        (repeat (first | (with_reducible first | refine xA ?_ | refine xB ?_ | refine xC ?_ | refine xD ?_ | refine xH ?_ | refine xI rfl ?_ | refine xE ?_ | refine xF ?_ | refine xG ?_) | go_values | go_skip | go_guarded | go_step | go_upon | go_back | (dsimp only)))
        exact ⟨⟨k, 2 * q + 1, by omega, Lib.hid (by rw [H3.out, if_pos hb]), int_eq' (by rw [Hw.out.1]; exact Hw.out.2 hb), rfl⟩, by simp [intOf]⟩
      | false =>
        rw [hb] at hr
        (repeat (first | (with_reducible first | refine xA ?_ | refine xB ?_ | refine xC ?_ | refine xD ?_ | refine xH ?_ | refine xI rfl ?_ | refine xE ?_ | refine xF ?_ | refine xG ?_) | go_values | go_skip | go_guarded | go_step | go_upon | go_back | (dsimp only)))
        exact ⟨⟨k, 2 * q, by omega, Lib.hid (by rw [H3.out, if_neg (by simp [hb])]; rfl), int_eq' Hw.out.1, rfl⟩, by simp [intOf]⟩

theorem add_step {x y c k : Nat} (m : Nat) (cr : Bool) (hm : m = (x % 2 ^ k + y % 2 ^ k + c) % 2 ^ k) (hc : cr.toNat = (x % 2 ^ k + y % 2 ^ k + c) / 2 ^ k) :
    setb m k (decide (((x.testBit k).toNat + (y.testBit k).toNat + cr.toNat) % 2 = 1)) = (x % 2 ^ (k + 1) + y % 2 ^ (k + 1) + c) % 2 ^ (k + 1) ∧
    (decide (1 < (x.testBit k).toNat + (y.testBit k).toNat + cr.toNat)).toNat = (x % 2 ^ (k + 1) + y % 2 ^ (k + 1) + c) / 2 ^ (k + 1) := by
  have hp := Nat.pow_pos (n := k) (show 0 < 2 by omega)
  have hml : m < 2 ^ k := by rw [hm]; exact Nat.mod_lt _ hp
  rw [setb_lt hml, mod_succ x, mod_succ y, Nat.pow_succ]
  have hd := Nat.div_add_mod (x % 2 ^ k + y % 2 ^ k + c) (2 ^ k)
  rw [← hm, ← hc] at hd
  generalize 2 ^ k = P at *
  generalize x % P = X at *
  generalize y % P = Y at *
  have key : X + (if x.testBit k then P else 0) + (Y + (if y.testBit k then P else 0)) + c = P * ((x.testBit k).toNat + (y.testBit k).toNat + cr.toNat) + m := by
    rw [Nat.mul_add, Nat.mul_add]
    cases x.testBit k <;> cases y.testBit k <;> simp <;> omega
  rw [key]
  have hs : (x.testBit k).toNat + (y.testBit k).toNat + cr.toNat ≤ 3 := by
    have h1 := Bool.toNat_le (x.testBit k)
    have h2 := Bool.toNat_le (y.testBit k)
    have h3 := Bool.toNat_le cr
    omega
  generalize (x.testBit k).toNat + (y.testBit k).toNat + cr.toNat = s at *
  clear hm hc hd key
  have : s = 0 ∨ s = 1 ∨ s = 2 ∨ s = 3 := by omega
  rcases this with rfl | rfl | rfl | rfl
  · exact ⟨by simp; rw [Nat.mod_eq_of_lt (by omega)], by simp; rw [Nat.div_eq_of_lt (by omega)]⟩
  · exact ⟨by simp; rw [Nat.mod_eq_of_lt (by omega)]; omega, by simp; rw [Nat.div_eq_of_lt (by omega)]⟩
  · have e : P * 2 + m = m + P * 2 := by omega
    exact ⟨by simp; rw [Nat.mod_eq_of_lt (by omega)], by simp; rw [e, Nat.add_div_right _ (by omega), Nat.div_eq_of_lt (by omega)]⟩
  · have e : P * 3 + m = (m + P) + P * 2 := by omega
    exact ⟨by simp; rw [e, Nat.add_mod_right, Nat.mod_eq_of_lt (by omega)], by simp; rw [e, Nat.add_div_right _ (by omega), Nat.div_eq_of_lt (by omega)]⟩

set_option maxRecDepth 100000 in
set_option maxHeartbeats 2000000 in
theorem add_ref (W x y : Nat) (c : Bool) (w : World) (hW : W ≤ 64) (hx : Hid (x < 2 ^ W)) (hy : Hid (y < 2 ^ W)) :
    Calls Try.prog 51 #[.int .i64 W, .agg (bw x), .agg (bw y), .bool c] w fun e w' => e = .returned (.agg (bw ((x + y + c.toNat) % 2 ^ W))) ∧ Below w.heap.size w w' := by
  have hz := (zero_of_info zero29).1
  go_enter Try.func51, Try.ntmps51
  (repeat (first | (with_reducible first | refine xA ?_ | refine xB ?_ | refine xC ?_ | refine xD ?_ | refine xH ?_ | refine xI rfl ?_ | refine xE ?_ | refine xF ?_ | refine xG ?_) | go_values | go_skip | go_guarded | go_step | go_upon | go_back | (dsimp only)))
  go_loopw [3, 10] (fun v i wr => ∃ (k m : Nat) (cr : Bool), k ≤ W ∧ Hid (m = (x % 2 ^ k + y % 2 ^ k + c.toNat) % 2 ^ k) ∧ Hid (cr.toNat = (x % 2 ^ k + y % 2 ^ k + c.toNat) / 2 ^ k) ∧ v = .bool cr ∧ i = .int .i64 k ∧ wr = ((((w.alloc (.cells (bw x) 80)).alloc (.cells (bw y) 80)).alloc (.cells (bw 0) 80)).alloc (.cells (bw m) 80))) (fun _ i _ => W - (intOf i).toNat)
  case atStart => exact ⟨0, 0, c, by omega, Lib.hid (by simp [Nat.mod_one]), Lib.hid (by simp [Nat.mod_one]), rfl, rfl, rfl⟩
  case round =>
    obtain ⟨k, m, cr, hk, hm, hc, rfl, rfl, rfl⟩ := hrel
    by_cases hlt : k < W
    · have hs := bw_set m k
      have hr := bw_get m k (by omega)
      have hrx := bw_get x k (by omega)
      have hry := bw_get y k (by omega)
      have b0 : (0 : Int) ≤ k := by omega
      have b1 : (k : Int) < 64 := by omega
      have H := Lib.hid (add_step m cr hm.out hc.out)
      cases hbx : x.testBit k <;> cases hby : y.testBit k <;> cases cr
      all_goals
        have Hx := Lib.hid hbx
        have Hy := Lib.hid hby
        rw [hbx] at hrx
        rw [hby] at hry
        clear hbx hby
        (repeat (first | (with_reducible first | refine xA ?_ | refine xB ?_ | refine xC ?_ | refine xD ?_ | refine xH ?_ | refine xI rfl ?_ | refine xE ?_ | refine xF ?_ | refine xG ?_) | go_values | go_skip | go_guarded | go_step | go_upon | go_back | (dsimp only)))
        exact ⟨⟨k + 1, _, _, by omega, Lib.hid (by have h := H.out.1; rw [Hx.out, Hy.out] at h; exact h), Lib.hid (by have h := H.out.2; rw [Hx.out, Hy.out] at h; exact h), rfl, by go_num, rfl⟩, by simp [intOf]; omega⟩
    · obtain rfl : k = W := by omega
      (repeat (first | (with_reducible first | refine xA ?_ | refine xB ?_ | refine xC ?_ | refine xD ?_ | refine xH ?_ | refine xI rfl ?_ | refine xE ?_ | refine xF ?_ | refine xG ?_) | go_skip | go_guarded | ((with_reducible refine wl_load29 rfl _ rfl ?_); apply Exists.intro; apply Exists.intro; refine ⟨rfl, ?_, ?_⟩; (· (repeat (first | (with_reducible assumption) | ((with_reducible refine heap_new _ _ _ ?_); (simp; done)) | ((with_reducible refine (heap_old _ _ _ ?_).trans ?_); (· (simp; done))) | (with_reducible refine row_same ?_ _) | ((with_reducible refine row_other ?_ _ ?_); rotate_left; (· (simp; done)))))); simp only [Act.put, List.setIfInBounds_toArray, List.set_cons_succ, List.set_cons_zero]) | ((with_reducible refine wl_store29 rfl _ _ rfl ?_); apply Exists.intro; apply Exists.intro; apply Exists.intro; refine ⟨rfl, rfl, ?_, ?_⟩; (· (repeat (first | (with_reducible assumption) | ((with_reducible refine heap_new _ _ _ ?_); (simp; done)) | ((with_reducible refine (heap_old _ _ _ ?_).trans ?_); (· (simp; done))) | (with_reducible refine row_same ?_ _) | ((with_reducible refine row_other ?_ _ ?_); rotate_left; (· (simp; done)))))); simp only [Act.put, List.setIfInBounds_toArray, List.set_cons_succ, List.set_cons_zero]) | go_values | go_skip | go_guarded | go_step | go_upon | go_back | (dsimp only)))
      refine bodyPost_ret (res29 rfl _ _ _ _ rfl (row_same (n := 0) (by (repeat (first | (with_reducible assumption) | ((with_reducible refine heap_new _ _ _ ?_); (simp; done)) | ((with_reducible refine (heap_old _ _ _ ?_).trans ?_); (· (simp; done))) | (with_reducible refine row_same ?_ _) | ((with_reducible refine row_other ?_ _ ?_); rotate_left; (· (simp; done)))))) _)) rfl ⟨?_, ?_⟩
      · rw [hm.out, Nat.mod_eq_of_lt hx.out, Nat.mod_eq_of_lt hy.out]
      · refine Below.setRow ?_ (by omega) _
        (repeat (first | with_reducible exact Below.refl _ _ | assumption | with_reducible refine below_drewN ?_ _ | with_reducible refine Below.drew ?_ | with_reducible refine Below.setRow ?_ ?_ _ | with_reducible refine Below.alloc ?_ ?_ _ | with_reducible refine Below.setCell ?_ ?_ _ | with_reducible exact Nat.le_refl _ | (focus (simp; done)) | (focus (simp; omega)) | omega))


end Go.Proofs.Ytmaogkgjiplckaa
