import Derived.Test.YtafjllfmagmhbaaV
set_option linter.unusedSimpArgs false
set_option linter.unusedVariables false
namespace Go.Proofs.Ytafjllfmagmhbaa
open Go.RowKit

theorem mul_bit {x y k W : Nat} (h : y.testBit k = true) : (x * (y % 2 ^ k) % 2 ^ W + x * 2 ^ k % 2 ^ W + false.toNat) % 2 ^ W = x * (y % 2 ^ (k + 1)) % 2 ^ W := by
  rw [mod_succ, if_pos h, Bool.toNat_false, Nat.add_zero, ← Nat.add_mod, Nat.mul_add]
theorem mul_bit0 {x y k W : Nat} (h : y.testBit k = false) : x * (y % 2 ^ k) % 2 ^ W = x * (y % 2 ^ (k + 1)) % 2 ^ W := by
  rw [mod_succ, if_neg (by simp [h]), Nat.add_zero]
theorem mul_up (x k W : Nat) : (2 * (x * 2 ^ k % 2 ^ W) + false.toNat) % 2 ^ W = x * 2 ^ (k + 1) % 2 ^ W := by
  rw [Bool.toNat_false, Nat.add_zero, Nat.mul_mod_mod, Nat.pow_succ, Nat.mul_left_comm, Nat.mul_comm 2]

set_option maxRecDepth 100000 in
set_option maxHeartbeats 1000000 in
theorem mul_ref (W x y : Nat) (w : World) (hW0 : 1 ≤ W) (hW : W ≤ 64) (hx : Hid (x < 2 ^ W)) (hy : Hid (y < 2 ^ W)) :
    Calls Try.prog 34 #[.int .i64 W, .agg (bw x), .agg (bw y)] w fun e w' => e = .returned (.agg (bw (x * y % 2 ^ W))) ∧ Below w.heap.size w w' := by
  have hz := (zero_of_info zero29).1
  go_enter Try.func34, Try.ntmps34
  (repeat (first | with_reducible refine xThenN ?_ | with_reducible refine xThenE ?_ | with_reducible refine xThenR ?_ | with_reducible refine xThenP ?_ | with_reducible refine xBlockEq ?_ | with_reducible refine xBlockNe rfl ?_ | with_reducible refine xBlockN ?_ | with_reducible refine xBlockR ?_ | with_reducible refine xBlockP ?_ | go_values | go_skip | go_guarded | go_step | go_upon | go_back | (dsimp only)))
  go_loopw [8] (fun i wr => ∃ k X O : Nat, k ≤ W ∧ Hid (X = x * 2 ^ k % 2 ^ W) ∧ Hid (O = x * (y % 2 ^ k) % 2 ^ W) ∧ i = .int .i64 k ∧ Below w.heap.size w wr ∧ MemL wr w.heap.size [(bw X, 29), (bw y, 29), (bw 0, 29), (bw O, 29)]) (fun i _ => W - (intOf i).toNat)
  case atStart =>
    exact ⟨0, x, 0, by omega, Lib.hid (by rw [Nat.pow_zero, Nat.mul_one, Nat.mod_eq_of_lt hx.out]), Lib.hid (by simp [Nat.mod_one]), rfl, by (repeat (first | with_reducible exact Below.refl _ _ | assumption | with_reducible refine below_drewN ?_ _ | with_reducible refine Below.drew ?_ | with_reducible refine Below.setRow ?_ ?_ _ | with_reducible refine Below.alloc ?_ ?_ _ | with_reducible refine Below.setCell ?_ ?_ _ | with_reducible exact Nat.le_refl _ | (focus (simp; done)) | (focus (simp; omega)) | omega)), (mem4 _ _ _ _ _ _ _ _ _).1⟩
  case round =>
    obtain ⟨k, X, O, hk, hX, hO, rfl, HB, HM⟩ := hrel
    have hp := Lib.hid (Nat.pow_pos (n := W) (show 0 < 2 by omega))
    by_cases hlt : k < W
    · have hry := bitL HM 1 y rfl k (by omega)
      have b0 : (0 : Int) ≤ k := by omega
      have b1 : (k : Int) < 64 := by omega
      have hXl : Hid (X < 2 ^ W) := Lib.hid (by rw [hX.out]; exact Nat.mod_lt _ hp.out)
      have hOl : Hid (O < 2 ^ W) := Lib.hid (by rw [hO.out]; exact Nat.mod_lt _ hp.out)
      cases hby : y.testBit k with
      | true =>
        have Hy := Lib.hid hby
        rw [hby] at hry
        clear hby
        (repeat (first | with_reducible refine xThenN ?_ | with_reducible refine xThenE ?_ | with_reducible refine xThenR ?_ | with_reducible refine xThenP ?_ | with_reducible refine xBlockEq ?_ | with_reducible refine xBlockNe rfl ?_ | with_reducible refine xBlockN ?_ | with_reducible refine xBlockR ?_ | with_reducible refine xBlockP ?_ | ((with_reducible refine wl_id ?_); refine wl_loadL HM 0 _ rfl rfl _ rfl rfl ?_; simp only [Act.put, List.setIfInBounds_toArray, List.set_cons_succ, List.set_cons_zero]) | ((with_reducible refine wl_id ?_); refine wl_loadL HM 3 _ rfl rfl _ rfl rfl ?_; simp only [Act.put, List.setIfInBounds_toArray, List.set_cons_succ, List.set_cons_zero]) | ((with_reducible refine wl_id ?_); refine wl_storeL HM 0 _ _ rfl rfl _ _ rfl rfl rfl ?_; intro w1 HM1 hb; (simp only [List.set_cons_succ, List.set_cons_zero] at HM1); clear HM; have HM := HM1; clear HM1; replace HB := HB.trans hb; clear hb; simp only [Act.put, List.setIfInBounds_toArray, List.set_cons_succ, List.set_cons_zero]) | ((with_reducible refine wl_id ?_); refine wl_storeL HM 3 _ _ rfl rfl _ _ rfl rfl rfl ?_; intro w1 HM1 hb; (simp only [List.set_cons_succ, List.set_cons_zero] at HM1); clear HM; have HM := HM1; clear HM1; replace HB := HB.trans hb; clear hb; simp only [Act.put, List.setIfInBounds_toArray, List.set_cons_succ, List.set_cons_zero]) | (go_at_call 33; (with_reducible refine (add_ref _ _ _ _ _ hW (by assumption) (by assumption)).mono ?_); rintro e w1 ⟨rfl, hb⟩; (replace HM := HM.below hb; replace HB := HB.trans (hb.mono HB.size); clear hb)) | (go_at_call 39; (with_reducible refine (up_any _ _ _ _ hW0 hW).mono ?_); rintro e w1 ⟨rfl, hb⟩; (replace HM := HM.below hb; replace HB := HB.trans (hb.mono HB.size); clear hb)) | go_values | go_skip | go_guarded | go_step | go_upon | go_back | (dsimp only)))
        exact ⟨⟨k + 1, _, _, by omega, Lib.hid (by rw [hX.out]; exact mul_up x k W), Lib.hid (by rw [hX.out, hO.out]; exact mul_bit Hy.out), by go_num, HB, HM⟩, by simp [intOf]; omega⟩
      | false =>
        have Hy := Lib.hid hby
        rw [hby] at hry
        clear hby
        (repeat (first | with_reducible refine xThenN ?_ | with_reducible refine xThenE ?_ | with_reducible refine xThenR ?_ | with_reducible refine xThenP ?_ | with_reducible refine xBlockEq ?_ | with_reducible refine xBlockNe rfl ?_ | with_reducible refine xBlockN ?_ | with_reducible refine xBlockR ?_ | with_reducible refine xBlockP ?_ | ((with_reducible refine wl_id ?_); refine wl_loadL HM 0 _ rfl rfl _ rfl rfl ?_; simp only [Act.put, List.setIfInBounds_toArray, List.set_cons_succ, List.set_cons_zero]) | ((with_reducible refine wl_id ?_); refine wl_loadL HM 3 _ rfl rfl _ rfl rfl ?_; simp only [Act.put, List.setIfInBounds_toArray, List.set_cons_succ, List.set_cons_zero]) | ((with_reducible refine wl_id ?_); refine wl_storeL HM 0 _ _ rfl rfl _ _ rfl rfl rfl ?_; intro w1 HM1 hb; (simp only [List.set_cons_succ, List.set_cons_zero] at HM1); clear HM; have HM := HM1; clear HM1; replace HB := HB.trans hb; clear hb; simp only [Act.put, List.setIfInBounds_toArray, List.set_cons_succ, List.set_cons_zero]) | ((with_reducible refine wl_id ?_); refine wl_storeL HM 3 _ _ rfl rfl _ _ rfl rfl rfl ?_; intro w1 HM1 hb; (simp only [List.set_cons_succ, List.set_cons_zero] at HM1); clear HM; have HM := HM1; clear HM1; replace HB := HB.trans hb; clear hb; simp only [Act.put, List.setIfInBounds_toArray, List.set_cons_succ, List.set_cons_zero]) | (go_at_call 33; (with_reducible refine (add_ref _ _ _ _ _ hW (by assumption) (by assumption)).mono ?_); rintro e w1 ⟨rfl, hb⟩; (replace HM := HM.below hb; replace HB := HB.trans (hb.mono HB.size); clear hb)) | (go_at_call 39; (with_reducible refine (up_any _ _ _ _ hW0 hW).mono ?_); rintro e w1 ⟨rfl, hb⟩; (replace HM := HM.below hb; replace HB := HB.trans (hb.mono HB.size); clear hb)) | go_values | go_skip | go_guarded | go_step | go_upon | go_back | (dsimp only)))
        exact ⟨⟨k + 1, _, _, by omega, Lib.hid (by rw [hX.out]; exact mul_up x k W), Lib.hid (by rw [hO.out]; exact mul_bit0 Hy.out), by go_num, HB, HM⟩, by simp [intOf]; omega⟩
    · obtain rfl : k = W := by omega
      (repeat (first | with_reducible refine xThenN ?_ | with_reducible refine xThenE ?_ | with_reducible refine xThenR ?_ | with_reducible refine xThenP ?_ | with_reducible refine xBlockEq ?_ | with_reducible refine xBlockNe rfl ?_ | with_reducible refine xBlockN ?_ | with_reducible refine xBlockR ?_ | with_reducible refine xBlockP ?_ | ((with_reducible refine wl_id ?_); refine wl_loadL HM 3 _ rfl rfl _ rfl rfl ?_; simp only [Act.put, List.setIfInBounds_toArray, List.set_cons_succ, List.set_cons_zero]) | ((with_reducible refine wl_id ?_); refine wl_storeL HM 2 _ _ rfl rfl _ _ rfl rfl rfl ?_; intro w1 HM1 hb; (simp only [List.set_cons_succ, List.set_cons_zero] at HM1); clear HM; have HM := HM1; clear HM1; replace HB := HB.trans hb; clear hb; simp only [Act.put, List.setIfInBounds_toArray, List.set_cons_succ, List.set_cons_zero]) | go_values | go_skip | go_guarded | go_step | go_upon | go_back | (dsimp only)))
      refine bodyPost_ret (resL rfl _ HM 2 _ rfl rfl) rfl ⟨?_, HB⟩
      rw [hO.out, Nat.mod_eq_of_lt hy.out]

end Go.Proofs.Ytafjllfmagmhbaa
