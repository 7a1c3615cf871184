import Derived.Test.YtafjllfmagmhbaaY
set_option linter.unusedSimpArgs false
set_option linter.unusedVariables false
namespace Go.Proofs.Ytafjllfmagmhbaa
open Go.RowKit

set_option maxRecDepth 100000 in
set_option maxHeartbeats 1000000 in
theorem far_any (W y : Nat) (w : World) (hW : W ≤ 64) (hy : Hid (y < 18446744073709551616)) :
    Calls Try.prog 40 #[.int .i64 W, .agg (bw y)] w fun e w' => e = .returned (.int .i64 ((min y W : Nat) : Int)) ∧ Below w.heap.size w w' := by
  by_cases h : W < y
  · have hd : decide ((W : Int) < y) = true := by simp; omega
    go_enter Try.func40, Try.ntmps40
    (repeat (first | with_reducible refine xThenN ?_ | with_reducible refine xThenE ?_ | with_reducible refine xThenR ?_ | with_reducible refine xThenP ?_ | with_reducible refine xBlockEq ?_ | with_reducible refine xBlockNe rfl ?_ | with_reducible refine xBlockN ?_ | with_reducible refine xBlockR ?_ | with_reducible refine xBlockP ?_ | ((with_reducible refine wl_load29 rfl _ rfl ?_); apply Exists.intro; apply Exists.intro; refine ⟨rfl, ?_, ?_⟩; (· (repeat (first | (with_reducible assumption) | ((with_reducible refine heap_new _ _ _ ?_); (simp; done)) | ((with_reducible refine (heap_old _ _ _ ?_).trans ?_); (· (first | (simp; done) | (simp; omega) | omega))) | (with_reducible refine row_same ?_ _) | ((with_reducible refine row_other ?_ _ ?_); rotate_left; (· (first | (simp; done) | (simp; omega) | omega))) | (with_reducible refine row_cell _ _ _ _ _ ?_) | ((with_reducible refine (heap_setCell_other _ _ _ _ ?_).trans ?_); (· (first | (simp; done) | (simp; omega) | omega))) | rw [heap_drew] | rw [World.heap_drewN]))); simp only [Act.put, List.setIfInBounds_toArray, List.set_cons_succ, List.set_cons_zero]) | (go_at_call 15; (with_reducible refine (num_any _ _ (by assumption)).mono ?_); rintro e w1 ⟨rfl, hb⟩) | go_values | go_skip | go_guarded | go_step | go_upon | go_back | (dsimp only)))
    go_ret
    exact ⟨ret_int (by rw [Nat.min_eq_right (by omega)]), ((Below.refl _ _).alloc (Nat.le_refl _) _).trans (hb.mono (by simp))⟩
  · have hd : decide ((W : Int) < y) = false := by simp; omega
    have h2 : (y : Int) ≤ 64 := by omega
    go_enter Try.func40, Try.ntmps40
    (repeat (first | with_reducible refine xThenN ?_ | with_reducible refine xThenE ?_ | with_reducible refine xThenR ?_ | with_reducible refine xThenP ?_ | with_reducible refine xBlockEq ?_ | with_reducible refine xBlockNe rfl ?_ | with_reducible refine xBlockN ?_ | with_reducible refine xBlockR ?_ | with_reducible refine xBlockP ?_ | ((with_reducible refine wl_load29 rfl _ rfl ?_); apply Exists.intro; apply Exists.intro; refine ⟨rfl, ?_, ?_⟩; (· (repeat (first | (with_reducible assumption) | ((with_reducible refine heap_new _ _ _ ?_); (simp; done)) | ((with_reducible refine (heap_old _ _ _ ?_).trans ?_); (· (first | (simp; done) | (simp; omega) | omega))) | (with_reducible refine row_same ?_ _) | ((with_reducible refine row_other ?_ _ ?_); rotate_left; (· (first | (simp; done) | (simp; omega) | omega))) | (with_reducible refine row_cell _ _ _ _ _ ?_) | ((with_reducible refine (heap_setCell_other _ _ _ _ ?_).trans ?_); (· (first | (simp; done) | (simp; omega) | omega))) | rw [heap_drew] | rw [World.heap_drewN]))); simp only [Act.put, List.setIfInBounds_toArray, List.set_cons_succ, List.set_cons_zero]) | (go_at_call 15; (with_reducible refine (num_any _ _ (by assumption)).mono ?_); rintro e w1 ⟨rfl, hb⟩) | go_values | go_skip | go_guarded | go_step | go_upon | go_back | (dsimp only)))
    go_ret
    exact ⟨ret_int (by rw [Nat.min_eq_left (by omega)]), ((Below.refl _ _).alloc (Nat.le_refl _) _).trans (hb.mono (by simp))⟩

theorem mv16 (x k W : Nat) : (2 * (x * 2 ^ k % 2 ^ W) + false.toNat) % 2 ^ W = x * 2 ^ (k + 1) % 2 ^ W := mul_up x k W
theorem mv17 (x k : Nat) (W : Nat) : x / 2 ^ k / 2 + false.toNat * 2 ^ (W - 1) = x / 2 ^ (k + 1) := by
  rw [Bool.toNat_false, Nat.zero_mul, Nat.add_zero, Nat.div_div_eq_div_mul, Nat.pow_succ]


theorem lt_pow {n W : Nat} (h : n < 2 ^ W) (hW : W ≤ 64) : n < 18446744073709551616 := Nat.lt_of_lt_of_le h (pow_le64 hW)

def shl (x k W : Nat) : Nat := x * 2 ^ k % 2 ^ W
def shr (x k : Nat) : Nat := x / 2 ^ k
/-- down by k with b coming in, in W bits -/
def sar (b : Bool) (x W : Nat) : Nat → Nat
  | 0 => x
  | k + 1 => sar b x W k / 2 + b.toNat * 2 ^ (W - 1)
theorem sar_lt (b : Bool) {x W : Nat} (hW : 1 ≤ W) (hx : x < 2 ^ W) (k : Nat) : sar b x W k < 2 ^ W := by
  induction k with
  | zero => exact hx
  | succ k ih =>
    obtain ⟨V, rfl⟩ : ∃ V, W = V + 1 := ⟨W - 1, by omega⟩
    show sar b x (V + 1) k / 2 + b.toNat * 2 ^ (V + 1 - 1) < _
    rw [show V + 1 - 1 = V from by omega]
    rw [Nat.pow_succ] at *
    have := Bool.toNat_le b
    have h2 : b.toNat * 2 ^ V ≤ 1 * 2 ^ V := Nat.mul_le_mul_right _ this
    omega

set_option maxRecDepth 100000 in
set_option maxHeartbeats 1000000 in
theorem moved_up (W x y : Nat) (w : World) (hW0 : 1 ≤ W) (hW : W ≤ 64) (hx : Hid (x < 2 ^ W)) (hy : Hid (y < 2 ^ W)) :
    Calls Try.prog 36 #[.int .i64 16, .int .i64 W, .agg (bw x), .agg (bw y)] w fun e w' => e = .returned (.agg (bw (x * 2 ^ (min y W) % 2 ^ W))) ∧ Below w.heap.size w w' := by
  have hz := (zero_of_info zero29).1
  have hy64 : Hid (y < 18446744073709551616) := Lib.hid (lt_pow hy.out hW)
  go_enter Try.func36, Try.ntmps36
  (repeat (first | with_reducible refine xThenN ?_ | with_reducible refine xThenE ?_ | with_reducible refine xThenR ?_ | with_reducible refine xThenP ?_ | with_reducible refine xBlockEq ?_ | with_reducible refine xBlockNe rfl ?_ | with_reducible refine xBlockN ?_ | with_reducible refine xBlockR ?_ | with_reducible refine xBlockP ?_ | go_values | go_skip | go_guarded | go_step | go_upon | go_back | (dsimp only)))
  go_loopw [10] (fun i wr => ∃ k X : Nat, k ≤ min y W ∧ Hid (X = x * 2 ^ k % 2 ^ W) ∧ i = .int .i64 k ∧ Below w.heap.size w wr ∧ MemL wr w.heap.size [(bw X, 29), (bw y, 29), (bw 0, 29)]) (fun i _ => min y W - (intOf i).toNat)
  case atStart => exact ⟨0, x, by omega, Lib.hid (by rw [Nat.pow_zero, Nat.mul_one, Nat.mod_eq_of_lt hx.out]), rfl, by (repeat (first | with_reducible exact Below.refl _ _ | assumption | with_reducible refine below_drewN ?_ _ | with_reducible refine Below.drew ?_ | with_reducible refine Below.setRow ?_ ?_ _ | with_reducible refine Below.alloc ?_ ?_ _ | with_reducible refine Below.setCell ?_ ?_ _ | with_reducible exact Nat.le_refl _ | (focus (simp; done)) | (focus (simp; omega)) | omega)), (mem3 _ _ _ _ _ _ _).1⟩
  case round =>
    obtain ⟨k, X, hk, hX, rfl, HB, HM⟩ := hrel
    by_cases hlt : k < min y W
    · have hd : decide ((k : Int) < ((min y W : Nat) : Int)) = true := by simp; omega
      (repeat (first | with_reducible refine xThenN ?_ | with_reducible refine xThenE ?_ | with_reducible refine xThenR ?_ | with_reducible refine xThenP ?_ | with_reducible refine xBlockEq ?_ | with_reducible refine xBlockNe rfl ?_ | with_reducible refine xBlockN ?_ | with_reducible refine xBlockR ?_ | with_reducible refine xBlockP ?_ | ((with_reducible refine wl_id ?_); refine wl_loadL HM 0 _ rfl rfl _ rfl rfl ?_; simp only [Act.put, List.setIfInBounds_toArray, List.set_cons_succ, List.set_cons_zero]) | ((with_reducible refine wl_id ?_); refine wl_loadL HM 1 _ rfl rfl _ rfl rfl ?_; simp only [Act.put, List.setIfInBounds_toArray, List.set_cons_succ, List.set_cons_zero]) | ((with_reducible refine wl_id ?_); refine wl_storeL HM 0 _ _ rfl rfl _ _ rfl rfl rfl ?_; intro w1 HM1 hb; (simp only [List.set_cons_succ, List.set_cons_zero] at HM1); clear HM; have HM := HM1; clear HM1; replace HB := HB.trans hb; clear hb; simp only [Act.put, List.setIfInBounds_toArray, List.set_cons_succ, List.set_cons_zero]) | (go_at_call 40; (with_reducible refine (far_any _ _ _ hW (by assumption)).mono ?_); rintro e w1 ⟨rfl, hb⟩; (replace HM := HM.below hb; replace HB := HB.trans (hb.mono HB.size); clear hb)) | (go_at_call 39; (with_reducible refine (up_any _ _ _ _ hW0 hW).mono ?_); rintro e w1 ⟨rfl, hb⟩; (replace HM := HM.below hb; replace HB := HB.trans (hb.mono HB.size); clear hb)) | go_values | go_skip | go_guarded | go_step | go_upon | go_back | (dsimp only)))
      exact ⟨⟨k + 1, _, by omega, Lib.hid (by rw [hX.out]; exact mul_up x k W), by go_num, HB, HM⟩, by simp [intOf]; omega⟩
    · have hd : decide ((k : Int) < ((min y W : Nat) : Int)) = false := by simp; omega
      (repeat (first | with_reducible refine xThenN ?_ | with_reducible refine xThenE ?_ | with_reducible refine xThenR ?_ | with_reducible refine xThenP ?_ | with_reducible refine xBlockEq ?_ | with_reducible refine xBlockNe rfl ?_ | with_reducible refine xBlockN ?_ | with_reducible refine xBlockR ?_ | with_reducible refine xBlockP ?_ | ((with_reducible refine wl_id ?_); refine wl_loadL HM 0 _ rfl rfl _ rfl rfl ?_; simp only [Act.put, List.setIfInBounds_toArray, List.set_cons_succ, List.set_cons_zero]) | ((with_reducible refine wl_id ?_); refine wl_loadL HM 1 _ rfl rfl _ rfl rfl ?_; simp only [Act.put, List.setIfInBounds_toArray, List.set_cons_succ, List.set_cons_zero]) | ((with_reducible refine wl_id ?_); refine wl_storeL HM 2 _ _ rfl rfl _ _ rfl rfl rfl ?_; intro w1 HM1 hb; (simp only [List.set_cons_succ, List.set_cons_zero] at HM1); clear HM; have HM := HM1; clear HM1; replace HB := HB.trans hb; clear hb; simp only [Act.put, List.setIfInBounds_toArray, List.set_cons_succ, List.set_cons_zero]) | (go_at_call 40; (with_reducible refine (far_any _ _ _ hW (by assumption)).mono ?_); rintro e w1 ⟨rfl, hb⟩; (replace HM := HM.below hb; replace HB := HB.trans (hb.mono HB.size); clear hb)) | (go_at_call 39; (with_reducible refine (up_any _ _ _ _ hW0 hW).mono ?_); rintro e w1 ⟨rfl, hb⟩; (replace HM := HM.below hb; replace HB := HB.trans (hb.mono HB.size); clear hb)) | go_values | go_skip | go_guarded | go_step | go_upon | go_back | (dsimp only)))
      refine bodyPost_ret (resL rfl _ HM 2 _ rfl rfl) rfl ⟨?_, HB⟩
      rw [hX.out, show k = min y W by omega]

theorem bitL' {w : World} {B : Nat} {l : List (Array Value × TypeId)} (HM : MemL w B l) (i n : Nat) (hi : l[i]? = some (bw n, 29)) (k : Nat) (hk : k < 64) : w.cell? ⟨B + i, k, none⟩ = some (.bool (n.testBit k)) := bitL HM i n hi k hk

set_option maxRecDepth 100000 in
set_option maxHeartbeats 1000000 in
theorem moved_17 (W x y : Nat) (w : World) (hW0 : 1 ≤ W) (hW : W ≤ 64) (hx : Hid (x < 2 ^ W)) (hy : Hid (y < 2 ^ W)) :
    Calls Try.prog 36 #[.int .i64 17, .int .i64 W, .agg (bw x), .agg (bw y)] w fun e w' => e = .returned (.agg (bw (sar false x W (min y W)))) ∧ Below w.heap.size w w' := by
  have hz := (zero_of_info zero29).1
  have hy64 : Hid (y < 18446744073709551616) := Lib.hid (lt_pow hy.out hW)
  have hrx := bw_get x (W - 1) (by omega)
  have hidx : ((W : Int) - 1).toNat = W - 1 := by omega
  have b0 : (0 : Int) ≤ (W : Int) - 1 := by omega
  have b1 : (W : Int) - 1 < 64 := by omega
  go_enter Try.func36, Try.ntmps36
  (repeat (first | with_reducible refine xThenN ?_ | with_reducible refine xThenE ?_ | with_reducible refine xThenR ?_ | with_reducible refine xThenP ?_ | with_reducible refine xBlockEq ?_ | with_reducible refine xBlockNe rfl ?_ | with_reducible refine xBlockN ?_ | with_reducible refine xBlockR ?_ | with_reducible refine xBlockP ?_ | go_values | go_skip | go_guarded | go_step | go_upon | go_back | (dsimp only)))
  go_loopw [10] (fun i wr => ∃ k X : Nat, k ≤ min y W ∧ Hid (X = sar false x W k) ∧ i = .int .i64 k ∧ Below w.heap.size w wr ∧ MemL wr w.heap.size [(bw X, 29), (bw y, 29), (bw 0, 29)]) (fun i _ => min y W - (intOf i).toNat)
  case atStart => exact ⟨0, x, by omega, Lib.hid rfl, rfl, by (repeat (first | with_reducible exact Below.refl _ _ | assumption | with_reducible refine below_drewN ?_ _ | with_reducible refine Below.drew ?_ | with_reducible refine Below.setRow ?_ ?_ _ | with_reducible refine Below.alloc ?_ ?_ _ | with_reducible refine Below.setCell ?_ ?_ _ | with_reducible exact Nat.le_refl _ | (focus (simp; done)) | (focus (simp; omega)) | omega)), (mem3 _ _ _ _ _ _ _).1⟩
  case round =>
    obtain ⟨k, X, hk, hX, rfl, HB, HM⟩ := hrel
    have hXl : Hid (X < 2 ^ W) := Lib.hid (by rw [hX.out]; exact sar_lt _ (by omega) hx.out _)
    by_cases hlt : k < min y W
    · have hd : decide ((k : Int) < ((min y W : Nat) : Int)) = true := by simp; omega
      (repeat (first | with_reducible refine xThenN ?_ | with_reducible refine xThenE ?_ | with_reducible refine xThenR ?_ | with_reducible refine xThenP ?_ | with_reducible refine xBlockEq ?_ | with_reducible refine xBlockNe rfl ?_ | with_reducible refine xBlockN ?_ | with_reducible refine xBlockR ?_ | with_reducible refine xBlockP ?_ | ((with_reducible refine wl_id ?_); refine wl_loadL HM 0 _ rfl rfl _ rfl rfl ?_; simp only [Act.put, List.setIfInBounds_toArray, List.set_cons_succ, List.set_cons_zero]) | ((with_reducible refine wl_id ?_); refine wl_loadL HM 1 _ rfl rfl _ rfl rfl ?_; simp only [Act.put, List.setIfInBounds_toArray, List.set_cons_succ, List.set_cons_zero]) | ((with_reducible refine wl_id ?_); refine wl_storeL HM 0 _ _ rfl rfl _ _ rfl rfl rfl ?_; intro w1 HM1 hb; (simp only [List.set_cons_succ, List.set_cons_zero] at HM1); clear HM; have HM := HM1; clear HM1; replace HB := HB.trans hb; clear hb; simp only [Act.put, List.setIfInBounds_toArray, List.set_cons_succ, List.set_cons_zero]) | (go_at_call 40; (with_reducible refine (far_any _ _ _ hW (by assumption)).mono ?_); rintro e w1 ⟨rfl, hb⟩; (replace HM := HM.below hb; replace HB := HB.trans (hb.mono HB.size); clear hb)) | (go_at_call 41; (with_reducible refine (down_any _ _ _ _ hW0 hW (by assumption)).mono ?_); rintro e w1 ⟨rfl, hb⟩; (replace HM := HM.below hb; replace HB := HB.trans (hb.mono HB.size); clear hb)) | go_values | go_skip | go_guarded | go_step | go_upon | go_back | (dsimp only)))
      exact ⟨⟨k + 1, _, by omega, Lib.hid (by rw [hX.out]; rfl), by go_num, HB, HM⟩, by simp [intOf]; omega⟩
    · have hd : decide ((k : Int) < ((min y W : Nat) : Int)) = false := by simp; omega
      (repeat (first | with_reducible refine xThenN ?_ | with_reducible refine xThenE ?_ | with_reducible refine xThenR ?_ | with_reducible refine xThenP ?_ | with_reducible refine xBlockEq ?_ | with_reducible refine xBlockNe rfl ?_ | with_reducible refine xBlockN ?_ | with_reducible refine xBlockR ?_ | with_reducible refine xBlockP ?_ | ((with_reducible refine wl_id ?_); refine wl_loadL HM 0 _ rfl rfl _ rfl rfl ?_; simp only [Act.put, List.setIfInBounds_toArray, List.set_cons_succ, List.set_cons_zero]) | ((with_reducible refine wl_id ?_); refine wl_loadL HM 1 _ rfl rfl _ rfl rfl ?_; simp only [Act.put, List.setIfInBounds_toArray, List.set_cons_succ, List.set_cons_zero]) | ((with_reducible refine wl_id ?_); refine wl_storeL HM 2 _ _ rfl rfl _ _ rfl rfl rfl ?_; intro w1 HM1 hb; (simp only [List.set_cons_succ, List.set_cons_zero] at HM1); clear HM; have HM := HM1; clear HM1; replace HB := HB.trans hb; clear hb; simp only [Act.put, List.setIfInBounds_toArray, List.set_cons_succ, List.set_cons_zero]) | (go_at_call 40; (with_reducible refine (far_any _ _ _ hW (by assumption)).mono ?_); rintro e w1 ⟨rfl, hb⟩; (replace HM := HM.below hb; replace HB := HB.trans (hb.mono HB.size); clear hb)) | go_values | go_skip | go_guarded | go_step | go_upon | go_back | (dsimp only)))
      refine bodyPost_ret (resL rfl _ HM 2 _ rfl rfl) rfl ⟨?_, HB⟩
      rw [hX.out, show k = min y W by omega]

set_option maxRecDepth 100000 in
set_option maxHeartbeats 1000000 in
theorem moved_18 (W x y : Nat) (w : World) (hW0 : 1 ≤ W) (hW : W ≤ 64) (hx : Hid (x < 2 ^ W)) (hy : Hid (y < 2 ^ W)) :
    Calls Try.prog 36 #[.int .i64 18, .int .i64 W, .agg (bw x), .agg (bw y)] w fun e w' => e = .returned (.agg (bw (sar (x.testBit (W - 1)) x W (min y W)))) ∧ Below w.heap.size w w' := by
  have hz := (zero_of_info zero29).1
  have hy64 : Hid (y < 18446744073709551616) := Lib.hid (lt_pow hy.out hW)
  have hrx := bw_get x (W - 1) (by omega)
  have hidx : ((W : Int) - 1).toNat = W - 1 := by omega
  have b0 : (0 : Int) ≤ (W : Int) - 1 := by omega
  have b1 : (W : Int) - 1 < 64 := by omega
  go_enter Try.func36, Try.ntmps36
  (repeat (first | with_reducible refine xThenN ?_ | with_reducible refine xThenE ?_ | with_reducible refine xThenR ?_ | with_reducible refine xThenP ?_ | with_reducible refine xBlockEq ?_ | with_reducible refine xBlockNe rfl ?_ | with_reducible refine xBlockN ?_ | with_reducible refine xBlockR ?_ | with_reducible refine xBlockP ?_ | go_values | go_skip | go_guarded | go_step | go_upon | go_back | (dsimp only)))
  go_loopw [10] (fun i wr => ∃ k X : Nat, k ≤ min y W ∧ Hid (X = sar (x.testBit (W - 1)) x W k) ∧ i = .int .i64 k ∧ Below w.heap.size w wr ∧ MemL wr w.heap.size [(bw X, 29), (bw y, 29), (bw 0, 29)]) (fun i _ => min y W - (intOf i).toNat)
  case atStart => exact ⟨0, x, by omega, Lib.hid rfl, rfl, by (repeat (first | with_reducible exact Below.refl _ _ | assumption | with_reducible refine below_drewN ?_ _ | with_reducible refine Below.drew ?_ | with_reducible refine Below.setRow ?_ ?_ _ | with_reducible refine Below.alloc ?_ ?_ _ | with_reducible refine Below.setCell ?_ ?_ _ | with_reducible exact Nat.le_refl _ | (focus (simp; done)) | (focus (simp; omega)) | omega)), (mem3 _ _ _ _ _ _ _).1⟩
  case round =>
    obtain ⟨k, X, hk, hX, rfl, HB, HM⟩ := hrel
    have hXl : Hid (X < 2 ^ W) := Lib.hid (by rw [hX.out]; exact sar_lt _ (by omega) hx.out _)
    by_cases hlt : k < min y W
    · have hd : decide ((k : Int) < ((min y W : Nat) : Int)) = true := by simp; omega
      (repeat (first | with_reducible refine xThenN ?_ | with_reducible refine xThenE ?_ | with_reducible refine xThenR ?_ | with_reducible refine xThenP ?_ | with_reducible refine xBlockEq ?_ | with_reducible refine xBlockNe rfl ?_ | with_reducible refine xBlockN ?_ | with_reducible refine xBlockR ?_ | with_reducible refine xBlockP ?_ | ((with_reducible refine wl_id ?_); refine wl_loadL HM 0 _ rfl rfl _ rfl rfl ?_; simp only [Act.put, List.setIfInBounds_toArray, List.set_cons_succ, List.set_cons_zero]) | ((with_reducible refine wl_id ?_); refine wl_loadL HM 1 _ rfl rfl _ rfl rfl ?_; simp only [Act.put, List.setIfInBounds_toArray, List.set_cons_succ, List.set_cons_zero]) | ((with_reducible refine wl_id ?_); refine wl_storeL HM 0 _ _ rfl rfl _ _ rfl rfl rfl ?_; intro w1 HM1 hb; (simp only [List.set_cons_succ, List.set_cons_zero] at HM1); clear HM; have HM := HM1; clear HM1; replace HB := HB.trans hb; clear hb; simp only [Act.put, List.setIfInBounds_toArray, List.set_cons_succ, List.set_cons_zero]) | (go_at_call 40; (with_reducible refine (far_any _ _ _ hW (by assumption)).mono ?_); rintro e w1 ⟨rfl, hb⟩; (replace HM := HM.below hb; replace HB := HB.trans (hb.mono HB.size); clear hb)) | (go_at_call 41; (with_reducible refine (down_any _ _ _ _ hW0 hW (by assumption)).mono ?_); rintro e w1 ⟨rfl, hb⟩; (replace HM := HM.below hb; replace HB := HB.trans (hb.mono HB.size); clear hb)) | go_values | go_skip | go_guarded | go_step | go_upon | go_back | (dsimp only)))
      exact ⟨⟨k + 1, _, by omega, Lib.hid (by rw [hX.out]; rfl), by go_num, HB, HM⟩, by simp [intOf]; omega⟩
    · have hd : decide ((k : Int) < ((min y W : Nat) : Int)) = false := by simp; omega
      (repeat (first | with_reducible refine xThenN ?_ | with_reducible refine xThenE ?_ | with_reducible refine xThenR ?_ | with_reducible refine xThenP ?_ | with_reducible refine xBlockEq ?_ | with_reducible refine xBlockNe rfl ?_ | with_reducible refine xBlockN ?_ | with_reducible refine xBlockR ?_ | with_reducible refine xBlockP ?_ | ((with_reducible refine wl_id ?_); refine wl_loadL HM 0 _ rfl rfl _ rfl rfl ?_; simp only [Act.put, List.setIfInBounds_toArray, List.set_cons_succ, List.set_cons_zero]) | ((with_reducible refine wl_id ?_); refine wl_loadL HM 1 _ rfl rfl _ rfl rfl ?_; simp only [Act.put, List.setIfInBounds_toArray, List.set_cons_succ, List.set_cons_zero]) | ((with_reducible refine wl_id ?_); refine wl_storeL HM 2 _ _ rfl rfl _ _ rfl rfl rfl ?_; intro w1 HM1 hb; (simp only [List.set_cons_succ, List.set_cons_zero] at HM1); clear HM; have HM := HM1; clear HM1; replace HB := HB.trans hb; clear hb; simp only [Act.put, List.setIfInBounds_toArray, List.set_cons_succ, List.set_cons_zero]) | (go_at_call 40; (with_reducible refine (far_any _ _ _ hW (by assumption)).mono ?_); rintro e w1 ⟨rfl, hb⟩; (replace HM := HM.below hb; replace HB := HB.trans (hb.mono HB.size); clear hb)) | go_values | go_skip | go_guarded | go_step | go_upon | go_back | (dsimp only)))
      refine bodyPost_ret (resL rfl _ HM 2 _ rfl rfl) rfl ⟨?_, HB⟩
      rw [hX.out, show k = min y W by omega]

end Go.Proofs.Ytafjllfmagmhbaa
