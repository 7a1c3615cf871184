import Derived.Test.YtmaogkgjiplckaaGreatQW5
import Derived.StillTail
import Derived.KernelRfl
import Derived.OrdersHeld
import Derived.Test.YtmaogkgjiplckaaGreatQW4
set_option linter.unusedVariables false
set_option linter.unusedSimpArgs false
namespace Go.Proofs.YtmaogkgjiplckaaGreat
open Go.RowKit
theorem row_cell (w : World) (b i n : Nat) (v : Bool) (h : w.heap[b]? = some (.cells (bw n) 134 (0, 0))) : (w.setCell ⟨b, i, none⟩ (.bool v)).heap[b]? = some (.cells (bw (setb n i v)) 134 (0, 0)) := by
  rw [heap_setCell_same w b i (bw n) 134 _ h, bw_set]
theorem bit_step {z k m : Nat} (hm : m = z % 2 ^ k) : setb m k (z.testBit k) = z % 2 ^ (k + 1) := by
  rw [hm, setb_lt (Nat.mod_lt _ (Nat.pow_pos (by omega))), mod_succ]
theorem and_lt2 {W x y : Nat} (hx : x < 2 ^ W) : x &&& y < 2 ^ W := by
  rw [Nat.and_comm]; exact Nat.and_lt_two_pow _ hx
set_option maxRecDepth 100000 in
set_option maxHeartbeats 2000000 in
theorem bitwise_13 (W x y : Nat) (w : World) (hW : W ≤ 64) (hx : Hid (x < 2 ^ W)) (hy : Hid (y < 2 ^ W)) :
    Calls Tryz.prog 101 #[.int .i64 13, .int .i64 W, .agg (bw x), .agg (bw y)] w fun e w' => e = .returned (.agg (bw (x &&& y))) ∧ Below w.heap.size w w' := by
  have hz := (zero_of_info zero29).1
  go_enter Tryz.func101, Tryz.ntmps101
  (repeat (first | (with_reducible first | refine xA ?_ | refine xB ?_ | refine xC ?_ | refine xD ?_ | refine xH ?_ | refine xI rfl ?_ | refine xE ?_ | refine xF ?_ | refine xG ?_) | go_values | go_skip | go_guarded | go_step | go_upon | go_back | ((with_reducible show Oper.upon _ _ _ _ _ _); go_simp) | (dsimp only)))
  go_loopw [10] (fun i wr => ∃ k m : Nat, k ≤ W ∧ Hid (m = (x &&& y) % 2 ^ k) ∧ i = .int .i64 k ∧ wr = ((((w.alloc (.cells (bw x) 134)).alloc (.cells (bw y) 134)).alloc (.cells (bw 0) 134)).alloc (.cells (bw m) 134))) (fun i _ => W - (intOf i).toNat)
  case atStart => exact ⟨0, 0, by omega, Lib.hid (by simp [Nat.mod_one]), rfl, rfl⟩
  case round =>
    obtain ⟨k, m, hk, hm, rfl, rfl⟩ := hrel
    by_cases hlt : k < W
    · have hs := bw_set m k
      have hr := bw_get m k (by omega)
      have hrx := bw_get x k (by omega)
      have hry := bw_get y k (by omega)
      have b0 : (0 : Int) ≤ k := by omega
      have b1 : (k : Int) < 64 := by omega
      have H := Lib.hid (bit_step hm.out)
      cases hbx : x.testBit k <;> cases hby : y.testBit k
      all_goals
        have Hx := Lib.hid hbx
        have Hy := Lib.hid hby
        rw [hbx] at hrx
        rw [hby] at hry
        clear hbx hby
        (repeat (first | (with_reducible first | refine xA ?_ | refine xB ?_ | refine xC ?_ | refine xD ?_ | refine xH ?_ | refine xI rfl ?_ | refine xE ?_ | refine xF ?_ | refine xG ?_) | go_values | go_skip | go_guarded | go_step | go_upon | go_back | ((with_reducible show Oper.upon _ _ _ _ _ _); go_simp) | (dsimp only)))
        exact ⟨⟨k + 1, _, by omega, Lib.hid (by have h := H.out; rw [Nat.testBit_and, Hx.out, Hy.out] at h; exact h), by go_num, rfl⟩, by simp [intOf]; omega⟩
    · obtain rfl : k = W := by omega
      (repeat (first | (with_reducible first | refine xA ?_ | refine xB ?_ | refine xC ?_ | refine xD ?_ | refine xH ?_ | refine xI rfl ?_ | refine xE ?_ | refine xF ?_ | refine xG ?_) | go_skip | go_guarded | ((with_reducible refine wl_load29 rfl _ rfl ?_); apply Exists.intro; apply Exists.intro; refine ⟨rfl, ?_, ?_⟩; (· (repeat (first | (with_reducible assumption) | ((with_reducible refine heap_new _ _ _ ?_); (simp; done)) | ((with_reducible refine (heap_old _ _ _ ?_).trans ?_); (· (first | (simp; done) | (simp; omega) | omega))) | (with_reducible refine row_same ?_ _) | ((with_reducible refine row_other ?_ _ ?_); rotate_left; (· (first | (simp; done) | (simp; omega) | omega))) | (with_reducible refine row_cell _ _ _ _ _ ?_) | ((with_reducible refine (heap_setCell_other _ _ _ _ ?_).trans ?_); (· (first | (simp; done) | (simp; omega) | omega))) | rw [heap_drew] | rw [World.heap_drewN]))); simp only [Act.put, qz4, qz5, qz6]) | ((with_reducible refine wl_store29 rfl _ _ rfl ?_); apply Exists.intro; apply Exists.intro; apply Exists.intro; refine ⟨rfl, rfl, ?_, ?_⟩; (· (repeat (first | (with_reducible assumption) | ((with_reducible refine heap_new _ _ _ ?_); (simp; done)) | ((with_reducible refine (heap_old _ _ _ ?_).trans ?_); (· (first | (simp; done) | (simp; omega) | omega))) | (with_reducible refine row_same ?_ _) | ((with_reducible refine row_other ?_ _ ?_); rotate_left; (· (first | (simp; done) | (simp; omega) | omega))) | (with_reducible refine row_cell _ _ _ _ _ ?_) | ((with_reducible refine (heap_setCell_other _ _ _ _ ?_).trans ?_); (· (first | (simp; done) | (simp; omega) | omega))) | rw [heap_drew] | rw [World.heap_drewN]))); simp only [Act.put, qz4, qz5, qz6]) | go_values | go_skip | go_guarded | go_step | go_upon | go_back | ((with_reducible show Oper.upon _ _ _ _ _ _); go_simp) | (dsimp only)))
      refine bodyPost_ret (res29 rfl _ _ _ _ rfl (row_same (n := 0) (by (repeat (first | (with_reducible assumption) | ((with_reducible refine heap_new _ _ _ ?_); (simp; done)) | ((with_reducible refine (heap_old _ _ _ ?_).trans ?_); (· (first | (simp; done) | (simp; omega) | omega))) | (with_reducible refine row_same ?_ _) | ((with_reducible refine row_other ?_ _ ?_); rotate_left; (· (first | (simp; done) | (simp; omega) | omega))) | (with_reducible refine row_cell _ _ _ _ _ ?_) | ((with_reducible refine (heap_setCell_other _ _ _ _ ?_).trans ?_); (· (first | (simp; done) | (simp; omega) | omega))) | rw [heap_drew] | rw [World.heap_drewN]))) _)) rfl ⟨?_, ?_⟩
      · rw [hm.out, Nat.mod_eq_of_lt (and_lt2 hx.out)]
      · refine Below.setRow ?_ (by omega) _
        (repeat (first | with_reducible exact Below.refl _ _ | assumption | with_reducible refine below_drewN ?_ _ | with_reducible refine Below.drew ?_ | with_reducible refine Below.setRow ?_ ?_ _ | with_reducible refine Below.alloc ?_ ?_ _ | with_reducible refine Below.setCell ?_ ?_ _ | with_reducible exact Nat.le_refl _ | (focus (simp; done)) | (focus (simp; omega)) | omega))
set_option maxRecDepth 100000 in
set_option maxHeartbeats 2000000 in
theorem bitwise_14 (W x y : Nat) (w : World) (hW : W ≤ 64) (hx : Hid (x < 2 ^ W)) (hy : Hid (y < 2 ^ W)) :
    Calls Tryz.prog 101 #[.int .i64 14, .int .i64 W, .agg (bw x), .agg (bw y)] w fun e w' => e = .returned (.agg (bw (x ||| y))) ∧ Below w.heap.size w w' := by
  have hz := (zero_of_info zero29).1
  go_enter Tryz.func101, Tryz.ntmps101
  (repeat (first | (with_reducible first | refine xA ?_ | refine xB ?_ | refine xC ?_ | refine xD ?_ | refine xH ?_ | refine xI rfl ?_ | refine xE ?_ | refine xF ?_ | refine xG ?_) | go_values | go_skip | go_guarded | go_step | go_upon | go_back | ((with_reducible show Oper.upon _ _ _ _ _ _); go_simp) | (dsimp only)))
  go_loopw [10] (fun i wr => ∃ k m : Nat, k ≤ W ∧ Hid (m = (x ||| y) % 2 ^ k) ∧ i = .int .i64 k ∧ wr = ((((w.alloc (.cells (bw x) 134)).alloc (.cells (bw y) 134)).alloc (.cells (bw 0) 134)).alloc (.cells (bw m) 134))) (fun i _ => W - (intOf i).toNat)
  case atStart => exact ⟨0, 0, by omega, Lib.hid (by simp [Nat.mod_one]), rfl, rfl⟩
  case round =>
    obtain ⟨k, m, hk, hm, rfl, rfl⟩ := hrel
    by_cases hlt : k < W
    · have hs := bw_set m k
      have hr := bw_get m k (by omega)
      have hrx := bw_get x k (by omega)
      have hry := bw_get y k (by omega)
      have b0 : (0 : Int) ≤ k := by omega
      have b1 : (k : Int) < 64 := by omega
      have H := Lib.hid (bit_step hm.out)
      cases hbx : x.testBit k <;> cases hby : y.testBit k
      all_goals
        have Hx := Lib.hid hbx
        have Hy := Lib.hid hby
        rw [hbx] at hrx
        rw [hby] at hry
        clear hbx hby
        (repeat (first | (with_reducible first | refine xA ?_ | refine xB ?_ | refine xC ?_ | refine xD ?_ | refine xH ?_ | refine xI rfl ?_ | refine xE ?_ | refine xF ?_ | refine xG ?_) | go_values | go_skip | go_guarded | go_step | go_upon | go_back | ((with_reducible show Oper.upon _ _ _ _ _ _); go_simp) | (dsimp only)))
        exact ⟨⟨k + 1, _, by omega, Lib.hid (by have h := H.out; rw [Nat.testBit_or, Hx.out, Hy.out] at h; exact h), by go_num, rfl⟩, by simp [intOf]; omega⟩
    · obtain rfl : k = W := by omega
      (repeat (first | (with_reducible first | refine xA ?_ | refine xB ?_ | refine xC ?_ | refine xD ?_ | refine xH ?_ | refine xI rfl ?_ | refine xE ?_ | refine xF ?_ | refine xG ?_) | go_skip | go_guarded | ((with_reducible refine wl_load29 rfl _ rfl ?_); apply Exists.intro; apply Exists.intro; refine ⟨rfl, ?_, ?_⟩; (· (repeat (first | (with_reducible assumption) | ((with_reducible refine heap_new _ _ _ ?_); (simp; done)) | ((with_reducible refine (heap_old _ _ _ ?_).trans ?_); (· (first | (simp; done) | (simp; omega) | omega))) | (with_reducible refine row_same ?_ _) | ((with_reducible refine row_other ?_ _ ?_); rotate_left; (· (first | (simp; done) | (simp; omega) | omega))) | (with_reducible refine row_cell _ _ _ _ _ ?_) | ((with_reducible refine (heap_setCell_other _ _ _ _ ?_).trans ?_); (· (first | (simp; done) | (simp; omega) | omega))) | rw [heap_drew] | rw [World.heap_drewN]))); simp only [Act.put, qz4, qz5, qz6]) | ((with_reducible refine wl_store29 rfl _ _ rfl ?_); apply Exists.intro; apply Exists.intro; apply Exists.intro; refine ⟨rfl, rfl, ?_, ?_⟩; (· (repeat (first | (with_reducible assumption) | ((with_reducible refine heap_new _ _ _ ?_); (simp; done)) | ((with_reducible refine (heap_old _ _ _ ?_).trans ?_); (· (first | (simp; done) | (simp; omega) | omega))) | (with_reducible refine row_same ?_ _) | ((with_reducible refine row_other ?_ _ ?_); rotate_left; (· (first | (simp; done) | (simp; omega) | omega))) | (with_reducible refine row_cell _ _ _ _ _ ?_) | ((with_reducible refine (heap_setCell_other _ _ _ _ ?_).trans ?_); (· (first | (simp; done) | (simp; omega) | omega))) | rw [heap_drew] | rw [World.heap_drewN]))); simp only [Act.put, qz4, qz5, qz6]) | go_values | go_skip | go_guarded | go_step | go_upon | go_back | ((with_reducible show Oper.upon _ _ _ _ _ _); go_simp) | (dsimp only)))
      refine bodyPost_ret (res29 rfl _ _ _ _ rfl (row_same (n := 0) (by (repeat (first | (with_reducible assumption) | ((with_reducible refine heap_new _ _ _ ?_); (simp; done)) | ((with_reducible refine (heap_old _ _ _ ?_).trans ?_); (· (first | (simp; done) | (simp; omega) | omega))) | (with_reducible refine row_same ?_ _) | ((with_reducible refine row_other ?_ _ ?_); rotate_left; (· (first | (simp; done) | (simp; omega) | omega))) | (with_reducible refine row_cell _ _ _ _ _ ?_) | ((with_reducible refine (heap_setCell_other _ _ _ _ ?_).trans ?_); (· (first | (simp; done) | (simp; omega) | omega))) | rw [heap_drew] | rw [World.heap_drewN]))) _)) rfl ⟨?_, ?_⟩
      · rw [hm.out, Nat.mod_eq_of_lt (Nat.or_lt_two_pow hx.out hy.out)]
      · refine Below.setRow ?_ (by omega) _
        (repeat (first | with_reducible exact Below.refl _ _ | assumption | with_reducible refine below_drewN ?_ _ | with_reducible refine Below.drew ?_ | with_reducible refine Below.setRow ?_ ?_ _ | with_reducible refine Below.alloc ?_ ?_ _ | with_reducible refine Below.setCell ?_ ?_ _ | with_reducible exact Nat.le_refl _ | (focus (simp; done)) | (focus (simp; omega)) | omega))
set_option maxRecDepth 100000 in
set_option maxHeartbeats 2000000 in
theorem bitwise_15 (W x y : Nat) (w : World) (hW : W ≤ 64) (hx : Hid (x < 2 ^ W)) (hy : Hid (y < 2 ^ W)) :
    Calls Tryz.prog 101 #[.int .i64 15, .int .i64 W, .agg (bw x), .agg (bw y)] w fun e w' => e = .returned (.agg (bw (x ^^^ y))) ∧ Below w.heap.size w w' := by
  have hz := (zero_of_info zero29).1
  go_enter Tryz.func101, Tryz.ntmps101
  (repeat (first | (with_reducible first | refine xA ?_ | refine xB ?_ | refine xC ?_ | refine xD ?_ | refine xH ?_ | refine xI rfl ?_ | refine xE ?_ | refine xF ?_ | refine xG ?_) | go_values | go_skip | go_guarded | go_step | go_upon | go_back | ((with_reducible show Oper.upon _ _ _ _ _ _); go_simp) | (dsimp only)))
  go_loopw [10] (fun i wr => ∃ k m : Nat, k ≤ W ∧ Hid (m = (x ^^^ y) % 2 ^ k) ∧ i = .int .i64 k ∧ Below w.heap.size w wr ∧ wr.heap[w.heap.size]? = some (.cells (bw x) 134 (0, 0)) ∧ wr.heap[w.heap.size + 1]? = some (.cells (bw y) 134 (0, 0)) ∧ wr.heap[w.heap.size + 1 + 1]? = some (.cells (bw 0) 134 (0, 0)) ∧ wr.heap[w.heap.size + 1 + 1 + 1]? = some (.cells (bw m) 134 (0, 0))) (fun i _ => W - (intOf i).toNat)
  case atStart => exact ⟨0, 0, by omega, Lib.hid (by simp [Nat.mod_one]), rfl, by (repeat (first | with_reducible exact Below.refl _ _ | assumption | with_reducible refine below_drewN ?_ _ | with_reducible refine Below.drew ?_ | with_reducible refine Below.setRow ?_ ?_ _ | with_reducible refine Below.alloc ?_ ?_ _ | with_reducible refine Below.setCell ?_ ?_ _ | with_reducible exact Nat.le_refl _ | (focus (simp; done)) | (focus (simp; omega)) | omega)), by (repeat (first | (with_reducible assumption) | ((with_reducible refine heap_new _ _ _ ?_); (simp; done)) | ((with_reducible refine (heap_old _ _ _ ?_).trans ?_); (· (first | (simp; done) | (simp; omega) | omega))) | (with_reducible refine row_same ?_ _) | ((with_reducible refine row_other ?_ _ ?_); rotate_left; (· (first | (simp; done) | (simp; omega) | omega))) | (with_reducible refine row_cell _ _ _ _ _ ?_) | ((with_reducible refine (heap_setCell_other _ _ _ _ ?_).trans ?_); (· (first | (simp; done) | (simp; omega) | omega))) | rw [heap_drew] | rw [World.heap_drewN])), by (repeat (first | (with_reducible assumption) | ((with_reducible refine heap_new _ _ _ ?_); (simp; done)) | ((with_reducible refine (heap_old _ _ _ ?_).trans ?_); (· (first | (simp; done) | (simp; omega) | omega))) | (with_reducible refine row_same ?_ _) | ((with_reducible refine row_other ?_ _ ?_); rotate_left; (· (first | (simp; done) | (simp; omega) | omega))) | (with_reducible refine row_cell _ _ _ _ _ ?_) | ((with_reducible refine (heap_setCell_other _ _ _ _ ?_).trans ?_); (· (first | (simp; done) | (simp; omega) | omega))) | rw [heap_drew] | rw [World.heap_drewN])), by (repeat (first | (with_reducible assumption) | ((with_reducible refine heap_new _ _ _ ?_); (simp; done)) | ((with_reducible refine (heap_old _ _ _ ?_).trans ?_); (· (first | (simp; done) | (simp; omega) | omega))) | (with_reducible refine row_same ?_ _) | ((with_reducible refine row_other ?_ _ ?_); rotate_left; (· (first | (simp; done) | (simp; omega) | omega))) | (with_reducible refine row_cell _ _ _ _ _ ?_) | ((with_reducible refine (heap_setCell_other _ _ _ _ ?_).trans ?_); (· (first | (simp; done) | (simp; omega) | omega))) | rw [heap_drew] | rw [World.heap_drewN])), by (repeat (first | (with_reducible assumption) | ((with_reducible refine heap_new _ _ _ ?_); (simp; done)) | ((with_reducible refine (heap_old _ _ _ ?_).trans ?_); (· (first | (simp; done) | (simp; omega) | omega))) | (with_reducible refine row_same ?_ _) | ((with_reducible refine row_other ?_ _ ?_); rotate_left; (· (first | (simp; done) | (simp; omega) | omega))) | (with_reducible refine row_cell _ _ _ _ _ ?_) | ((with_reducible refine (heap_setCell_other _ _ _ _ ?_).trans ?_); (· (first | (simp; done) | (simp; omega) | omega))) | rw [heap_drew] | rw [World.heap_drewN]))⟩
  case round =>
    obtain ⟨k, m, hk, hm, rfl, HB, M1, M2, M3, M4⟩ := hrel
    by_cases hlt : k < W
    · have hr := heap_row _ _ _ M4 k (by omega)
      have hrx := heap_row _ _ _ M1 k (by omega)
      have hry := heap_row _ _ _ M2 k (by omega)
      have hf := frozen_of_row _ _ k _ _ M4
      have b0 : (0 : Int) ≤ k := by omega
      have b1 : (k : Int) < 64 := by omega
      have H := Lib.hid (bit_step hm.out)
      cases hbx : x.testBit k <;> cases hby : y.testBit k
      all_goals
        have Hx := Lib.hid hbx
        have Hy := Lib.hid hby
        rw [hbx] at hrx
        rw [hby] at hry
        clear hbx hby
        (repeat (first | (with_reducible first | refine xA ?_ | refine xB ?_ | refine xC ?_ | refine xD ?_ | refine xH ?_ | refine xI rfl ?_ | refine xE ?_ | refine xF ?_ | refine xG ?_) | go_values | go_skip | go_guarded | go_step | go_upon | go_back | ((with_reducible show Oper.upon _ _ _ _ _ _); go_simp) | (dsimp only)))
        go_still_tail 9, (by kernel_rfl)
        (repeat (first | (with_reducible first | refine xA ?_ | refine xB ?_ | refine xC ?_ | refine xD ?_ | refine xH ?_ | refine xI rfl ?_ | refine xE ?_ | refine xF ?_ | refine xG ?_) | go_values | go_skip | go_guarded | go_step | go_upon | go_back | ((with_reducible show Oper.upon _ _ _ _ _ _); go_simp) | (dsimp only)))
      · exact ⟨⟨k + 1, setb m k false, by omega, Lib.hid (by have h := H.out; rw [Nat.testBit_xor, Hx.out, Hy.out] at h; exact h), by go_num, by (repeat (first | with_reducible exact Below.refl _ _ | assumption | with_reducible refine below_drewN ?_ _ | with_reducible refine Below.drew ?_ | with_reducible refine Below.setRow ?_ ?_ _ | with_reducible refine Below.alloc ?_ ?_ _ | with_reducible refine Below.setCell ?_ ?_ _ | with_reducible exact Nat.le_refl _ | (focus (simp; done)) | (focus (simp; omega)) | omega)), by (repeat (first | (with_reducible assumption) | ((with_reducible refine heap_new _ _ _ ?_); (simp; done)) | ((with_reducible refine (heap_old _ _ _ ?_).trans ?_); (· (first | (simp; done) | (simp; omega) | omega))) | (with_reducible refine row_same ?_ _) | ((with_reducible refine row_other ?_ _ ?_); rotate_left; (· (first | (simp; done) | (simp; omega) | omega))) | (with_reducible refine row_cell _ _ _ _ _ ?_) | ((with_reducible refine (heap_setCell_other _ _ _ _ ?_).trans ?_); (· (first | (simp; done) | (simp; omega) | omega))) | rw [heap_drew] | rw [World.heap_drewN])), by (repeat (first | (with_reducible assumption) | ((with_reducible refine heap_new _ _ _ ?_); (simp; done)) | ((with_reducible refine (heap_old _ _ _ ?_).trans ?_); (· (first | (simp; done) | (simp; omega) | omega))) | (with_reducible refine row_same ?_ _) | ((with_reducible refine row_other ?_ _ ?_); rotate_left; (· (first | (simp; done) | (simp; omega) | omega))) | (with_reducible refine row_cell _ _ _ _ _ ?_) | ((with_reducible refine (heap_setCell_other _ _ _ _ ?_).trans ?_); (· (first | (simp; done) | (simp; omega) | omega))) | rw [heap_drew] | rw [World.heap_drewN])), by (repeat (first | (with_reducible assumption) | ((with_reducible refine heap_new _ _ _ ?_); (simp; done)) | ((with_reducible refine (heap_old _ _ _ ?_).trans ?_); (· (first | (simp; done) | (simp; omega) | omega))) | (with_reducible refine row_same ?_ _) | ((with_reducible refine row_other ?_ _ ?_); rotate_left; (· (first | (simp; done) | (simp; omega) | omega))) | (with_reducible refine row_cell _ _ _ _ _ ?_) | ((with_reducible refine (heap_setCell_other _ _ _ _ ?_).trans ?_); (· (first | (simp; done) | (simp; omega) | omega))) | rw [heap_drew] | rw [World.heap_drewN])), by (repeat (first | (with_reducible assumption) | ((with_reducible refine heap_new _ _ _ ?_); (simp; done)) | ((with_reducible refine (heap_old _ _ _ ?_).trans ?_); (· (first | (simp; done) | (simp; omega) | omega))) | (with_reducible refine row_same ?_ _) | ((with_reducible refine row_other ?_ _ ?_); rotate_left; (· (first | (simp; done) | (simp; omega) | omega))) | (with_reducible refine row_cell _ _ _ _ _ ?_) | ((with_reducible refine (heap_setCell_other _ _ _ _ ?_).trans ?_); (· (first | (simp; done) | (simp; omega) | omega))) | rw [heap_drew] | rw [World.heap_drewN]))⟩, by simp [intOf]; omega⟩
      · exact ⟨⟨k + 1, setb m k true, by omega, Lib.hid (by have h := H.out; rw [Nat.testBit_xor, Hx.out, Hy.out] at h; exact h), by go_num, by (repeat (first | with_reducible exact Below.refl _ _ | assumption | with_reducible refine below_drewN ?_ _ | with_reducible refine Below.drew ?_ | with_reducible refine Below.setRow ?_ ?_ _ | with_reducible refine Below.alloc ?_ ?_ _ | with_reducible refine Below.setCell ?_ ?_ _ | with_reducible exact Nat.le_refl _ | (focus (simp; done)) | (focus (simp; omega)) | omega)), by (repeat (first | (with_reducible assumption) | ((with_reducible refine heap_new _ _ _ ?_); (simp; done)) | ((with_reducible refine (heap_old _ _ _ ?_).trans ?_); (· (first | (simp; done) | (simp; omega) | omega))) | (with_reducible refine row_same ?_ _) | ((with_reducible refine row_other ?_ _ ?_); rotate_left; (· (first | (simp; done) | (simp; omega) | omega))) | (with_reducible refine row_cell _ _ _ _ _ ?_) | ((with_reducible refine (heap_setCell_other _ _ _ _ ?_).trans ?_); (· (first | (simp; done) | (simp; omega) | omega))) | rw [heap_drew] | rw [World.heap_drewN])), by (repeat (first | (with_reducible assumption) | ((with_reducible refine heap_new _ _ _ ?_); (simp; done)) | ((with_reducible refine (heap_old _ _ _ ?_).trans ?_); (· (first | (simp; done) | (simp; omega) | omega))) | (with_reducible refine row_same ?_ _) | ((with_reducible refine row_other ?_ _ ?_); rotate_left; (· (first | (simp; done) | (simp; omega) | omega))) | (with_reducible refine row_cell _ _ _ _ _ ?_) | ((with_reducible refine (heap_setCell_other _ _ _ _ ?_).trans ?_); (· (first | (simp; done) | (simp; omega) | omega))) | rw [heap_drew] | rw [World.heap_drewN])), by (repeat (first | (with_reducible assumption) | ((with_reducible refine heap_new _ _ _ ?_); (simp; done)) | ((with_reducible refine (heap_old _ _ _ ?_).trans ?_); (· (first | (simp; done) | (simp; omega) | omega))) | (with_reducible refine row_same ?_ _) | ((with_reducible refine row_other ?_ _ ?_); rotate_left; (· (first | (simp; done) | (simp; omega) | omega))) | (with_reducible refine row_cell _ _ _ _ _ ?_) | ((with_reducible refine (heap_setCell_other _ _ _ _ ?_).trans ?_); (· (first | (simp; done) | (simp; omega) | omega))) | rw [heap_drew] | rw [World.heap_drewN])), by (repeat (first | (with_reducible assumption) | ((with_reducible refine heap_new _ _ _ ?_); (simp; done)) | ((with_reducible refine (heap_old _ _ _ ?_).trans ?_); (· (first | (simp; done) | (simp; omega) | omega))) | (with_reducible refine row_same ?_ _) | ((with_reducible refine row_other ?_ _ ?_); rotate_left; (· (first | (simp; done) | (simp; omega) | omega))) | (with_reducible refine row_cell _ _ _ _ _ ?_) | ((with_reducible refine (heap_setCell_other _ _ _ _ ?_).trans ?_); (· (first | (simp; done) | (simp; omega) | omega))) | rw [heap_drew] | rw [World.heap_drewN]))⟩, by simp [intOf]; omega⟩
      · exact ⟨⟨k + 1, setb m k true, by omega, Lib.hid (by have h := H.out; rw [Nat.testBit_xor, Hx.out, Hy.out] at h; exact h), by go_num, by (repeat (first | with_reducible exact Below.refl _ _ | assumption | with_reducible refine below_drewN ?_ _ | with_reducible refine Below.drew ?_ | with_reducible refine Below.setRow ?_ ?_ _ | with_reducible refine Below.alloc ?_ ?_ _ | with_reducible refine Below.setCell ?_ ?_ _ | with_reducible exact Nat.le_refl _ | (focus (simp; done)) | (focus (simp; omega)) | omega)), by (repeat (first | (with_reducible assumption) | ((with_reducible refine heap_new _ _ _ ?_); (simp; done)) | ((with_reducible refine (heap_old _ _ _ ?_).trans ?_); (· (first | (simp; done) | (simp; omega) | omega))) | (with_reducible refine row_same ?_ _) | ((with_reducible refine row_other ?_ _ ?_); rotate_left; (· (first | (simp; done) | (simp; omega) | omega))) | (with_reducible refine row_cell _ _ _ _ _ ?_) | ((with_reducible refine (heap_setCell_other _ _ _ _ ?_).trans ?_); (· (first | (simp; done) | (simp; omega) | omega))) | rw [heap_drew] | rw [World.heap_drewN])), by (repeat (first | (with_reducible assumption) | ((with_reducible refine heap_new _ _ _ ?_); (simp; done)) | ((with_reducible refine (heap_old _ _ _ ?_).trans ?_); (· (first | (simp; done) | (simp; omega) | omega))) | (with_reducible refine row_same ?_ _) | ((with_reducible refine row_other ?_ _ ?_); rotate_left; (· (first | (simp; done) | (simp; omega) | omega))) | (with_reducible refine row_cell _ _ _ _ _ ?_) | ((with_reducible refine (heap_setCell_other _ _ _ _ ?_).trans ?_); (· (first | (simp; done) | (simp; omega) | omega))) | rw [heap_drew] | rw [World.heap_drewN])), by (repeat (first | (with_reducible assumption) | ((with_reducible refine heap_new _ _ _ ?_); (simp; done)) | ((with_reducible refine (heap_old _ _ _ ?_).trans ?_); (· (first | (simp; done) | (simp; omega) | omega))) | (with_reducible refine row_same ?_ _) | ((with_reducible refine row_other ?_ _ ?_); rotate_left; (· (first | (simp; done) | (simp; omega) | omega))) | (with_reducible refine row_cell _ _ _ _ _ ?_) | ((with_reducible refine (heap_setCell_other _ _ _ _ ?_).trans ?_); (· (first | (simp; done) | (simp; omega) | omega))) | rw [heap_drew] | rw [World.heap_drewN])), by (repeat (first | (with_reducible assumption) | ((with_reducible refine heap_new _ _ _ ?_); (simp; done)) | ((with_reducible refine (heap_old _ _ _ ?_).trans ?_); (· (first | (simp; done) | (simp; omega) | omega))) | (with_reducible refine row_same ?_ _) | ((with_reducible refine row_other ?_ _ ?_); rotate_left; (· (first | (simp; done) | (simp; omega) | omega))) | (with_reducible refine row_cell _ _ _ _ _ ?_) | ((with_reducible refine (heap_setCell_other _ _ _ _ ?_).trans ?_); (· (first | (simp; done) | (simp; omega) | omega))) | rw [heap_drew] | rw [World.heap_drewN]))⟩, by simp [intOf]; omega⟩
      · exact ⟨⟨k + 1, setb m k false, by omega, Lib.hid (by have h := H.out; rw [Nat.testBit_xor, Hx.out, Hy.out] at h; exact h), by go_num, by (repeat (first | with_reducible exact Below.refl _ _ | assumption | with_reducible refine below_drewN ?_ _ | with_reducible refine Below.drew ?_ | with_reducible refine Below.setRow ?_ ?_ _ | with_reducible refine Below.alloc ?_ ?_ _ | with_reducible refine Below.setCell ?_ ?_ _ | with_reducible exact Nat.le_refl _ | (focus (simp; done)) | (focus (simp; omega)) | omega)), by (repeat (first | (with_reducible assumption) | ((with_reducible refine heap_new _ _ _ ?_); (simp; done)) | ((with_reducible refine (heap_old _ _ _ ?_).trans ?_); (· (first | (simp; done) | (simp; omega) | omega))) | (with_reducible refine row_same ?_ _) | ((with_reducible refine row_other ?_ _ ?_); rotate_left; (· (first | (simp; done) | (simp; omega) | omega))) | (with_reducible refine row_cell _ _ _ _ _ ?_) | ((with_reducible refine (heap_setCell_other _ _ _ _ ?_).trans ?_); (· (first | (simp; done) | (simp; omega) | omega))) | rw [heap_drew] | rw [World.heap_drewN])), by (repeat (first | (with_reducible assumption) | ((with_reducible refine heap_new _ _ _ ?_); (simp; done)) | ((with_reducible refine (heap_old _ _ _ ?_).trans ?_); (· (first | (simp; done) | (simp; omega) | omega))) | (with_reducible refine row_same ?_ _) | ((with_reducible refine row_other ?_ _ ?_); rotate_left; (· (first | (simp; done) | (simp; omega) | omega))) | (with_reducible refine row_cell _ _ _ _ _ ?_) | ((with_reducible refine (heap_setCell_other _ _ _ _ ?_).trans ?_); (· (first | (simp; done) | (simp; omega) | omega))) | rw [heap_drew] | rw [World.heap_drewN])), by (repeat (first | (with_reducible assumption) | ((with_reducible refine heap_new _ _ _ ?_); (simp; done)) | ((with_reducible refine (heap_old _ _ _ ?_).trans ?_); (· (first | (simp; done) | (simp; omega) | omega))) | (with_reducible refine row_same ?_ _) | ((with_reducible refine row_other ?_ _ ?_); rotate_left; (· (first | (simp; done) | (simp; omega) | omega))) | (with_reducible refine row_cell _ _ _ _ _ ?_) | ((with_reducible refine (heap_setCell_other _ _ _ _ ?_).trans ?_); (· (first | (simp; done) | (simp; omega) | omega))) | rw [heap_drew] | rw [World.heap_drewN])), by (repeat (first | (with_reducible assumption) | ((with_reducible refine heap_new _ _ _ ?_); (simp; done)) | ((with_reducible refine (heap_old _ _ _ ?_).trans ?_); (· (first | (simp; done) | (simp; omega) | omega))) | (with_reducible refine row_same ?_ _) | ((with_reducible refine row_other ?_ _ ?_); rotate_left; (· (first | (simp; done) | (simp; omega) | omega))) | (with_reducible refine row_cell _ _ _ _ _ ?_) | ((with_reducible refine (heap_setCell_other _ _ _ _ ?_).trans ?_); (· (first | (simp; done) | (simp; omega) | omega))) | rw [heap_drew] | rw [World.heap_drewN]))⟩, by simp [intOf]; omega⟩
    · obtain rfl : k = W := by omega
      (repeat (first | (with_reducible first | refine xA ?_ | refine xB ?_ | refine xC ?_ | refine xD ?_ | refine xH ?_ | refine xI rfl ?_ | refine xE ?_ | refine xF ?_ | refine xG ?_) | go_skip | go_guarded | ((with_reducible refine wl_load29 rfl _ rfl ?_); apply Exists.intro; apply Exists.intro; refine ⟨rfl, ?_, ?_⟩; (· (repeat (first | (with_reducible assumption) | ((with_reducible refine heap_new _ _ _ ?_); (simp; done)) | ((with_reducible refine (heap_old _ _ _ ?_).trans ?_); (· (first | (simp; done) | (simp; omega) | omega))) | (with_reducible refine row_same ?_ _) | ((with_reducible refine row_other ?_ _ ?_); rotate_left; (· (first | (simp; done) | (simp; omega) | omega))) | (with_reducible refine row_cell _ _ _ _ _ ?_) | ((with_reducible refine (heap_setCell_other _ _ _ _ ?_).trans ?_); (· (first | (simp; done) | (simp; omega) | omega))) | rw [heap_drew] | rw [World.heap_drewN]))); simp only [Act.put, qz4, qz5, qz6]) | ((with_reducible refine wl_store29 rfl _ _ rfl ?_); apply Exists.intro; apply Exists.intro; apply Exists.intro; refine ⟨rfl, rfl, ?_, ?_⟩; (· (repeat (first | (with_reducible assumption) | ((with_reducible refine heap_new _ _ _ ?_); (simp; done)) | ((with_reducible refine (heap_old _ _ _ ?_).trans ?_); (· (first | (simp; done) | (simp; omega) | omega))) | (with_reducible refine row_same ?_ _) | ((with_reducible refine row_other ?_ _ ?_); rotate_left; (· (first | (simp; done) | (simp; omega) | omega))) | (with_reducible refine row_cell _ _ _ _ _ ?_) | ((with_reducible refine (heap_setCell_other _ _ _ _ ?_).trans ?_); (· (first | (simp; done) | (simp; omega) | omega))) | rw [heap_drew] | rw [World.heap_drewN]))); simp only [Act.put, qz4, qz5, qz6]) | go_values | go_skip | go_guarded | go_step | go_upon | go_back | ((with_reducible show Oper.upon _ _ _ _ _ _); go_simp) | (dsimp only)))
      refine bodyPost_ret (res29 rfl _ _ _ _ rfl (row_same (n := 0) (by (repeat (first | (with_reducible assumption) | ((with_reducible refine heap_new _ _ _ ?_); (simp; done)) | ((with_reducible refine (heap_old _ _ _ ?_).trans ?_); (· (first | (simp; done) | (simp; omega) | omega))) | (with_reducible refine row_same ?_ _) | ((with_reducible refine row_other ?_ _ ?_); rotate_left; (· (first | (simp; done) | (simp; omega) | omega))) | (with_reducible refine row_cell _ _ _ _ _ ?_) | ((with_reducible refine (heap_setCell_other _ _ _ _ ?_).trans ?_); (· (first | (simp; done) | (simp; omega) | omega))) | rw [heap_drew] | rw [World.heap_drewN]))) _)) rfl ⟨?_, ?_⟩
      · rw [hm.out, Nat.mod_eq_of_lt (Nat.xor_lt_two_pow hx.out hy.out)]
      · refine Below.setRow ?_ (by omega) _
        (repeat (first | with_reducible exact Below.refl _ _ | assumption | with_reducible refine below_drewN ?_ _ | with_reducible refine Below.drew ?_ | with_reducible refine Below.setRow ?_ ?_ _ | with_reducible refine Below.alloc ?_ ?_ _ | with_reducible refine Below.setCell ?_ ?_ _ | with_reducible exact Nat.le_refl _ | (focus (simp; done)) | (focus (simp; omega)) | omega))
end Go.Proofs.YtmaogkgjiplckaaGreat
namespace Go.Proofs.YtmaogkgjiplckaaGreat
open Go.RowKit
def MemL (w : World) (B : Nat) (l : List (Array Value × TypeId)) : Prop :=
  B + l.length ≤ w.heap.size ∧ ∀ i c t, l[i]? = some (c, t) → w.heap[B + i]? = some (.cells c t (0, 0))
theorem MemL.get {w : World} {B : Nat} {l : List (Array Value × TypeId)} (h : MemL w B l) (i : Nat) {c : Array Value} {t : TypeId} (hi : l[i]? = some (c, t)) : w.heap[B + i]? = some (.cells c t (0, 0)) := h.2 i c t hi
theorem MemL.size {w : World} {B : Nat} {l : List (Array Value × TypeId)} (h : MemL w B l) : B + l.length ≤ w.heap.size := h.1
theorem MemL.below {w w' : World} {B : Nat} {l : List (Array Value × TypeId)} (h : MemL w B l) (hb : Below w.heap.size w w') : MemL w' B l :=
  ⟨Nat.le_trans h.1 hb.size, fun i c t hi => by
    have hl : i < l.length := by
      rcases Nat.lt_or_ge i l.length with h1 | h1
      · exact h1
      · rw [List.getElem?_eq_none h1] at hi; cases hi
    exact (hb.block _ (by have := h.1; omega)).trans (h.2 i c t hi)⟩
theorem MemL.pre {w : World} {B : Nat} {l : List (Array Value × TypeId)} (h : MemL w B l) (k : Nat) : MemL w B (l.take k) :=
  ⟨Nat.le_trans (by have := List.length_take_le k l; have := List.length_take_le' k l; omega) h.1, fun i c t hi => by
    rw [List.getElem?_take] at hi
    split at hi
    · exact h.get i hi
    · cases hi⟩
theorem MemL.under {w w' : World} {B B' : Nat} {l : List (Array Value × TypeId)} (h : MemL w B l) (hb : Below B' w w') (hl : B + l.length ≤ B') : MemL w' B l :=
  ⟨Nat.le_trans h.1 hb.size, fun i c t hi => by
    have hlt : i < l.length := by
      rcases Nat.lt_or_ge i l.length with h1 | h1
      · exact h1
      · rw [List.getElem?_eq_none h1] at hi; cases hi
    exact (hb.block _ (by omega)).trans (h.get i hi)⟩
theorem MemL.apart {w : World} {B b : Nat} {l : List (Array Value × TypeId)} (h : MemL w B l) (hb : b < B) (c : Array Value) : MemL (w.setRow b c) B l :=
  ⟨by simpa using h.1, fun i d t hi => (setRow_other w b _ c (by omega)).trans (h.get i hi)⟩
theorem MemL.row {w : World} {B : Nat} {l : List (Array Value × TypeId)} (h : MemL w B l) (i : Nat) {c c' : Array Value} {t : TypeId} (hi : l[i]? = some (c, t)) : MemL (w.setRow (B + i) c') B (l.set i (c', t)) :=
  ⟨by simpa using h.1, fun j d s hj => by
    by_cases e : j = i
    · subst e
      have hl : j < l.length := by
        rcases Nat.lt_or_ge j l.length with h1 | h1
        · exact h1
        · rw [List.getElem?_eq_none h1] at hi; cases hi
      simp [hl] at hj
      obtain ⟨rfl, rfl⟩ := hj
      exact setRow_heap w _ _ _ _ _ (h.get j hi)
    · rw [List.getElem?_set_ne (fun h => e h.symm)] at hj
      exact (setRow_other w _ _ _ (by omega)).trans (h.get j hj)⟩
theorem MemL.cell {w : World} {B : Nat} {l : List (Array Value × TypeId)} (h : MemL w B l) (i j : Nat) (v : Value) {c : Array Value} {t : TypeId} (hi : l[i]? = some (c, t)) : MemL (w.setCell ⟨B + i, j, none⟩ v) B (l.set i (c.setIfInBounds j v, t)) := by
  rw [setCell_eq_setRow w _ _ _ _ _ _ (h.get i hi)]
  exact h.row i hi
theorem MemL.al {w : World} {B : Nat} {l : List (Array Value × TypeId)} (h : MemL w B l) (hs : w.heap.size = B + l.length) (c : Array Value) (t : TypeId) : MemL (w.alloc (.cells c t)) B (l ++ [(c, t)]) ∧ (w.alloc (.cells c t)).heap.size = B + (l ++ [(c, t)]).length := by
  have e : (w.alloc (.cells c t)).heap.size = B + (l ++ [(c, t)]).length := by simp [hs]; omega
  refine ⟨⟨by omega, fun i d s hi => ?_⟩, e⟩
  rcases Nat.lt_trichotomy i l.length with h1 | h1 | h1
  · rw [List.getElem?_append_left h1] at hi
    exact (heap_old _ _ _ (by omega)).trans (h.get i hi)
  · subst h1
    simp at hi
    obtain ⟨rfl, rfl⟩ := hi
    exact heap_new _ _ _ (by omega)
  · rw [List.getElem?_append_right (by omega), List.getElem?_eq_none (by simp; omega)] at hi
    cases hi
theorem mem0 (w : World) : MemL w w.heap.size [] ∧ w.heap.size = w.heap.size + ([] : List (Array Value × TypeId)).length := ⟨⟨by simp, fun i c t h => by simp at h⟩, by simp⟩
theorem mem1 (w : World) (c1 : Array Value) (t1 : TypeId) : MemL (w.alloc (.cells c1 t1)) w.heap.size [(c1, t1)] ∧ (w.alloc (.cells c1 t1)).heap.size = w.heap.size + 1 := (mem0 w).1.al (mem0 w).2 c1 t1
theorem mem2 (w : World) (c1 c2 : Array Value) (t1 t2 : TypeId) : MemL ((w.alloc (.cells c1 t1)).alloc (.cells c2 t2)) w.heap.size [(c1, t1), (c2, t2)] ∧ ((w.alloc (.cells c1 t1)).alloc (.cells c2 t2)).heap.size = w.heap.size + 2 := (mem1 w c1 t1).1.al (mem1 w c1 t1).2 c2 t2
theorem mem3 (w : World) (c1 c2 c3 : Array Value) (t1 t2 t3 : TypeId) : MemL (((w.alloc (.cells c1 t1)).alloc (.cells c2 t2)).alloc (.cells c3 t3)) w.heap.size [(c1, t1), (c2, t2), (c3, t3)] ∧ (((w.alloc (.cells c1 t1)).alloc (.cells c2 t2)).alloc (.cells c3 t3)).heap.size = w.heap.size + 3 := (mem2 w c1 c2 t1 t2).1.al (mem2 w c1 c2 t1 t2).2 c3 t3
theorem mem4 (w : World) (c1 c2 c3 c4 : Array Value) (t1 t2 t3 t4 : TypeId) : MemL ((((w.alloc (.cells c1 t1)).alloc (.cells c2 t2)).alloc (.cells c3 t3)).alloc (.cells c4 t4)) w.heap.size [(c1, t1), (c2, t2), (c3, t3), (c4, t4)] ∧ ((((w.alloc (.cells c1 t1)).alloc (.cells c2 t2)).alloc (.cells c3 t3)).alloc (.cells c4 t4)).heap.size = w.heap.size + 4 := (mem3 w c1 c2 c3 t1 t2 t3).1.al (mem3 w c1 c2 c3 t1 t2 t3).2 c4 t4
section
variable {ops : Array Oper} {rest : List Oper} {o : Oper} {a : Act} {w : World} {Q : Exit → Act → World → Prop} {B : Nat} {l : List (Array Value × TypeId)}
theorem wl_loadL (HM : MemL w B l) (i n : Nat) (hi : l[i]? = some (bw n, 134)) (hgd : o.guard = none) (x : Operand) (ho : o.op = .load 134 x)
    (hx : a.eval x = .pointer (some ⟨B + i, 0, none⟩)) (h : wpList Tryz.prog ops Q rest (a.put o.dst (.agg (bw n))) w) : wpList Tryz.prog ops Q (o :: rest) a w :=
  wl_load29 hgd x ho ⟨_, n, hx, HM.get i hi, h⟩
theorem wl_storeL (HM : MemL w B l) (i n m : Nat) (hi : l[i]? = some (bw n, 134)) (hgd : o.guard = none) (x y : Operand) (ho : o.op = .store 134 x y)
    (hx : a.eval x = .pointer (some ⟨B + i, 0, none⟩)) (hy : a.eval y = .agg (bw m))
    (h : ∀ w', MemL w' B (l.set i (bw m, 134)) → Below B w w' → wpList Tryz.prog ops Q rest (a.put o.dst undef) w') : wpList Tryz.prog ops Q (o :: rest) a w :=
  wl_store29 hgd x y ho ⟨_, n, m, hx, hy, HM.get i hi, h _ (HM.row i hi) (Below.setRow (Below.refl _ _) (by omega) _)⟩
end
theorem bitL {w : World} {B : Nat} {l : List (Array Value × TypeId)} (HM : MemL w B l) (i n : Nat) (hi : l[i]? = some (bw n, 134)) (k : Nat) (hk : k < 64) : w.cell? ⟨B + i, k, none⟩ = some (.bool (n.testBit k)) := heap_row w _ n (HM.get i hi) k hk
theorem resL {fn : Func} {p : Tmp} (h : fn.results = #[.cell p 134]) (tmps : Array Value) {w : World} {B : Nat} {l : List (Array Value × TypeId)} (HM : MemL w B l) (i n : Nat) (hi : l[i]? = some (bw n, 134)) (hp : tmps.getD p undef = .pointer (some ⟨B + i, 0, none⟩)) :
    (results fn tmps).run Tryz.prog w = .ok (.agg (bw n)) w := res29 h tmps w _ n hp (HM.get i hi)
end Go.Proofs.YtmaogkgjiplckaaGreat
namespace Go.Proofs.YtmaogkgjiplckaaGreat
open Go.RowKit
theorem mul_bit {x y k W : Nat} (h : y.testBit k = true) : (x * (y % 2 ^ k) % 2 ^ W + x * 2 ^ k % 2 ^ W + false.toNat) % 2 ^ W = x * (y % 2 ^ (k + 1)) % 2 ^ W := by
  rw [mod_succ, if_pos h, Bool.toNat_false, Nat.add_zero, ← Nat.add_mod, Nat.mul_add]
theorem mul_bit0 {x y k W : Nat} (h : y.testBit k = false) : x * (y % 2 ^ k) % 2 ^ W = x * (y % 2 ^ (k + 1)) % 2 ^ W := by
  rw [mod_succ, if_neg (by simp [h]), Nat.add_zero]
theorem mul_up (x k W : Nat) : (2 * (x * 2 ^ k % 2 ^ W) + false.toNat) % 2 ^ W = x * 2 ^ (k + 1) % 2 ^ W := by
  rw [Bool.toNat_false, Nat.add_zero, Nat.mul_mod_mod, Nat.pow_succ, Nat.mul_left_comm, Nat.mul_comm 2]
set_option maxRecDepth 100000 in
set_option maxHeartbeats 1000000 in
theorem mul_ref (W x y : Nat) (w : World) (hW0 : 1 ≤ W) (hW : W ≤ 64) (hx : Hid (x < 2 ^ W)) (hy : Hid (y < 2 ^ W)) :
    Calls Tryz.prog 100 #[.int .i64 W, .agg (bw x), .agg (bw y)] w fun e w' => e = .returned (.agg (bw (x * y % 2 ^ W))) ∧ Below w.heap.size w w' := by
  have hz := (zero_of_info zero29).1
  go_enter Tryz.func100, Tryz.ntmps100
  (repeat (first | (with_reducible first | refine xA ?_ | refine xB ?_ | refine xC ?_ | refine xD ?_ | refine xH ?_ | refine xI rfl ?_ | refine xE ?_ | refine xF ?_ | refine xG ?_) | go_values | go_skip | go_guarded | go_step | go_upon | go_back | ((with_reducible show Oper.upon _ _ _ _ _ _); go_simp) | (dsimp only)))
  go_loopw [8] (fun i wr => ∃ k X O : Nat, k ≤ W ∧ Hid (X = x * 2 ^ k % 2 ^ W) ∧ Hid (O = x * (y % 2 ^ k) % 2 ^ W) ∧ i = .int .i64 k ∧ Below w.heap.size w wr ∧ MemL wr w.heap.size [(bw X, 134), (bw y, 134), (bw 0, 134), (bw O, 134)]) (fun i _ => W - (intOf i).toNat)
  case atStart =>
    exact ⟨0, x, 0, by omega, Lib.hid (by rw [Nat.pow_zero, Nat.mul_one, Nat.mod_eq_of_lt hx.out]), Lib.hid (by simp [Nat.mod_one]), rfl, by (repeat (first | with_reducible exact Below.refl _ _ | assumption | with_reducible refine below_drewN ?_ _ | with_reducible refine Below.drew ?_ | with_reducible refine Below.setRow ?_ ?_ _ | with_reducible refine Below.alloc ?_ ?_ _ | with_reducible refine Below.setCell ?_ ?_ _ | with_reducible exact Nat.le_refl _ | (focus (simp; done)) | (focus (simp; omega)) | omega)), (mem4 _ _ _ _ _ _ _ _ _).1⟩
  case round =>
    obtain ⟨k, X, O, hk, hX, hO, rfl, HB, HM⟩ := hrel
    have hp := Lib.hid (Nat.pow_pos (n := W) (show 0 < 2 by omega))
    by_cases hlt : k < W
    · have hry := bitL HM 1 y rfl k (by omega)
      have b0 : (0 : Int) ≤ k := by omega
      have b1 : (k : Int) < 64 := by omega
      have hXl : Hid (X < 2 ^ W) := Lib.hid (by rw [hX.out]; exact Nat.mod_lt _ hp.out)
      have hOl : Hid (O < 2 ^ W) := Lib.hid (by rw [hO.out]; exact Nat.mod_lt _ hp.out)
      cases hby : y.testBit k with
      | true =>
        have Hy := Lib.hid hby
        rw [hby] at hry
        clear hby
        (repeat (first | (with_reducible first | refine xA ?_ | refine xB ?_ | refine xC ?_ | refine xD ?_ | refine xH ?_ | refine xI rfl ?_ | refine xE ?_ | refine xF ?_ | refine xG ?_) | go_skip | go_guarded | ((with_reducible refine wl_id ?_); refine wl_loadL HM 0 _ rfl rfl _ rfl rfl ?_; simp only [Act.put, qz4, qz5, qz6]) | ((with_reducible refine wl_id ?_); refine wl_loadL HM 3 _ rfl rfl _ rfl rfl ?_; simp only [Act.put, qz4, qz5, qz6]) | ((with_reducible refine wl_id ?_); refine wl_storeL HM 0 _ _ rfl rfl _ _ rfl rfl rfl ?_; intro w1 HM1 hb; (simp only [List.set_cons_succ, List.set_cons_zero] at HM1); clear HM; have HM := HM1; clear HM1; replace HB := HB.trans hb; clear hb; simp only [Act.put, qz4, qz5, qz6]) | ((with_reducible refine wl_id ?_); refine wl_storeL HM 3 _ _ rfl rfl _ _ rfl rfl rfl ?_; intro w1 HM1 hb; (simp only [List.set_cons_succ, List.set_cons_zero] at HM1); clear HM; have HM := HM1; clear HM1; replace HB := HB.trans hb; clear hb; simp only [Act.put, qz4, qz5, qz6]) | (go_at_call 99; (with_reducible refine (add_ref _ _ _ _ _ hW (by assumption) (by assumption)).mono ?_); rintro e w1 ⟨rfl, hb⟩; (replace HM := HM.below hb; replace HB := HB.trans (hb.mono HB.size); clear hb)) | (go_at_call 128; (with_reducible refine (up_any _ _ _ _ hW0 hW).mono ?_); rintro e w1 ⟨rfl, hb⟩; (replace HM := HM.below hb; replace HB := HB.trans (hb.mono HB.size); clear hb)) | go_values | go_skip | go_guarded | go_step | go_upon | go_back | ((with_reducible show Oper.upon _ _ _ _ _ _); go_simp) | (dsimp only)))
        exact ⟨⟨k + 1, _, _, by omega, Lib.hid (by rw [hX.out]; exact mul_up x k W), Lib.hid (by rw [hX.out, hO.out]; exact mul_bit Hy.out), by go_num, HB, HM⟩, by simp [intOf]; omega⟩
      | false =>
        have Hy := Lib.hid hby
        rw [hby] at hry
        clear hby
        (repeat (first | (with_reducible first | refine xA ?_ | refine xB ?_ | refine xC ?_ | refine xD ?_ | refine xH ?_ | refine xI rfl ?_ | refine xE ?_ | refine xF ?_ | refine xG ?_) | go_skip | go_guarded | ((with_reducible refine wl_id ?_); refine wl_loadL HM 0 _ rfl rfl _ rfl rfl ?_; simp only [Act.put, qz4, qz5, qz6]) | ((with_reducible refine wl_id ?_); refine wl_loadL HM 3 _ rfl rfl _ rfl rfl ?_; simp only [Act.put, qz4, qz5, qz6]) | ((with_reducible refine wl_id ?_); refine wl_storeL HM 0 _ _ rfl rfl _ _ rfl rfl rfl ?_; intro w1 HM1 hb; (simp only [List.set_cons_succ, List.set_cons_zero] at HM1); clear HM; have HM := HM1; clear HM1; replace HB := HB.trans hb; clear hb; simp only [Act.put, qz4, qz5, qz6]) | ((with_reducible refine wl_id ?_); refine wl_storeL HM 3 _ _ rfl rfl _ _ rfl rfl rfl ?_; intro w1 HM1 hb; (simp only [List.set_cons_succ, List.set_cons_zero] at HM1); clear HM; have HM := HM1; clear HM1; replace HB := HB.trans hb; clear hb; simp only [Act.put, qz4, qz5, qz6]) | (go_at_call 99; (with_reducible refine (add_ref _ _ _ _ _ hW (by assumption) (by assumption)).mono ?_); rintro e w1 ⟨rfl, hb⟩; (replace HM := HM.below hb; replace HB := HB.trans (hb.mono HB.size); clear hb)) | (go_at_call 128; (with_reducible refine (up_any _ _ _ _ hW0 hW).mono ?_); rintro e w1 ⟨rfl, hb⟩; (replace HM := HM.below hb; replace HB := HB.trans (hb.mono HB.size); clear hb)) | go_values | go_skip | go_guarded | go_step | go_upon | go_back | ((with_reducible show Oper.upon _ _ _ _ _ _); go_simp) | (dsimp only)))
        exact ⟨⟨k + 1, _, _, by omega, Lib.hid (by rw [hX.out]; exact mul_up x k W), Lib.hid (by rw [hO.out]; exact mul_bit0 Hy.out), by go_num, HB, HM⟩, by simp [intOf]; omega⟩
    · obtain rfl : k = W := by omega
      (repeat (first | (with_reducible first | refine xA ?_ | refine xB ?_ | refine xC ?_ | refine xD ?_ | refine xH ?_ | refine xI rfl ?_ | refine xE ?_ | refine xF ?_ | refine xG ?_) | go_skip | go_guarded | ((with_reducible refine wl_id ?_); refine wl_loadL HM 3 _ rfl rfl _ rfl rfl ?_; simp only [Act.put, qz4, qz5, qz6]) | ((with_reducible refine wl_id ?_); refine wl_storeL HM 2 _ _ rfl rfl _ _ rfl rfl rfl ?_; intro w1 HM1 hb; (simp only [List.set_cons_succ, List.set_cons_zero] at HM1); clear HM; have HM := HM1; clear HM1; replace HB := HB.trans hb; clear hb; simp only [Act.put, qz4, qz5, qz6]) | go_values | go_skip | go_guarded | go_step | go_upon | go_back | ((with_reducible show Oper.upon _ _ _ _ _ _); go_simp) | (dsimp only)))
      refine bodyPost_ret (resL rfl _ HM 2 _ rfl rfl) rfl ⟨?_, HB⟩
      rw [hO.out, Nat.mod_eq_of_lt hy.out]
end Go.Proofs.YtmaogkgjiplckaaGreat
namespace Go.Proofs.YtmaogkgjiplckaaGreat
open Go.RowKit
set_option maxRecDepth 100000 in
set_option maxHeartbeats 1000000 in
theorem far_any (W y : Nat) (w : World) (hW : W ≤ 64) (hy : Hid (y < 18446744073709551616)) :
    Calls Tryz.prog 129 #[.int .i64 W, .agg (bw y)] w fun e w' => e = .returned (.int .i64 ((min y W : Nat) : Int)) ∧ Below w.heap.size w w' := by
  by_cases h : W < y
  · have hd : decide ((W : Int) < y) = true := by simp; omega
    go_enter Tryz.func129, Tryz.ntmps129
    (repeat (first | (with_reducible first | refine xA ?_ | refine xB ?_ | refine xC ?_ | refine xD ?_ | refine xH ?_ | refine xI rfl ?_ | refine xE ?_ | refine xF ?_ | refine xG ?_) | go_skip | go_guarded | ((with_reducible refine wl_load29 rfl _ rfl ?_); apply Exists.intro; apply Exists.intro; refine ⟨rfl, ?_, ?_⟩; (· (repeat (first | (with_reducible assumption) | ((with_reducible refine heap_new _ _ _ ?_); (simp; done)) | ((with_reducible refine (heap_old _ _ _ ?_).trans ?_); (· (first | (simp; done) | (simp; omega) | omega))) | (with_reducible refine row_same ?_ _) | ((with_reducible refine row_other ?_ _ ?_); rotate_left; (· (first | (simp; done) | (simp; omega) | omega))) | (with_reducible refine row_cell _ _ _ _ _ ?_) | ((with_reducible refine (heap_setCell_other _ _ _ _ ?_).trans ?_); (· (first | (simp; done) | (simp; omega) | omega))) | rw [heap_drew] | rw [World.heap_drewN]))); simp only [Act.put, qz4, qz5, qz6]) | (go_at_call 97; (with_reducible refine (num_any _ _ (by assumption)).mono ?_); rintro e w1 ⟨rfl, hb⟩) | go_values | go_skip | go_guarded | go_step | go_upon | go_back | ((with_reducible show Oper.upon _ _ _ _ _ _); go_simp) | (dsimp only)))
    go_ret
    exact ⟨ret_int (by rw [Nat.min_eq_right (by omega)]), ((Below.refl _ _).alloc (Nat.le_refl _) _).trans (hb.mono (by simp))⟩
  · have hd : decide ((W : Int) < y) = false := by simp; omega
    have h2 : (y : Int) ≤ 64 := by omega
    go_enter Tryz.func129, Tryz.ntmps129
    (repeat (first | (with_reducible first | refine xA ?_ | refine xB ?_ | refine xC ?_ | refine xD ?_ | refine xH ?_ | refine xI rfl ?_ | refine xE ?_ | refine xF ?_ | refine xG ?_) | go_skip | go_guarded | ((with_reducible refine wl_load29 rfl _ rfl ?_); apply Exists.intro; apply Exists.intro; refine ⟨rfl, ?_, ?_⟩; (· (repeat (first | (with_reducible assumption) | ((with_reducible refine heap_new _ _ _ ?_); (simp; done)) | ((with_reducible refine (heap_old _ _ _ ?_).trans ?_); (· (first | (simp; done) | (simp; omega) | omega))) | (with_reducible refine row_same ?_ _) | ((with_reducible refine row_other ?_ _ ?_); rotate_left; (· (first | (simp; done) | (simp; omega) | omega))) | (with_reducible refine row_cell _ _ _ _ _ ?_) | ((with_reducible refine (heap_setCell_other _ _ _ _ ?_).trans ?_); (· (first | (simp; done) | (simp; omega) | omega))) | rw [heap_drew] | rw [World.heap_drewN]))); simp only [Act.put, qz4, qz5, qz6]) | (go_at_call 97; (with_reducible refine (num_any _ _ (by assumption)).mono ?_); rintro e w1 ⟨rfl, hb⟩) | go_values | go_skip | go_guarded | go_step | go_upon | go_back | ((with_reducible show Oper.upon _ _ _ _ _ _); go_simp) | (dsimp only)))
    go_ret
    exact ⟨ret_int (by rw [Nat.min_eq_left (by omega)]), ((Below.refl _ _).alloc (Nat.le_refl _) _).trans (hb.mono (by simp))⟩
theorem lt_pow {n W : Nat} (h : n < 2 ^ W) (hW : W ≤ 64) : n < 18446744073709551616 := Nat.lt_of_lt_of_le h (pow_le64 hW)
def shr (x k : Nat) : Nat := x / 2 ^ k
def sar (b : Bool) (x W : Nat) : Nat → Nat
  | 0 => x
  | k + 1 => sar b x W k / 2 + b.toNat * 2 ^ (W - 1)
theorem sar_lt (b : Bool) {x W : Nat} (hW : 1 ≤ W) (hx : x < 2 ^ W) (k : Nat) : sar b x W k < 2 ^ W := by
  induction k with
  | zero => exact hx
  | succ k ih =>
    obtain ⟨V, rfl⟩ : ∃ V, W = V + 1 := ⟨W - 1, by omega⟩
    show sar b x (V + 1) k / 2 + b.toNat * 2 ^ (V + 1 - 1) < _
    rw [show V + 1 - 1 = V from by omega]
    rw [Nat.pow_succ] at *
    have := Bool.toNat_le b
    have h2 : b.toNat * 2 ^ V ≤ 1 * 2 ^ V := Nat.mul_le_mul_right _ this
    omega
set_option maxRecDepth 100000 in
set_option maxHeartbeats 1000000 in
theorem moved_up (W x y : Nat) (w : World) (hW0 : 1 ≤ W) (hW : W ≤ 64) (hx : Hid (x < 2 ^ W)) (hy : Hid (y < 2 ^ W)) :
    Calls Tryz.prog 102 #[.int .i64 16, .int .i64 W, .agg (bw x), .agg (bw y)] w fun e w' => e = .returned (.agg (bw (x * 2 ^ (min y W) % 2 ^ W))) ∧ Below w.heap.size w w' := by
  have hz := (zero_of_info zero29).1
  have hy64 : Hid (y < 18446744073709551616) := Lib.hid (lt_pow hy.out hW)
  go_enter Tryz.func102, Tryz.ntmps102
  (repeat (first | (with_reducible first | refine xA ?_ | refine xB ?_ | refine xC ?_ | refine xD ?_ | refine xH ?_ | refine xI rfl ?_ | refine xE ?_ | refine xF ?_ | refine xG ?_) | go_values | go_skip | go_guarded | go_step | go_upon | go_back | ((with_reducible show Oper.upon _ _ _ _ _ _); go_simp) | (dsimp only)))
  go_loopw [10] (fun i wr => ∃ k X : Nat, k ≤ min y W ∧ Hid (X = x * 2 ^ k % 2 ^ W) ∧ i = .int .i64 k ∧ Below w.heap.size w wr ∧ MemL wr w.heap.size [(bw X, 134), (bw y, 134), (bw 0, 134)]) (fun i _ => min y W - (intOf i).toNat)
  case atStart => exact ⟨0, x, by omega, Lib.hid (by rw [Nat.pow_zero, Nat.mul_one, Nat.mod_eq_of_lt hx.out]), rfl, by (repeat (first | with_reducible exact Below.refl _ _ | assumption | with_reducible refine below_drewN ?_ _ | with_reducible refine Below.drew ?_ | with_reducible refine Below.setRow ?_ ?_ _ | with_reducible refine Below.alloc ?_ ?_ _ | with_reducible refine Below.setCell ?_ ?_ _ | with_reducible exact Nat.le_refl _ | (focus (simp; done)) | (focus (simp; omega)) | omega)), (mem3 _ _ _ _ _ _ _).1⟩
  case round =>
    obtain ⟨k, X, hk, hX, rfl, HB, HM⟩ := hrel
    by_cases hlt : k < min y W
    · have hd : decide ((k : Int) < ((min y W : Nat) : Int)) = true := by simp; omega
      (repeat (first | (with_reducible first | refine xA ?_ | refine xB ?_ | refine xC ?_ | refine xD ?_ | refine xH ?_ | refine xI rfl ?_ | refine xE ?_ | refine xF ?_ | refine xG ?_) | go_skip | go_guarded | ((with_reducible refine wl_id ?_); refine wl_loadL HM 0 _ rfl rfl _ rfl rfl ?_; simp only [Act.put, qz4, qz5, qz6]) | ((with_reducible refine wl_id ?_); refine wl_loadL HM 1 _ rfl rfl _ rfl rfl ?_; simp only [Act.put, qz4, qz5, qz6]) | ((with_reducible refine wl_id ?_); refine wl_storeL HM 0 _ _ rfl rfl _ _ rfl rfl rfl ?_; intro w1 HM1 hb; (simp only [List.set_cons_succ, List.set_cons_zero] at HM1); clear HM; have HM := HM1; clear HM1; replace HB := HB.trans hb; clear hb; simp only [Act.put, qz4, qz5, qz6]) | (go_at_call 129; (with_reducible refine (far_any _ _ _ hW (by assumption)).mono ?_); rintro e w1 ⟨rfl, hb⟩; (replace HM := HM.below hb; replace HB := HB.trans (hb.mono HB.size); clear hb)) | (go_at_call 128; (with_reducible refine (up_any _ _ _ _ hW0 hW).mono ?_); rintro e w1 ⟨rfl, hb⟩; (replace HM := HM.below hb; replace HB := HB.trans (hb.mono HB.size); clear hb)) | go_values | go_skip | go_guarded | go_step | go_upon | go_back | ((with_reducible show Oper.upon _ _ _ _ _ _); go_simp) | (dsimp only)))
      exact ⟨⟨k + 1, _, by omega, Lib.hid (by rw [hX.out]; exact mul_up x k W), by go_num, HB, HM⟩, by simp [intOf]; omega⟩
    · have hd : decide ((k : Int) < ((min y W : Nat) : Int)) = false := by simp; omega
      (repeat (first | (with_reducible first | refine xA ?_ | refine xB ?_ | refine xC ?_ | refine xD ?_ | refine xH ?_ | refine xI rfl ?_ | refine xE ?_ | refine xF ?_ | refine xG ?_) | go_skip | go_guarded | ((with_reducible refine wl_id ?_); refine wl_loadL HM 0 _ rfl rfl _ rfl rfl ?_; simp only [Act.put, qz4, qz5, qz6]) | ((with_reducible refine wl_id ?_); refine wl_loadL HM 1 _ rfl rfl _ rfl rfl ?_; simp only [Act.put, qz4, qz5, qz6]) | ((with_reducible refine wl_id ?_); refine wl_storeL HM 2 _ _ rfl rfl _ _ rfl rfl rfl ?_; intro w1 HM1 hb; (simp only [List.set_cons_succ, List.set_cons_zero] at HM1); clear HM; have HM := HM1; clear HM1; replace HB := HB.trans hb; clear hb; simp only [Act.put, qz4, qz5, qz6]) | (go_at_call 129; (with_reducible refine (far_any _ _ _ hW (by assumption)).mono ?_); rintro e w1 ⟨rfl, hb⟩; (replace HM := HM.below hb; replace HB := HB.trans (hb.mono HB.size); clear hb)) | (go_at_call 128; (with_reducible refine (up_any _ _ _ _ hW0 hW).mono ?_); rintro e w1 ⟨rfl, hb⟩; (replace HM := HM.below hb; replace HB := HB.trans (hb.mono HB.size); clear hb)) | go_values | go_skip | go_guarded | go_step | go_upon | go_back | ((with_reducible show Oper.upon _ _ _ _ _ _); go_simp) | (dsimp only)))
      refine bodyPost_ret (resL rfl _ HM 2 _ rfl rfl) rfl ⟨?_, HB⟩
      rw [hX.out, show k = min y W by omega]
set_option maxRecDepth 100000 in
set_option maxHeartbeats 1000000 in
theorem moved_17 (W x y : Nat) (w : World) (hW0 : 1 ≤ W) (hW : W ≤ 64) (hx : Hid (x < 2 ^ W)) (hy : Hid (y < 2 ^ W)) :
    Calls Tryz.prog 102 #[.int .i64 17, .int .i64 W, .agg (bw x), .agg (bw y)] w fun e w' => e = .returned (.agg (bw (sar false x W (min y W)))) ∧ Below w.heap.size w w' := by
  have hz := (zero_of_info zero29).1
  have hy64 : Hid (y < 18446744073709551616) := Lib.hid (lt_pow hy.out hW)
  have hrx := bw_get x (W - 1) (by omega)
  have hidx : ((W : Int) - 1).toNat = W - 1 := by omega
  have b0 : (0 : Int) ≤ (W : Int) - 1 := by omega
  have b1 : (W : Int) - 1 < 64 := by omega
  go_enter Tryz.func102, Tryz.ntmps102
  (repeat (first | (with_reducible first | refine xA ?_ | refine xB ?_ | refine xC ?_ | refine xD ?_ | refine xH ?_ | refine xI rfl ?_ | refine xE ?_ | refine xF ?_ | refine xG ?_) | go_values | go_skip | go_guarded | go_step | go_upon | go_back | ((with_reducible show Oper.upon _ _ _ _ _ _); go_simp) | (dsimp only)))
  go_loopw [10] (fun i wr => ∃ k X : Nat, k ≤ min y W ∧ Hid (X = sar false x W k) ∧ i = .int .i64 k ∧ Below w.heap.size w wr ∧ MemL wr w.heap.size [(bw X, 134), (bw y, 134), (bw 0, 134)]) (fun i _ => min y W - (intOf i).toNat)
  case atStart => exact ⟨0, x, by omega, Lib.hid rfl, rfl, by (repeat (first | with_reducible exact Below.refl _ _ | assumption | with_reducible refine below_drewN ?_ _ | with_reducible refine Below.drew ?_ | with_reducible refine Below.setRow ?_ ?_ _ | with_reducible refine Below.alloc ?_ ?_ _ | with_reducible refine Below.setCell ?_ ?_ _ | with_reducible exact Nat.le_refl _ | (focus (simp; done)) | (focus (simp; omega)) | omega)), (mem3 _ _ _ _ _ _ _).1⟩
  case round =>
    obtain ⟨k, X, hk, hX, rfl, HB, HM⟩ := hrel
    have hXl : Hid (X < 2 ^ W) := Lib.hid (by rw [hX.out]; exact sar_lt _ (by omega) hx.out _)
    by_cases hlt : k < min y W
    · have hd : decide ((k : Int) < ((min y W : Nat) : Int)) = true := by simp; omega
      (repeat (first | (with_reducible first | refine xA ?_ | refine xB ?_ | refine xC ?_ | refine xD ?_ | refine xH ?_ | refine xI rfl ?_ | refine xE ?_ | refine xF ?_ | refine xG ?_) | go_skip | go_guarded | ((with_reducible refine wl_id ?_); refine wl_loadL HM 0 _ rfl rfl _ rfl rfl ?_; simp only [Act.put, qz4, qz5, qz6]) | ((with_reducible refine wl_id ?_); refine wl_loadL HM 1 _ rfl rfl _ rfl rfl ?_; simp only [Act.put, qz4, qz5, qz6]) | ((with_reducible refine wl_id ?_); refine wl_storeL HM 0 _ _ rfl rfl _ _ rfl rfl rfl ?_; intro w1 HM1 hb; (simp only [List.set_cons_succ, List.set_cons_zero] at HM1); clear HM; have HM := HM1; clear HM1; replace HB := HB.trans hb; clear hb; simp only [Act.put, qz4, qz5, qz6]) | (go_at_call 129; (with_reducible refine (far_any _ _ _ hW (by assumption)).mono ?_); rintro e w1 ⟨rfl, hb⟩; (replace HM := HM.below hb; replace HB := HB.trans (hb.mono HB.size); clear hb)) | (go_at_call 130; (with_reducible refine (down_any _ _ _ _ hW0 hW (by assumption)).mono ?_); rintro e w1 ⟨rfl, hb⟩; (replace HM := HM.below hb; replace HB := HB.trans (hb.mono HB.size); clear hb)) | go_values | go_skip | go_guarded | go_step | go_upon | go_back | ((with_reducible show Oper.upon _ _ _ _ _ _); go_simp) | (dsimp only)))
      exact ⟨⟨k + 1, _, by omega, Lib.hid (by rw [hX.out]; rfl), by go_num, HB, HM⟩, by simp [intOf]; omega⟩
    · have hd : decide ((k : Int) < ((min y W : Nat) : Int)) = false := by simp; omega
      (repeat (first | (with_reducible first | refine xA ?_ | refine xB ?_ | refine xC ?_ | refine xD ?_ | refine xH ?_ | refine xI rfl ?_ | refine xE ?_ | refine xF ?_ | refine xG ?_) | go_skip | go_guarded | ((with_reducible refine wl_id ?_); refine wl_loadL HM 0 _ rfl rfl _ rfl rfl ?_; simp only [Act.put, qz4, qz5, qz6]) | ((with_reducible refine wl_id ?_); refine wl_loadL HM 1 _ rfl rfl _ rfl rfl ?_; simp only [Act.put, qz4, qz5, qz6]) | ((with_reducible refine wl_id ?_); refine wl_storeL HM 2 _ _ rfl rfl _ _ rfl rfl rfl ?_; intro w1 HM1 hb; (simp only [List.set_cons_succ, List.set_cons_zero] at HM1); clear HM; have HM := HM1; clear HM1; replace HB := HB.trans hb; clear hb; simp only [Act.put, qz4, qz5, qz6]) | (go_at_call 129; (with_reducible refine (far_any _ _ _ hW (by assumption)).mono ?_); rintro e w1 ⟨rfl, hb⟩; (replace HM := HM.below hb; replace HB := HB.trans (hb.mono HB.size); clear hb)) | go_values | go_skip | go_guarded | go_step | go_upon | go_back | ((with_reducible show Oper.upon _ _ _ _ _ _); go_simp) | (dsimp only)))
      refine bodyPost_ret (resL rfl _ HM 2 _ rfl rfl) rfl ⟨?_, HB⟩
      rw [hX.out, show k = min y W by omega]
set_option maxRecDepth 100000 in
set_option maxHeartbeats 1000000 in
theorem moved_18 (W x y : Nat) (w : World) (hW0 : 1 ≤ W) (hW : W ≤ 64) (hx : Hid (x < 2 ^ W)) (hy : Hid (y < 2 ^ W)) :
    Calls Tryz.prog 102 #[.int .i64 18, .int .i64 W, .agg (bw x), .agg (bw y)] w fun e w' => e = .returned (.agg (bw (sar (x.testBit (W - 1)) x W (min y W)))) ∧ Below w.heap.size w w' := by
  have hz := (zero_of_info zero29).1
  have hy64 : Hid (y < 18446744073709551616) := Lib.hid (lt_pow hy.out hW)
  have hrx := bw_get x (W - 1) (by omega)
  have hidx : ((W : Int) - 1).toNat = W - 1 := by omega
  have b0 : (0 : Int) ≤ (W : Int) - 1 := by omega
  have b1 : (W : Int) - 1 < 64 := by omega
  go_enter Tryz.func102, Tryz.ntmps102
  (repeat (first | (with_reducible first | refine xA ?_ | refine xB ?_ | refine xC ?_ | refine xD ?_ | refine xH ?_ | refine xI rfl ?_ | refine xE ?_ | refine xF ?_ | refine xG ?_) | go_values | go_skip | go_guarded | go_step | go_upon | go_back | ((with_reducible show Oper.upon _ _ _ _ _ _); go_simp) | (dsimp only)))
  go_loopw [10] (fun i wr => ∃ k X : Nat, k ≤ min y W ∧ Hid (X = sar (x.testBit (W - 1)) x W k) ∧ i = .int .i64 k ∧ Below w.heap.size w wr ∧ MemL wr w.heap.size [(bw X, 134), (bw y, 134), (bw 0, 134)]) (fun i _ => min y W - (intOf i).toNat)
  case atStart => exact ⟨0, x, by omega, Lib.hid rfl, rfl, by (repeat (first | with_reducible exact Below.refl _ _ | assumption | with_reducible refine below_drewN ?_ _ | with_reducible refine Below.drew ?_ | with_reducible refine Below.setRow ?_ ?_ _ | with_reducible refine Below.alloc ?_ ?_ _ | with_reducible refine Below.setCell ?_ ?_ _ | with_reducible exact Nat.le_refl _ | (focus (simp; done)) | (focus (simp; omega)) | omega)), (mem3 _ _ _ _ _ _ _).1⟩
  case round =>
    obtain ⟨k, X, hk, hX, rfl, HB, HM⟩ := hrel
    have hXl : Hid (X < 2 ^ W) := Lib.hid (by rw [hX.out]; exact sar_lt _ (by omega) hx.out _)
    by_cases hlt : k < min y W
    · have hd : decide ((k : Int) < ((min y W : Nat) : Int)) = true := by simp; omega
      (repeat (first | (with_reducible first | refine xA ?_ | refine xB ?_ | refine xC ?_ | refine xD ?_ | refine xH ?_ | refine xI rfl ?_ | refine xE ?_ | refine xF ?_ | refine xG ?_) | go_skip | go_guarded | ((with_reducible refine wl_id ?_); refine wl_loadL HM 0 _ rfl rfl _ rfl rfl ?_; simp only [Act.put, qz4, qz5, qz6]) | ((with_reducible refine wl_id ?_); refine wl_loadL HM 1 _ rfl rfl _ rfl rfl ?_; simp only [Act.put, qz4, qz5, qz6]) | ((with_reducible refine wl_id ?_); refine wl_storeL HM 0 _ _ rfl rfl _ _ rfl rfl rfl ?_; intro w1 HM1 hb; (simp only [List.set_cons_succ, List.set_cons_zero] at HM1); clear HM; have HM := HM1; clear HM1; replace HB := HB.trans hb; clear hb; simp only [Act.put, qz4, qz5, qz6]) | (go_at_call 129; (with_reducible refine (far_any _ _ _ hW (by assumption)).mono ?_); rintro e w1 ⟨rfl, hb⟩; (replace HM := HM.below hb; replace HB := HB.trans (hb.mono HB.size); clear hb)) | (go_at_call 130; (with_reducible refine (down_any _ _ _ _ hW0 hW (by assumption)).mono ?_); rintro e w1 ⟨rfl, hb⟩; (replace HM := HM.below hb; replace HB := HB.trans (hb.mono HB.size); clear hb)) | go_values | go_skip | go_guarded | go_step | go_upon | go_back | ((with_reducible show Oper.upon _ _ _ _ _ _); go_simp) | (dsimp only)))
      exact ⟨⟨k + 1, _, by omega, Lib.hid (by rw [hX.out]; rfl), by go_num, HB, HM⟩, by simp [intOf]; omega⟩
    · have hd : decide ((k : Int) < ((min y W : Nat) : Int)) = false := by simp; omega
      (repeat (first | (with_reducible first | refine xA ?_ | refine xB ?_ | refine xC ?_ | refine xD ?_ | refine xH ?_ | refine xI rfl ?_ | refine xE ?_ | refine xF ?_ | refine xG ?_) | go_skip | go_guarded | ((with_reducible refine wl_id ?_); refine wl_loadL HM 0 _ rfl rfl _ rfl rfl ?_; simp only [Act.put, qz4, qz5, qz6]) | ((with_reducible refine wl_id ?_); refine wl_loadL HM 1 _ rfl rfl _ rfl rfl ?_; simp only [Act.put, qz4, qz5, qz6]) | ((with_reducible refine wl_id ?_); refine wl_storeL HM 2 _ _ rfl rfl _ _ rfl rfl rfl ?_; intro w1 HM1 hb; (simp only [List.set_cons_succ, List.set_cons_zero] at HM1); clear HM; have HM := HM1; clear HM1; replace HB := HB.trans hb; clear hb; simp only [Act.put, qz4, qz5, qz6]) | (go_at_call 129; (with_reducible refine (far_any _ _ _ hW (by assumption)).mono ?_); rintro e w1 ⟨rfl, hb⟩; (replace HM := HM.below hb; replace HB := HB.trans (hb.mono HB.size); clear hb)) | go_values | go_skip | go_guarded | go_step | go_upon | go_back | ((with_reducible show Oper.upon _ _ _ _ _ _); go_simp) | (dsimp only)))
      refine bodyPost_ret (resL rfl _ HM 2 _ rfl rfl) rfl ⟨?_, HB⟩
      rw [hX.out, show k = min y W by omega]
end Go.Proofs.YtmaogkgjiplckaaGreat
namespace Go.Proofs.YtmaogkgjiplckaaGreat
open Go.RowKit
section
variable {P : Program} {ops : Array Oper} {md : Region.Mode} {C : World → Prop}
def tailAny (P : Program) (md : Region.Mode) (ops : Array Oper) (C : World → Prop) (n : Nat) (L : Array Bool → Act → Prop) : Nat → Array Bool → Act → Prop
  | 0, listed, a => L listed a
  | f + 1, listed, a => Region.ready md ops listed ≠ [] ∧ ∀ i ∈ Region.ready md ops listed, i < n ∧ qOp P ops C i (tailAny P md ops C n L f (listed.setIfInBounds i true)) a
theorem tailAny_sound {n g : Nat} {L : Array Bool → Act → Prop} {Q : Exit → Act → World → Prop} (hL : ∀ listed a w, C w → L listed a → wpAny P md ops Q g listed a w) :
    ∀ (f : Nat) (listed : Array Bool) (a : Act) (w : World), C w → tailAny P md ops C n L f listed a → wpAny P md ops Q (f + g) listed a w
  | 0, listed, a, w, hw, h => by rw [Nat.zero_add]; exact hL _ _ _ hw h
  | f + 1, listed, a, w, hw, h => by
    rw [show f + 1 + g = (f + g) + 1 by omega]
    exact ⟨fun h0 => absurd h0 h.1, fun i hi => wpOp_of_qOp hw (fun a' w' hw' h' => tailAny_sound hL f _ a' w' hw' h') (h.2 i hi).2⟩
theorem tailAny_first {n i : Nat} {oi : Oper} {v : Value} {L : Array Bool → Act → Prop} (hi : ops[i]? = some oi) (hsel : ∀ (j : Nat) (o : Oper) cs b, ops[j]? = some o → o.op ≠ .select cs b)
    (hs : Region.sinkB md ops n = true) (hc : Region.chainB md ops n = true) (hn : n < ops.size) (hin : i < n) (hdone : ∀ listed a, L listed a → ∀ j ∈ Region.ready md ops listed, n ≤ j) :
    ∀ (f : Nat) (listed : Array Bool) (a : Act), HeadInv md ops n listed →
      (∀ j oj, ops[j]? = some oj → j ≠ i → listed.getD j true = false → (∀ e ∈ oj.after, Region.binds md e = true → e.on ≠ i) → oi.apart ops oj = true) →
      i ∈ Region.ready md ops listed → YieldsIn P ops C oi v a → tailAny P md ops C n L f (listed.setIfInBounds i true) (a.put oi.dst v) → tailAny P md ops C n L (f + 1) listed a := by
  intro f
  induction f with
  | zero =>
    intro listed a inv _ hr hy H
    have hun := (mem_ready.1 hr).1
    refine ⟨fun h => (by rw [h] at hr; cases hr), fun j hj => ?_⟩
    have hjn : j < n := (Nat.lt_or_ge j n).resolve_right fun h => tail_waits hs hc hn inv _ i rfl hin hun j h hj
    refine ⟨hjn, ?_⟩
    by_cases hji : j = i
    · subst hji; exact hy.qOp hi H
    · have := hdone _ _ H j (ready_mono hj hji)
      omega
  | succ f ih =>
    intro listed a inv hfree hr hy H
    have hun := (mem_ready.1 hr).1
    refine ⟨fun h => (by rw [h] at hr; cases hr), fun j hj => ?_⟩
    have hjn : j < n := (Nat.lt_or_ge j n).resolve_right fun h => tail_waits hs hc hn inv _ i rfl hin hun j h hj
    refine ⟨hjn, ?_⟩
    by_cases hji : j = i
    · subst hji; exact hy.qOp hi H
    · have h1 := (H.2 j (ready_mono hj hji)).2
      obtain ⟨hjun, oj, hoj, hall⟩ := mem_ready.1 hj
      have hnot : ∀ e ∈ oj.after, Region.binds md e = true → e.on ≠ i := fun e he hb heq => by
        have h1 := hall e he hb
        rw [heq, getD_both hun] at h1
        cases h1
      have h2 := qOp_put hoj (hfree j oj hoj hji hjun hnot) (fun cs b => hsel i oi cs b hi) (fun cs b => hsel j oj cs b hoj) hy h1
      have hfree' : ∀ k ok, ops[k]? = some ok → k ≠ i → (listed.setIfInBounds j true).getD k true = false →
          (∀ e ∈ ok.after, Region.binds md e = true → e.on ≠ i) → oi.apart ops ok = true := fun k ok hk hki hun hno => by
        refine hfree k ok hk hki ?_ hno
        by_cases hjk : j = k
        · subst hjk; exact hjun
        · rw [getD_set_ne true hjk] at hun; exact hun
      refine qOp_mono (fun a' h3 => ih (listed.setIfInBounds j true) a' (inv.set hj hjn) hfree' (ready_mono hr (Ne.symm hji)) h3.1 ?_) h2
      rw [Array.setIfInBounds_comm _ _ hji]
      exact h3.2
theorem tailAny_lex {n g : Nat} {Lq : Act → Prop} (hsel : Region.noSelect ops = true) (hs : Region.sinkB md ops n = true) (hc : Region.chainB md ops n = true) (hn : n < ops.size) :
    ∀ (l : List Oper) (k : Nat) (listed : Array Bool) (a : Act), (∀ j, j < l.length → l[j]? = ops[k + j]?) → k + l.length = n → HeadInv md ops n listed →
    Region.lexHead md ops g l.length k listed = true → wpQuiet P ops C Lq l a → tailAny P md ops C n (fun listed' a' => Region.seqB md ops g n listed' = true ∧ Lq a') l.length listed a
  | [], k, listed, a, _, hk, _, hB, h => by
    have : k = n := by simpa using hk
    subst this
    exact ⟨by simpa [Region.lexHead] using hB, h⟩
  | o :: l, k, listed, a, hl, hk, inv, hB, h => by
    have h0 : ops[k]? = some o := by simpa using (hl 0 (by simp)).symm
    simp only [List.length_cons, Region.lexHead, Bool.and_eq_true] at hB
    obtain ⟨⟨hr, hf⟩, hB'⟩ := hB
    have hkn : k < n := by simp only [List.length_cons] at hk; omega
    have hr' : k ∈ Region.ready md ops listed := by simpa using hr
    have hst : qOp P ops C k (wpQuiet P ops C Lq l) a := by unfold qOp; simp only [h0]; exact h
    obtain ⟨v, hy, hK⟩ := yieldsIn_of_qOp h0 hst
    exact tailAny_first h0 (Region.noSelect_spec hsel) hs hc hn hkn (fun listed' a' hL => seqB_ready hL.1) l.length listed a inv (Region.free_spec h0 hf) hr' hy
      (tailAny_lex hsel hs hc hn l (k + 1) _ _ (fun j hj => by have := hl (j + 1) (by simp; omega); simpa [Nat.add_assoc, Nat.add_comm 1 j] using this) (by simp only [List.length_cons] at hk; omega) (inv.set hr' hkn) hB' hK)
theorem wp_region_tail {id : Nat} {Q : Exit → Act → World → Prop} {a : Act} {W : World} {l : List Oper} (n : Nat) (hm : P.follows .mixedOrders = true) (hB : Region.lexTailB .any l.toArray n = true)
    (h : wpQuiet P l.toArray (Cls W) (fun a' => ∀ w', Cls W w' → wpList P l.toArray Q (l.drop n) a' w') (l.take n) a) : (Code.region id l.toArray true).wp P Q a W := by
  simp only [Region.lexTailB, Bool.and_eq_true, decide_eq_true_eq] at hB
  obtain ⟨⟨⟨⟨hsel, hn⟩, hs⟩, hc⟩, hlex⟩ := hB
  have hn' : n < l.length := by simpa using hn
  have htl : (l.take n).length = n := by simp; omega
  have hdl : (l.drop n).length = l.toArray.size - n := by simp
  have inv0 : HeadInv .any l.toArray n (Array.replicate l.toArray.size false) :=
    ⟨by simp, fun j oj _ hl => (by rw [getD_replicate_false] at hl; cases hl), fun t _ ht => getD_in (by simpa using ht) (getD_replicate_false _ _)⟩
  have H := tailAny_lex (md := .any) (g := l.toArray.size - n) hsel hs hc hn (l.take n) 0 _ a (fun j hj => by
    have hj' : j < n := by rw [htl] at hj; exact hj
    simp [hj']) (by simpa using htl) inv0 (by rw [htl]; exact hlex) h
  refine wp_region_any hm ?_
  have hC0 : Cls W { W with drawn := W.drawn + 1 } := ⟨rfl, rfl, rfl, Nat.le_refl _, fun _ _ => rfl⟩
  have := tailAny_sound (Q := Q) (g := l.toArray.size - n) (fun listed a' w' hw' hL => by
    have := wpAny_of_seq (md := .any) (Q' := Q) (l.drop n) n listed a' w' (fun j => by simp [List.getElem?_drop]) (by rw [hdl]; exact hL.1) (hL.2 w' hw')
    rwa [hdl] at this) _ _ _ _ hC0 H
  rw [htl, show n + (l.toArray.size - n) = l.toArray.size by omega] at this
  exact this
end
end Go.Proofs.YtmaogkgjiplckaaGreat
namespace Go.Proofs.YtmaogkgjiplckaaGreat
open Go.RowKit
theorem res29two {fn : Func} {p q : Tmp} (h : fn.results = #[.cell p 134, .cell q 134]) (tmps : Array Value) (w : World) (b n c m : Nat)
    (hp : tmps.getD p undef = .pointer (some ⟨b, 0, none⟩)) (hq : tmps.getD q undef = .pointer (some ⟨c, 0, none⟩))
    (hb : w.heap[b]? = some (.cells (bw n) 134 (0, 0))) (hc : w.heap[c]? = some (.cells (bw m) 134 (0, 0))) : (results fn tmps).run Tryz.prog w = .ok (.tuple #[.agg (bw n), .agg (bw m)]) w := by
  have hp' : tmps[p]?.getD undef = .pointer (some ⟨b, 0, none⟩) := by simpa using hp
  have hq' : tmps[q]?.getD undef = .pointer (some ⟨c, 0, none⟩) := by simpa using hq
  have r1 := run_loadVar_row w b 134 134 (bw n) (0, 0) _ hb Tryz.underlying134 rfl (by rw [bw_size]; exact (zero_of_info zero29).2)
  have r2 := run_loadVar_row w c 134 134 (bw m) (0, 0) _ hc Tryz.underlying134 rfl (by rw [bw_size]; exact (zero_of_info zero29).2)
  simp [results, h, hp', hq', asAddr, r1, r2]
theorem yields_loadL {ops : Array Oper} {B : Nat} {l : List (Array Value × TypeId)} {S : World → Prop} {o : Oper} {a : Act} (hS : ∀ w, S w → MemL w B l) (i n : Nat) (hi : l[i]? = some (bw n, 134)) (hw : Region.wanted o (yielded ops a.tmps) = true)
    (x : Operand) (ho : o.op = .load 134 x) (hx : a.eval x = .pointer (some ⟨B + i, 0, none⟩)) : YieldsIf Tryz.prog ops S o (.agg (bw n)) a := by
  refine .inl ⟨hw, fun w hw' => ?_⟩
  unfold execOp
  simp only [ho, hx, Sem.run_bind, load29 w _ n ((hS w hw').get i hi), Result.andThen_ok]
  rfl
theorem build29 (w : World) : (Instr.build 134 #[]).run Tryz.prog w = .ok (.agg (bw 0)) w := by kernel_rfl
theorem yields_build {ops : Array Oper} {S : World → Prop} {o : Oper} {a : Act} (hw : Region.wanted o (yielded ops a.tmps) = true) (ho : o.op = .build 134 #[]) : YieldsIf Tryz.prog ops S o (.agg (bw 0)) a := by
  refine .inl ⟨hw, fun w _ => ?_⟩
  unfold execOp
  have e : (#[] : Array (Nat × Operand)).map (fun p => (p.1, a.eval p.2)) = #[] := by simp
  simp only [ho, e, Sem.run_bind, build29 w, Result.andThen_ok]
  rfl
set_option maxRecDepth 100000 in
set_option maxHeartbeats 1000000 in
theorem div_zero (W x : Nat) (w : World) (hW : W ≤ 64) :
    Calls Tryz.prog 96 #[.int .i64 W, .agg (bw x), .agg (bw 0)] w fun e w' => e = .returned (.tuple #[.agg (bw (2 ^ W - 1)), .agg (bw x)]) ∧ Below w.heap.size w w' := by
  have hz := (zero_of_info zero29).1
  have h064 : Hid (0 < 18446744073709551616) := Lib.hid (by decide)
  go_enter Tryz.func96, Tryz.ntmps96
  (repeat (first | (with_reducible first | refine xA ?_ | refine xB ?_ | refine xC ?_ | refine xD ?_ | refine xH ?_ | refine xI rfl ?_ | refine xE ?_ | refine xF ?_ | refine xG ?_) | go_skip | go_guarded | ((with_reducible refine wl_load29 rfl _ rfl ?_); apply Exists.intro; apply Exists.intro; refine ⟨rfl, ?_, ?_⟩; (· (repeat (first | (with_reducible assumption) | ((with_reducible refine heap_new _ _ _ ?_); (simp; done)) | ((with_reducible refine (heap_old _ _ _ ?_).trans ?_); (· (first | (simp; done) | (simp; omega) | omega))) | (with_reducible refine row_same ?_ _) | ((with_reducible refine row_other ?_ _ ?_); rotate_left; (· (first | (simp; done) | (simp; omega) | omega))) | (with_reducible refine row_cell _ _ _ _ _ ?_) | ((with_reducible refine (heap_setCell_other _ _ _ _ ?_).trans ?_); (· (first | (simp; done) | (simp; omega) | omega))) | rw [heap_drew] | rw [World.heap_drewN]))); simp only [Act.put, qz4, qz5, qz6]) | (go_at_call 97; (with_reducible refine (num_any _ _ (by assumption)).mono ?_); rintro e w1 ⟨rfl, hb⟩) | go_values | go_skip | go_guarded | go_step | go_upon | go_back | ((with_reducible show Oper.upon _ _ _ _ _ _); go_simp) | (dsimp only)))
  have HM : MemL w1 w.heap.size [(bw x, 134), (bw 0, 134), (bw 0, 134), (bw 0, 134)] := (mem4 _ _ _ _ _ _ _ _ _).1.below hb
  have HB : Below w.heap.size w w1 := (by (repeat (first | with_reducible exact Below.refl _ _ | assumption | with_reducible refine below_drewN ?_ _ | with_reducible refine Below.drew ?_ | with_reducible refine Below.setRow ?_ ?_ _ | with_reducible refine Below.alloc ?_ ?_ _ | with_reducible refine Below.setCell ?_ ?_ _ | with_reducible exact Nat.le_refl _ | (focus (simp; done)) | (focus (simp; omega)) | omega)) : Below w.heap.size w _).trans (hb.mono (by simp; omega))
  clear hb
  refine wp_region_held (S := fun w' => MemL w' w.heap.size [(bw x, 134), (bw 0, 134)]) (by kernel_rfl) ?_
  have HD : Below w.heap.size w1 { w1 with drawn := w1.drawn + 1 } := ⟨rfl, rfl, rfl, Nat.le_refl _, fun _ _ => rfl⟩
  replace HM : MemL { w1 with drawn := w1.drawn + 1 } w.heap.size [(bw x, 134), (bw 0, 134), (bw 0, 134), (bw 0, 134)] := HM
  replace HB := HB.trans HD
  clear HD
  generalize ({ w1 with drawn := w1.drawn + 1 } : World) = w2 at *
  refine wpAnyH_take (i := 0) rfl (by kernel_rfl) (by kernel_rfl) (by kernel_rfl) (fun _ _ _ h => h) (Or.inl ⟨rfl, fun w _ => rfl⟩) (HM.pre 2) ?_
  simp only [Act.put, qz4, qz5, qz6]
  refine wpAnyH_take (i := 1) rfl (by kernel_rfl) (by kernel_rfl) (by kernel_rfl) (fun _ _ _ h => h) (yields_build rfl rfl) (HM.pre 2) ?_
  simp only [Act.put, qz4, qz5, qz6]
  refine wpAnyH_take (i := 3) rfl (by kernel_rfl) (by kernel_rfl) (by kernel_rfl) (fun _ _ _ h => h) (yields_loadL (fun _ h => h) 0 x rfl rfl _ rfl rfl) (HM.pre 2) ?_
  simp only [Act.put, qz4, qz5, qz6]
  refine wpAnyH_all (rs := [2]) (by kernel_rfl) (by simp) (fun i hi => ?_)
  obtain rfl : i = 2 := by simpa using hi
  refine wpOp_one rfl ?_
  (repeat (first | (with_reducible first | refine xA ?_ | refine xB ?_ | refine xC ?_ | refine xD ?_ | refine xH ?_ | refine xI rfl ?_ | refine xE ?_ | refine xF ?_ | refine xG ?_) | go_skip | go_guarded | (go_at_call 98; (with_reducible refine (not_any _ _ _ hW).mono ?_); rintro e w1 ⟨rfl, hb⟩; (replace HM := HM.below hb; replace HB := HB.trans (hb.mono HB.size); clear hb)) | go_values | go_skip | go_guarded | go_step | go_upon | go_back | ((with_reducible show Oper.upon _ _ _ _ _ _); go_simp) | (dsimp only)))
  refine ⟨HM.pre 2, ?_⟩
  refine wpAnyH_all (rs := [4]) (by kernel_rfl) (by simp) (fun i hi => ?_)
  obtain rfl : i = 4 := by simpa using hi
  refine wpOp_one rfl ?_
  (repeat (first | (with_reducible first | refine xA ?_ | refine xB ?_ | refine xC ?_ | refine xD ?_ | refine xH ?_ | refine xI rfl ?_ | refine xE ?_ | refine xF ?_ | refine xG ?_) | go_skip | go_guarded | ((with_reducible refine wl_id ?_); refine wl_storeL HM 2 _ _ rfl rfl _ _ rfl rfl rfl ?_; intro w1 HM1 hb; (simp only [List.set_cons_succ, List.set_cons_zero] at HM1); clear HM; have HM := HM1; clear HM1; replace HB := HB.trans hb; clear hb; simp only [Act.put, qz4, qz5, qz6]) | go_values | go_skip | go_guarded | go_step | go_upon | go_back | ((with_reducible show Oper.upon _ _ _ _ _ _); go_simp) | (dsimp only)))
  refine ⟨HM.pre 2, ?_⟩
  refine wpAnyH_all (rs := [5]) (by kernel_rfl) (by simp) (fun i hi => ?_)
  obtain rfl : i = 5 := by simpa using hi
  refine wpOp_one rfl ?_
  (repeat (first | (with_reducible first | refine xA ?_ | refine xB ?_ | refine xC ?_ | refine xD ?_ | refine xH ?_ | refine xI rfl ?_ | refine xE ?_ | refine xF ?_ | refine xG ?_) | go_skip | go_guarded | ((with_reducible refine wl_id ?_); refine wl_storeL HM 3 _ _ rfl rfl _ _ rfl rfl rfl ?_; intro w1 HM1 hb; (simp only [List.set_cons_succ, List.set_cons_zero] at HM1); clear HM; have HM := HM1; clear HM1; replace HB := HB.trans hb; clear hb; simp only [Act.put, qz4, qz5, qz6]) | go_values | go_skip | go_guarded | go_step | go_upon | go_back | ((with_reducible show Oper.upon _ _ _ _ _ _); go_simp) | (dsimp only)))
  refine ⟨HM.pre 2, ?_⟩
  refine wpAnyH_done (by kernel_rfl) ?_ _
  (repeat (first | (with_reducible first | refine xA ?_ | refine xB ?_ | refine xC ?_ | refine xD ?_ | refine xH ?_ | refine xI rfl ?_ | refine xE ?_ | refine xF ?_ | refine xG ?_) | go_values | go_skip | go_guarded | go_step | go_upon | go_back | ((with_reducible show Oper.upon _ _ _ _ _ _); go_simp) | (dsimp only)))
  refine bodyPost_ret (res29two rfl _ _ _ _ _ _ rfl rfl (HM.get 2 rfl) (HM.get 3 rfl)) rfl ⟨?_, HB⟩
  simp
end Go.Proofs.YtmaogkgjiplckaaGreat
namespace Go.Proofs.YtmaogkgjiplckaaGreat
open Go.RowKit
theorem ld4 (w : World) (p : Addr) (b : Bool) (h : w.cell? p = some (.bool b)) : (Instr.loadAt 4 (.pointer (some p))).run Tryz.prog w = .ok (.bool b) w := by go_simp
theorem st4 (w : World) (p : Addr) (b v : Bool) (h : w.cell? p = some (.bool b)) (hf : w.frozen? p = false) : (Instr.storeAt 4 (.pointer (some p)) (.bool v)).run Tryz.prog w = .ok () (w.setCell p (.bool v)) := by go_simp
section
variable {ops : Array Oper} {rest : List Oper} {o : Oper} {a : Act} {w W : World} {Q : Exit → Act → World → Prop} {B : Nat} {l : List (Array Value × TypeId)} {K : Act → Prop}
theorem quiet_loadL (HM : MemL W B l) (i n : Nat) (hi : l[i]? = some (bw n, 134)) (x : Operand) (ho : o.op = .load 134 x) (hx : a.eval x = .pointer (some ⟨B + i, 0, none⟩)) (hk : K (a.put o.dst (.agg (bw n)))) : o.quiet Tryz.prog a (Cls W) K := by
  refine ⟨_, fun w hw => ?_, hk⟩
  unfold Oper.quietAt execOp
  simp only [ho, hx, Sem.run_bind, load29 w _ n ((HM.below hw).get i hi), Result.andThen_ok]
  exact ⟨rfl, rfl⟩
theorem quiet_bitL (HM : MemL W B l) (i n : Nat) (hi : l[i]? = some (bw n, 134)) (k : Nat) (h64 : k < 64) (x : Operand) (ho : o.op = .load 4 x) (hx : a.eval x = .pointer (some ⟨B + i, k, none⟩)) (hk : K (a.put o.dst (.bool (n.testBit k)))) : o.quiet Tryz.prog a (Cls W) K :=
  quiet_load 4 x ho _ hx _ (fun w hw => bitL (HM.below hw) i n hi k h64) (fun w h => ld4 w _ _ h) hk
theorem wl_storeR {B' : Nat} {l' : List (Array Value × TypeId)} (HM : MemL w B l) (HN : MemL w B' l') (i n m : Nat) (hi : l[i]? = some (bw n, 134)) (hgd : o.guard = none) (x y : Operand) (ho : o.op = .store 134 x y)
    (hx : a.eval x = .pointer (some ⟨B + i, 0, none⟩)) (hy : a.eval y = .agg (bw m)) (hlt : B + i < B')
    (h : ∀ w', MemL w' B (l.set i (bw m, 134)) → MemL w' B' l' → Below B w w' → wpList Tryz.prog ops Q rest (a.put o.dst undef) w') : wpList Tryz.prog ops Q (o :: rest) a w :=
  wl_store29 hgd x y ho ⟨_, n, m, hx, hy, HM.get i hi, h _ (HM.row i hi) (HN.apart hlt _) (Below.setRow (Below.refl _ _) (by omega) _)⟩
theorem wl_loadG (HM : MemL w B l) (i n : Nat) (hi : l[i]? = some (bw n, 134)) (hgd : Region.wanted o (yielded ops a.tmps) = true) (x : Operand) (ho : o.op = .load 134 x)
    (hx : a.eval x = .pointer (some ⟨B + i, 0, none⟩)) (h : wpList Tryz.prog ops Q rest (a.put o.dst (.agg (bw n))) w) : wpList Tryz.prog ops Q (o :: rest) a w :=
  BigFrame.wpList_want hgd fun _ hK => by
    unfold Oper.wp execOp
    simp only [ho, hx, Sem.run_bind, load29 w _ n (HM.get i hi), Result.andThen_ok]
    exact hK _ _ h
theorem wl_bitL (HM : MemL w B l) (i n : Nat) (hi : l[i]? = some (bw n, 134)) (k : Nat) (h64 : k < 64) (v : Bool) (hgd : o.guard = none) (x y : Operand) (ho : o.op = .store 4 x y)
    (hx : a.eval x = .pointer (some ⟨B + i, k, none⟩)) (hy : a.eval y = .bool v)
    (h : ∀ w', MemL w' B (l.set i (bw (setb n k v), 134)) → Below B w w' → wpList Tryz.prog ops Q rest (a.put o.dst undef) w') : wpList Tryz.prog ops Q (o :: rest) a w :=
  wpList_plain hgd fun _ hK => by
    unfold Oper.wp execOp
    simp only [ho, hx, hy, Sem.run_bind, st4 w _ _ v (bitL HM i n hi k h64) (frozen_of_row _ _ k _ _ (HM.get i hi)), Result.andThen_ok]
    refine hK _ _ (h _ ?_ (Below.setCell (Below.refl _ _) (by simp) _))
    have := HM.cell i k (.bool v) hi
    rwa [bw_set] at this
end
theorem dv_num {x k : Nat} : x / 2 ^ k = 2 * (x / 2 ^ (k + 1)) + (x.testBit k).toNat := by
  rw [num_step (n := x) (k := k) rfl]; cases x.testBit k <;> simp
theorem dv_qr {A y : Nat} (b : Bool) (hy : 0 < y) : (2 * A + b.toNat) = y * (2 * (A / y)) + (2 * (A % y) + b.toNat) := by
  have := Nat.div_add_mod A y
  rw [Nat.mul_left_comm]
  omega
theorem dv_ge {A y : Nat} {b : Bool} (hy : 0 < y) (h : y ≤ 2 * (A % y) + b.toNat) : (2 * A + b.toNat) / y = 2 * (A / y) + 1 ∧ (2 * A + b.toNat) % y = 2 * (A % y) + b.toNat - y := by
  have h1 := Nat.mod_lt A hy
  have h2 := Bool.toNat_le b
  have e : 2 * A + b.toNat = (2 * (A % y) + b.toNat - y) + y * (2 * (A / y) + 1) := by
    have := dv_qr (A := A) (y := y) b hy
    rw [Nat.mul_add, Nat.mul_one]
    omega
  rw [e, Nat.add_mul_div_left _ _ hy, Nat.add_mul_mod_self_left, Nat.div_eq_of_lt (by omega), Nat.mod_eq_of_lt (by omega)]
  omega
theorem dv_lt {A y : Nat} {b : Bool} (hy : 0 < y) (h : 2 * (A % y) + b.toNat < y) : (2 * A + b.toNat) / y = 2 * (A / y) ∧ (2 * A + b.toNat) % y = 2 * (A % y) + b.toNat := by
  have e : 2 * A + b.toNat = (2 * (A % y) + b.toNat) + y * (2 * (A / y)) := by
    have := dv_qr (A := A) (y := y) b hy
    omega
  rw [e, Nat.add_mul_div_left _ _ hy, Nat.add_mul_mod_self_left, Nat.div_eq_of_lt h, Nat.mod_eq_of_lt h]
  simp
theorem dv_over {W r y : Nat} {b : Bool} (hW : 1 ≤ W) (hr : r < y) (hy : y < 2 ^ W) : (r.testBit (W - 1) = true → y ≤ 2 * r + b.toNat) ∧ (r.testBit (W - 1) = false → (2 * r + b.toNat) % 2 ^ W = 2 * r + b.toNat) := by
  obtain ⟨V, rfl⟩ : ∃ V, W = V + 1 := ⟨W - 1, by omega⟩
  rw [show V + 1 - 1 = V from by omega, Nat.testBit_eq_decide_div_mod_eq]
  rw [Nat.pow_succ] at *
  have hb := Bool.toNat_le b
  have hp := Nat.pow_pos (n := V) (show 0 < 2 by omega)
  rcases Nat.lt_or_ge r (2 ^ V) with h | h
  · rw [Nat.div_eq_of_lt h]
    simp
    rw [Nat.mod_eq_of_lt (by omega)]
  · have : r / 2 ^ V = 1 := by
      rw [show r = (r - 2 ^ V) + 2 ^ V by omega, Nat.add_div_right _ hp, Nat.div_eq_of_lt (by omega)]
    rw [this]
    simp
    omega
theorem dv_sub {W z y : Nat} (hy : y < 2 ^ W) (h1 : y ≤ z) (h2 : z < 2 * y) : (z % 2 ^ W + (2 ^ W - 1 - y % 2 ^ W) + true.toNat) % 2 ^ W = z - y := by
  rw [Nat.mod_eq_of_lt hy, Nat.add_assoc, Nat.mod_add_mod, Bool.toNat_true, show z + (2 ^ W - 1 - y + 1) = z - y + 2 ^ W by omega, Nat.add_mod_right, Nat.mod_eq_of_lt (by omega)]
theorem dv_set (q k : Nat) : setb (q * 2 ^ (k + 1)) k true = (2 * q + 1) * 2 ^ k := by
  have hk : (2 ^ (k + 1) * q).testBit k = false := by
    rw [Nat.testBit_two_pow_mul, decide_eq_false (by omega)]
    rfl
  have e1 : 2 ^ (k + 1) * q ^^^ 2 ^ k = 2 ^ (k + 1) * q ||| 2 ^ k := by
    apply Nat.eq_of_testBit_eq
    intro j
    rw [Nat.testBit_xor, Nat.testBit_or, Nat.testBit_two_pow]
    by_cases e : k = j
    · subst e; rw [hk]; simp
    · simp [e]
  rw [Nat.mul_comm q]
  unfold setb
  rw [hk, if_neg (by simp), e1, ← Nat.two_pow_add_eq_or_of_lt (Nat.pow_lt_pow_right (by omega) (by omega)), Nat.pow_succ, Nat.add_mul, Nat.one_mul, Nat.mul_assoc, Nat.mul_comm 2 q, Nat.mul_assoc, Nat.mul_left_comm, Nat.mul_comm (2 ^ k) 2]
set_option maxRecDepth 100000 in
set_option maxHeartbeats 1000000 in
theorem div_pos (W x y : Nat) (w : World) (hW0 : 1 ≤ W) (hW : W ≤ 64) (hx : Hid (x < 2 ^ W)) (hy : Hid (y < 2 ^ W)) (hy0 : 0 < y) :
    Calls Tryz.prog 96 #[.int .i64 W, .agg (bw x), .agg (bw y)] w fun e w' => e = .returned (.tuple #[.agg (bw (x / y)), .agg (bw (x % y))]) ∧ Below w.heap.size w w' := by
  have hz := (zero_of_info zero29).1
  have hy64 : Hid (y < 18446744073709551616) := Lib.hid (lt_pow hy.out hW)
  have hyz : ((y : Int) == 0) = false := by simp; omega
  go_enter Tryz.func96, Tryz.ntmps96
  (repeat (first | (with_reducible first | refine xA ?_ | refine xB ?_ | refine xC ?_ | refine xD ?_ | refine xH ?_ | refine xI rfl ?_ | refine xE ?_ | refine xF ?_ | refine xG ?_) | go_skip | go_guarded | ((with_reducible refine wl_load29 rfl _ rfl ?_); apply Exists.intro; apply Exists.intro; refine ⟨rfl, ?_, ?_⟩; (· (repeat (first | (with_reducible assumption) | ((with_reducible refine heap_new _ _ _ ?_); (simp; done)) | ((with_reducible refine (heap_old _ _ _ ?_).trans ?_); (· (first | (simp; done) | (simp; omega) | omega))) | (with_reducible refine row_same ?_ _) | ((with_reducible refine row_other ?_ _ ?_); rotate_left; (· (first | (simp; done) | (simp; omega) | omega))) | (with_reducible refine row_cell _ _ _ _ _ ?_) | ((with_reducible refine (heap_setCell_other _ _ _ _ ?_).trans ?_); (· (first | (simp; done) | (simp; omega) | omega))) | rw [heap_drew] | rw [World.heap_drewN]))); simp only [Act.put, qz4, qz5, qz6]) | (go_at_call 97; (with_reducible refine (num_any _ _ (by assumption)).mono ?_); rintro e w1 ⟨rfl, hb⟩) | go_values | go_skip | go_guarded | go_step | go_upon | go_back | ((with_reducible show Oper.upon _ _ _ _ _ _); go_simp) | (dsimp only)))
  have HM := ((mem4 _ _ _ _ _ _ _ _ _).1.below hb : MemL w1 w.heap.size [(bw x, 134), (bw y, 134), (bw 0, 134), (bw 0, 134)])
  have HB : Below w.heap.size w w1 := (by (repeat (first | with_reducible exact Below.refl _ _ | assumption | with_reducible refine below_drewN ?_ _ | with_reducible refine Below.drew ?_ | with_reducible refine Below.setRow ?_ ?_ _ | with_reducible refine Below.alloc ?_ ?_ _ | with_reducible refine Below.setCell ?_ ?_ _ | with_reducible exact Nat.le_refl _ | (focus (simp; done)) | (focus (simp; omega)) | omega)) : Below w.heap.size w _).trans (hb.mono (by simp; omega))
  have hsz : w.heap.size + 4 ≤ w1.heap.size := by have := hb.size; simp at this; omega
  clear hb
  go_loopw [10] (fun i wr => ∃ k Qn R : Nat, k ≤ W ∧ Hid (Qn = x / 2 ^ k / y * 2 ^ k) ∧ Hid (R = x / 2 ^ k % y) ∧ i = .int .i64 ((k : Int) - 1) ∧ Below w.heap.size w wr ∧ MemL wr w.heap.size [(bw x, 134), (bw y, 134), (bw 0, 134), (bw 0, 134)] ∧ MemL wr w1.heap.size [(bw Qn, 134), (bw R, 134)]) (fun i _ => (intOf i + 1).toNat)
  case atStart => exact ⟨W, 0, 0, by omega, Lib.hid (by rw [Nat.div_eq_of_lt hx.out]; simp), Lib.hid (by rw [Nat.div_eq_of_lt hx.out]; simp), rfl, by (repeat (first | with_reducible exact Below.refl _ _ | assumption | with_reducible refine below_drewN ?_ _ | with_reducible refine Below.drew ?_ | with_reducible refine Below.setRow ?_ ?_ _ | with_reducible refine Below.alloc ?_ ?_ _ | with_reducible refine Below.setCell ?_ ?_ _ | with_reducible exact Nat.le_refl _ | (focus (simp; done)) | (focus (simp; omega)) | omega)), HM.under (B' := w1.heap.size) (((Below.refl _ _).alloc (Nat.le_refl _) _).alloc (by simp) _) (by simp; omega), (mem2 _ _ _ _ _).1⟩
  case round =>
    clear HM HB
    obtain ⟨k, Qn, R, hk, hQ, hR, rfl, HB, HM, HN⟩ := hrel
    rcases k with _ | k
    · (repeat (first | (with_reducible first | refine xA ?_ | refine xB ?_ | refine xC ?_ | refine xD ?_ | refine xH ?_ | refine xI rfl ?_ | refine xE ?_ | refine xF ?_ | refine xG ?_) | go_values | go_skip | go_guarded | go_step | go_upon | go_back | ((with_reducible show Oper.upon _ _ _ _ _ _); go_simp) | (dsimp only)))
      refine wp_region_held (S := fun w' => MemL w' w1.heap.size [(bw Qn, 134), (bw R, 134)]) (by kernel_rfl) ?_
      have HD : Below w.heap.size wr { wr with drawn := wr.drawn + 1 } := ⟨rfl, rfl, rfl, Nat.le_refl _, fun _ _ => rfl⟩
      replace HM : MemL { wr with drawn := wr.drawn + 1 } w.heap.size [(bw x, 134), (bw y, 134), (bw 0, 134), (bw 0, 134)] := HM
      replace HN : MemL { wr with drawn := wr.drawn + 1 } w1.heap.size [(bw Qn, 134), (bw R, 134)] := HN
      replace HB := HB.trans HD
      clear HD
      generalize ({ wr with drawn := wr.drawn + 1 } : World) = w2 at *
      refine wpAnyH_take (i := 0) rfl (by kernel_rfl) (by kernel_rfl) (by kernel_rfl) (fun _ _ _ h => h) (yields_loadL (fun _ h => h) 0 Qn rfl rfl _ rfl rfl) HN ?_
      simp only [Act.put, qz4, qz5, qz6]
      refine wpAnyH_take (i := 1) rfl (by kernel_rfl) (by kernel_rfl) (by kernel_rfl) (fun _ _ _ h => h) (yields_loadL (fun _ h => h) 1 R rfl rfl _ rfl rfl) HN ?_
      simp only [Act.put, qz4, qz5, qz6]
      refine wpAnyH_all (rs := [2]) (by kernel_rfl) (by simp) (fun i hi => ?_)
      obtain rfl : i = 2 := by simpa using hi
      refine wpOp_one rfl ?_
      ((with_reducible refine wl_id ?_); refine wl_storeR HM HN 2 _ _ rfl rfl _ _ rfl rfl rfl (by omega) ?_; intro w9 HM1 HN1 hb; (simp only [List.set_cons_succ, List.set_cons_zero] at HM1); clear HM HN; have HM := HM1; have HN := HN1; clear HM1 HN1; replace HB := HB.trans hb; clear hb; simp only [Act.put, qz4, qz5, qz6])
      go_step
      refine ⟨HN, ?_⟩
      refine wpAnyH_all (rs := [3]) (by kernel_rfl) (by simp) (fun i hi => ?_)
      obtain rfl : i = 3 := by simpa using hi
      refine wpOp_one rfl ?_
      ((with_reducible refine wl_id ?_); refine wl_storeR HM HN 3 _ _ rfl rfl _ _ rfl rfl rfl (by omega) ?_; intro w9 HM1 HN1 hb; (simp only [List.set_cons_succ, List.set_cons_zero] at HM1); clear HM HN; have HM := HM1; have HN := HN1; clear HM1 HN1; replace HB := HB.trans hb; clear hb; simp only [Act.put, qz4, qz5, qz6])
      go_step
      refine ⟨HN, ?_⟩
      refine wpAnyH_done (by kernel_rfl) ?_ _
      (iterate 4 (first | (with_reducible first | refine xA ?_ | refine xB ?_ | refine xC ?_ | refine xD ?_ | refine xH ?_ | refine xI rfl ?_ | refine xE ?_ | refine xF ?_ | refine xG ?_) | go_values | go_skip | go_guarded | go_step | go_upon | go_back | ((with_reducible show Oper.upon _ _ _ _ _ _); go_simp) | (dsimp only)))
      refine bodyPost_ret (res29two rfl _ _ _ _ _ _ rfl rfl (HM.get 2 rfl) (HM.get 3 rfl)) rfl ⟨?_, HB⟩
      rw [hQ.out, hR.out]
      simp
    · have b0 : (0 : Int) ≤ k := by omega
      have b1 : (k : Int) < 64 := by omega
      have e1 : ((k + 1 : Nat) : Int) - 1 = k := by omega
      have hidx : ((W : Int) - 1).toNat = W - 1 := by omega
      have c0 : (0 : Int) ≤ (W : Int) - 1 := by omega
      have c1 : (W : Int) - 1 < 64 := by omega
      have hov := bitL HN 1 R rfl (W - 1) (by omega)
      have hp := Lib.hid (Nat.pow_pos (n := W) (show 0 < 2 by omega))
      have hUl : Hid ((2 * R + (x.testBit k).toNat) % 2 ^ W < 2 ^ W) := Lib.hid (Nat.mod_lt _ hp.out)
      have hNl : Hid (2 ^ W - 1 - y % 2 ^ W < 2 ^ W) := Lib.hid (by have := hp.out; omega)
      have hRy : Hid (R < y) := Lib.hid (by rw [hR.out]; exact Nat.mod_lt _ hy0)
      have Ho := Lib.hid (dv_over (b := x.testBit k) hW0 hRy.out hy.out)
      have Hnum := Lib.hid (dv_num (x := x) (k := k))
      cases ho : R.testBit (W - 1) with
      | true =>
        have Hge : Hid (y ≤ 2 * R + (x.testBit k).toNat) := Lib.hid (Ho.out.1 ho)
        rw [ho] at hov
        clear ho
        (repeat (first | (with_reducible first | refine xA ?_ | refine xB ?_ | refine xC ?_ | refine xD ?_ | refine xH ?_ | refine xI rfl ?_ | refine xE ?_ | refine xF ?_ | refine xG ?_) | go_values | go_skip | go_guarded | go_step | go_upon | go_back | ((with_reducible show Oper.upon _ _ _ _ _ _); go_simp) | (dsimp only)))
        (refine wp_region_tail 6 (by kernel_rfl) (by kernel_rfl) ?_; simp only [List.take_succ_cons, List.take_zero, List.drop_succ_cons, List.drop_zero]; (repeat (first | go_big_quiet_skip | (go_big_quiet_want; first | (refine quiet_loadL HM 1 _ rfl _ rfl rfl ?_; simp only [Act.put, qz4, qz5, qz6]; go_big_quiet_on) | (refine quiet_loadL HN 1 _ rfl _ rfl rfl ?_; simp only [Act.put, qz4, qz5, qz6]; go_big_quiet_on) | (refine quiet_bitL HM 0 _ rfl k (by omega) _ rfl rfl ?_; simp only [Act.put, qz4, qz5, qz6]; go_big_quiet_on) | (go_big_quiet_op; first | go_big_quiet_on | (refine Exists.intro _ (And.intro (fun _ _ => rfl) ?_); go_big_quiet_on) | go_big_quiet_call (((intro hC; replace hC : Below _ _ _ := hC); first | (go_at_call 128; (with_reducible refine (up_any _ _ _ _ hW0 hW).mono ?_); (rintro e w2 ⟨rfl, hb⟩; exact ⟨rfl, hC.trans (hb.mono hC.size)⟩)) | (go_at_call 98; (with_reducible refine (not_any _ _ _ hW).mono ?_); (rintro e w2 ⟨rfl, hb⟩; exact ⟨rfl, hC.trans (hb.mono hC.size)⟩)) | (go_at_call 99; (with_reducible refine (add_ref _ _ _ _ _ hW (by assumption) (by assumption)).mono ?_); (rintro e w2 ⟨rfl, hb⟩; exact ⟨rfl, hC.trans (hb.mono hC.size)⟩)))))))); (refine wpQuiet_nil ?_; intro w8 hb; replace hb : Below _ _ _ := hb; (replace HM := HM.below hb; replace HN := HN.below hb; replace HB := HB.trans (hb.mono HB.size); clear hb)))
        (repeat (first | (with_reducible first | refine xA ?_ | refine xB ?_ | refine xC ?_ | refine xD ?_ | refine xH ?_ | refine xI rfl ?_ | refine xE ?_ | refine xF ?_ | refine xG ?_) | go_skip | go_guarded | ((with_reducible refine wl_id ?_); refine wl_storeL HN 1 _ _ rfl rfl _ _ rfl rfl rfl ?_; intro w9 HN1 hb; (simp only [List.set_cons_succ, List.set_cons_zero] at HN1); clear HN; have HN := HN1; clear HN1; replace HM := HM.under hb (by simp; omega); replace HB := HB.trans (hb.mono (by omega)); clear hb; simp only [Act.put, qz4, qz5, qz6]) | go_values | go_skip | go_guarded | go_step | go_upon | go_back | ((with_reducible show Oper.upon _ _ _ _ _ _); go_simp) | (dsimp only)))
        (refine wp_region_tail 6 (by kernel_rfl) (by kernel_rfl) ?_; simp only [List.take_succ_cons, List.take_zero, List.drop_succ_cons, List.drop_zero]; (repeat (first | go_big_quiet_skip | (go_big_quiet_want; first | (refine quiet_loadL HM 1 _ rfl _ rfl rfl ?_; simp only [Act.put, qz4, qz5, qz6]; go_big_quiet_on) | (refine quiet_loadL HN 1 _ rfl _ rfl rfl ?_; simp only [Act.put, qz4, qz5, qz6]; go_big_quiet_on) | (refine quiet_bitL HM 0 _ rfl k (by omega) _ rfl rfl ?_; simp only [Act.put, qz4, qz5, qz6]; go_big_quiet_on) | (go_big_quiet_op; first | go_big_quiet_on | (refine Exists.intro _ (And.intro (fun _ _ => rfl) ?_); go_big_quiet_on) | go_big_quiet_call (((intro hC; replace hC : Below _ _ _ := hC); first | (go_at_call 128; (with_reducible refine (up_any _ _ _ _ hW0 hW).mono ?_); (rintro e w2 ⟨rfl, hb⟩; exact ⟨rfl, hC.trans (hb.mono hC.size)⟩)) | (go_at_call 98; (with_reducible refine (not_any _ _ _ hW).mono ?_); (rintro e w2 ⟨rfl, hb⟩; exact ⟨rfl, hC.trans (hb.mono hC.size)⟩)) | (go_at_call 99; (with_reducible refine (add_ref _ _ _ _ _ hW (by assumption) (by assumption)).mono ?_); (rintro e w2 ⟨rfl, hb⟩; exact ⟨rfl, hC.trans (hb.mono hC.size)⟩)))))))); (refine wpQuiet_nil ?_; intro w8 hb; replace hb : Below _ _ _ := hb; (replace HM := HM.below hb; replace HN := HN.below hb; replace HB := HB.trans (hb.mono HB.size); clear hb)))
        (repeat (first | (with_reducible first | refine xA ?_ | refine xB ?_ | refine xC ?_ | refine xD ?_ | refine xH ?_ | refine xI rfl ?_ | refine xE ?_ | refine xF ?_ | refine xG ?_) | go_skip | go_guarded | ((with_reducible refine wl_id ?_); refine wl_storeL HN 1 _ _ rfl rfl _ _ rfl rfl rfl ?_; intro w9 HN1 hb; (simp only [List.set_cons_succ, List.set_cons_zero] at HN1); clear HN; have HN := HN1; clear HN1; replace HM := HM.under hb (by simp; omega); replace HB := HB.trans (hb.mono (by omega)); clear hb; simp only [Act.put, qz4, qz5, qz6]) | ((with_reducible refine wl_id ?_); refine wl_bitL HN 0 _ rfl k (by omega) _ rfl _ _ rfl rfl rfl ?_; intro w9 HN1 hb; (simp only [List.set_cons_succ, List.set_cons_zero] at HN1); clear HN; have HN := HN1; clear HN1; replace HM := HM.under hb (by simp; omega); replace HB := HB.trans (hb.mono (by omega)); clear hb; simp only [Act.put, qz4, qz5, qz6]) | go_values | go_skip | go_guarded | go_step | go_upon | go_back | ((with_reducible show Oper.upon _ _ _ _ _ _); go_simp) | (dsimp only)))
        (have h := dv_ge (A := x / 2 ^ (k + 1)) (b := x.testBit k) hy0 (by rw [← hR.out]; exact Hge.out); exact ⟨⟨k, _, _, by omega, Lib.hid (by rw [hQ.out, Hnum.out, h.1]; exact dv_set _ _), Lib.hid (by rw [Hnum.out, h.2, ← hR.out]; exact dv_sub hy.out Hge.out (by have h1 := hRy.out; have h2 := Bool.toNat_le (x.testBit k); omega)), rfl, HB, HM, HN⟩, by simp [intOf]⟩)
      | false =>
        have Hz := Lib.hid (Ho.out.2 ho)
        rw [ho] at hov
        clear ho
        rcases Nat.lt_or_ge ((2 * R + (x.testBit k).toNat) % 2 ^ W) y with hlt | hlt
        · have hd : decide ((2 * R + (x.testBit k).toNat) % 2 ^ W < y) = true := by simpa using hlt
          have Hlt := Lib.hid hlt
          clear hlt
          (repeat (first | (with_reducible first | refine xA ?_ | refine xB ?_ | refine xC ?_ | refine xD ?_ | refine xH ?_ | refine xI rfl ?_ | refine xE ?_ | refine xF ?_ | refine xG ?_) | go_values | go_skip | go_guarded | go_step | go_upon | go_back | ((with_reducible show Oper.upon _ _ _ _ _ _); go_simp) | (dsimp only)))
          (refine wp_region_tail 6 (by kernel_rfl) (by kernel_rfl) ?_; simp only [List.take_succ_cons, List.take_zero, List.drop_succ_cons, List.drop_zero]; (repeat (first | go_big_quiet_skip | (go_big_quiet_want; first | (refine quiet_loadL HM 1 _ rfl _ rfl rfl ?_; simp only [Act.put, qz4, qz5, qz6]; go_big_quiet_on) | (refine quiet_loadL HN 1 _ rfl _ rfl rfl ?_; simp only [Act.put, qz4, qz5, qz6]; go_big_quiet_on) | (refine quiet_bitL HM 0 _ rfl k (by omega) _ rfl rfl ?_; simp only [Act.put, qz4, qz5, qz6]; go_big_quiet_on) | (go_big_quiet_op; first | go_big_quiet_on | (refine Exists.intro _ (And.intro (fun _ _ => rfl) ?_); go_big_quiet_on) | go_big_quiet_call (((intro hC; replace hC : Below _ _ _ := hC); first | (go_at_call 128; (with_reducible refine (up_any _ _ _ _ hW0 hW).mono ?_); (rintro e w2 ⟨rfl, hb⟩; exact ⟨rfl, hC.trans (hb.mono hC.size)⟩)) | (go_at_call 98; (with_reducible refine (not_any _ _ _ hW).mono ?_); (rintro e w2 ⟨rfl, hb⟩; exact ⟨rfl, hC.trans (hb.mono hC.size)⟩)) | (go_at_call 99; (with_reducible refine (add_ref _ _ _ _ _ hW (by assumption) (by assumption)).mono ?_); (rintro e w2 ⟨rfl, hb⟩; exact ⟨rfl, hC.trans (hb.mono hC.size)⟩)))))))); (refine wpQuiet_nil ?_; intro w8 hb; replace hb : Below _ _ _ := hb; (replace HM := HM.below hb; replace HN := HN.below hb; replace HB := HB.trans (hb.mono HB.size); clear hb)))
          (repeat (first | (with_reducible first | refine xA ?_ | refine xB ?_ | refine xC ?_ | refine xD ?_ | refine xH ?_ | refine xI rfl ?_ | refine xE ?_ | refine xF ?_ | refine xG ?_) | ((with_reducible refine wl_id ?_); refine wl_storeL HN 1 _ _ rfl rfl _ _ rfl rfl rfl ?_; intro w9 HN1 hb; (simp only [List.set_cons_succ, List.set_cons_zero] at HN1); clear HN; have HN := HN1; clear HN1; replace HM := HM.under hb (by simp; omega); replace HB := HB.trans (hb.mono (by omega)); clear hb; simp only [Act.put, qz4, qz5, qz6]) | ((with_reducible refine wl_id ?_); refine wl_loadG HN 1 _ rfl rfl _ rfl rfl ?_; simp only [Act.put, qz4, qz5, qz6]) | ((with_reducible refine wl_id ?_); refine wl_loadG HM 1 _ rfl rfl _ rfl rfl ?_; simp only [Act.put, qz4, qz5, qz6]) | (go_at_call 104; (with_reducible refine (less_ref _ _ _ _ hW (by assumption) (by assumption)).mono ?_); rintro e w9 ⟨rfl, hb⟩; (replace HM := HM.below hb; replace HN := HN.below hb; replace HB := HB.trans (hb.mono HB.size); clear hb)) | go_values | go_skip | go_guarded | go_step | go_upon | go_back | ((with_reducible show Oper.upon _ _ _ _ _ _); go_simp) | (dsimp only)))
          have h := dv_lt (A := x / 2 ^ (k + 1)) (b := x.testBit k) hy0 (by rw [← hR.out, ← Hz.out]; exact Hlt.out)
          exact ⟨⟨k, _, _, by omega, Lib.hid (by rw [hQ.out, Hnum.out, h.1, Nat.pow_succ, Nat.mul_comm 2 (_ / _), Nat.mul_assoc, Nat.mul_comm 2]), Lib.hid (by rw [Hnum.out, h.2, ← hR.out, Hz.out]), rfl, HB, HM, HN⟩, by simp [intOf]⟩
        · have hd : decide ((2 * R + (x.testBit k).toNat) % 2 ^ W < y) = false := by simpa using hlt
          have Hge : Hid (y ≤ 2 * R + (x.testBit k).toNat) := Lib.hid (by rw [← Hz.out]; exact hlt)
          clear hlt
          (repeat (first | (with_reducible first | refine xA ?_ | refine xB ?_ | refine xC ?_ | refine xD ?_ | refine xH ?_ | refine xI rfl ?_ | refine xE ?_ | refine xF ?_ | refine xG ?_) | go_values | go_skip | go_guarded | go_step | go_upon | go_back | ((with_reducible show Oper.upon _ _ _ _ _ _); go_simp) | (dsimp only)))
          (refine wp_region_tail 6 (by kernel_rfl) (by kernel_rfl) ?_; simp only [List.take_succ_cons, List.take_zero, List.drop_succ_cons, List.drop_zero]; (repeat (first | go_big_quiet_skip | (go_big_quiet_want; first | (refine quiet_loadL HM 1 _ rfl _ rfl rfl ?_; simp only [Act.put, qz4, qz5, qz6]; go_big_quiet_on) | (refine quiet_loadL HN 1 _ rfl _ rfl rfl ?_; simp only [Act.put, qz4, qz5, qz6]; go_big_quiet_on) | (refine quiet_bitL HM 0 _ rfl k (by omega) _ rfl rfl ?_; simp only [Act.put, qz4, qz5, qz6]; go_big_quiet_on) | (go_big_quiet_op; first | go_big_quiet_on | (refine Exists.intro _ (And.intro (fun _ _ => rfl) ?_); go_big_quiet_on) | go_big_quiet_call (((intro hC; replace hC : Below _ _ _ := hC); first | (go_at_call 128; (with_reducible refine (up_any _ _ _ _ hW0 hW).mono ?_); (rintro e w2 ⟨rfl, hb⟩; exact ⟨rfl, hC.trans (hb.mono hC.size)⟩)) | (go_at_call 98; (with_reducible refine (not_any _ _ _ hW).mono ?_); (rintro e w2 ⟨rfl, hb⟩; exact ⟨rfl, hC.trans (hb.mono hC.size)⟩)) | (go_at_call 99; (with_reducible refine (add_ref _ _ _ _ _ hW (by assumption) (by assumption)).mono ?_); (rintro e w2 ⟨rfl, hb⟩; exact ⟨rfl, hC.trans (hb.mono hC.size)⟩)))))))); (refine wpQuiet_nil ?_; intro w8 hb; replace hb : Below _ _ _ := hb; (replace HM := HM.below hb; replace HN := HN.below hb; replace HB := HB.trans (hb.mono HB.size); clear hb)))
          (repeat (first | (with_reducible first | refine xA ?_ | refine xB ?_ | refine xC ?_ | refine xD ?_ | refine xH ?_ | refine xI rfl ?_ | refine xE ?_ | refine xF ?_ | refine xG ?_) | ((with_reducible refine wl_id ?_); refine wl_storeL HN 1 _ _ rfl rfl _ _ rfl rfl rfl ?_; intro w9 HN1 hb; (simp only [List.set_cons_succ, List.set_cons_zero] at HN1); clear HN; have HN := HN1; clear HN1; replace HM := HM.under hb (by simp; omega); replace HB := HB.trans (hb.mono (by omega)); clear hb; simp only [Act.put, qz4, qz5, qz6]) | ((with_reducible refine wl_id ?_); refine wl_loadG HN 1 _ rfl rfl _ rfl rfl ?_; simp only [Act.put, qz4, qz5, qz6]) | ((with_reducible refine wl_id ?_); refine wl_loadG HM 1 _ rfl rfl _ rfl rfl ?_; simp only [Act.put, qz4, qz5, qz6]) | (go_at_call 104; (with_reducible refine (less_ref _ _ _ _ hW (by assumption) (by assumption)).mono ?_); rintro e w9 ⟨rfl, hb⟩; (replace HM := HM.below hb; replace HN := HN.below hb; replace HB := HB.trans (hb.mono HB.size); clear hb)) | go_values | go_skip | go_guarded | go_step | go_upon | go_back | ((with_reducible show Oper.upon _ _ _ _ _ _); go_simp) | (dsimp only)))
          (refine wp_region_tail 6 (by kernel_rfl) (by kernel_rfl) ?_; simp only [List.take_succ_cons, List.take_zero, List.drop_succ_cons, List.drop_zero]; (repeat (first | go_big_quiet_skip | (go_big_quiet_want; first | (refine quiet_loadL HM 1 _ rfl _ rfl rfl ?_; simp only [Act.put, qz4, qz5, qz6]; go_big_quiet_on) | (refine quiet_loadL HN 1 _ rfl _ rfl rfl ?_; simp only [Act.put, qz4, qz5, qz6]; go_big_quiet_on) | (refine quiet_bitL HM 0 _ rfl k (by omega) _ rfl rfl ?_; simp only [Act.put, qz4, qz5, qz6]; go_big_quiet_on) | (go_big_quiet_op; first | go_big_quiet_on | (refine Exists.intro _ (And.intro (fun _ _ => rfl) ?_); go_big_quiet_on) | go_big_quiet_call (((intro hC; replace hC : Below _ _ _ := hC); first | (go_at_call 128; (with_reducible refine (up_any _ _ _ _ hW0 hW).mono ?_); (rintro e w2 ⟨rfl, hb⟩; exact ⟨rfl, hC.trans (hb.mono hC.size)⟩)) | (go_at_call 98; (with_reducible refine (not_any _ _ _ hW).mono ?_); (rintro e w2 ⟨rfl, hb⟩; exact ⟨rfl, hC.trans (hb.mono hC.size)⟩)) | (go_at_call 99; (with_reducible refine (add_ref _ _ _ _ _ hW (by assumption) (by assumption)).mono ?_); (rintro e w2 ⟨rfl, hb⟩; exact ⟨rfl, hC.trans (hb.mono hC.size)⟩)))))))); (refine wpQuiet_nil ?_; intro w8 hb; replace hb : Below _ _ _ := hb; (replace HM := HM.below hb; replace HN := HN.below hb; replace HB := HB.trans (hb.mono HB.size); clear hb)))
          (repeat (first | (with_reducible first | refine xA ?_ | refine xB ?_ | refine xC ?_ | refine xD ?_ | refine xH ?_ | refine xI rfl ?_ | refine xE ?_ | refine xF ?_ | refine xG ?_) | go_skip | go_guarded | ((with_reducible refine wl_id ?_); refine wl_storeL HN 1 _ _ rfl rfl _ _ rfl rfl rfl ?_; intro w9 HN1 hb; (simp only [List.set_cons_succ, List.set_cons_zero] at HN1); clear HN; have HN := HN1; clear HN1; replace HM := HM.under hb (by simp; omega); replace HB := HB.trans (hb.mono (by omega)); clear hb; simp only [Act.put, qz4, qz5, qz6]) | ((with_reducible refine wl_id ?_); refine wl_bitL HN 0 _ rfl k (by omega) _ rfl _ _ rfl rfl rfl ?_; intro w9 HN1 hb; (simp only [List.set_cons_succ, List.set_cons_zero] at HN1); clear HN; have HN := HN1; clear HN1; replace HM := HM.under hb (by simp; omega); replace HB := HB.trans (hb.mono (by omega)); clear hb; simp only [Act.put, qz4, qz5, qz6]) | go_values | go_skip | go_guarded | go_step | go_upon | go_back | ((with_reducible show Oper.upon _ _ _ _ _ _); go_simp) | (dsimp only)))
          (have h := dv_ge (A := x / 2 ^ (k + 1)) (b := x.testBit k) hy0 (by rw [← hR.out]; exact Hge.out); exact ⟨⟨k, _, _, by omega, Lib.hid (by rw [hQ.out, Hnum.out, h.1]; exact dv_set _ _), Lib.hid (by rw [Hnum.out, h.2, ← hR.out]; exact dv_sub hy.out Hge.out (by have h1 := hRy.out; have h2 := Bool.toNat_le (x.testBit k); omega)), rfl, HB, HM, HN⟩, by simp [intOf]⟩)
end Go.Proofs.YtmaogkgjiplckaaGreat
namespace Go.Proofs.YtmaogkgjiplckaaGreat
open Go.RowKit
theorem size4 : (Tryz.prog.info? 4).map (·.size) = some 1 := by kernel_rfl
theorem part4 (w : World) (n i : Nat) (h : i < 64) : (part 4 (bw n) (i * 1)).run Tryz.prog w = .ok (.bool (n.testBit i)) w := by
  have ha : (isAgg 4).run Tryz.prog w = .ok false w := by
    unfold isAgg
    rw [Sem.run_bind, run_underlying Tryz.underlying4 w]
    rfl
  unfold part
  rw [Sem.run_bind, ha]
  simp only [Result.andThen_ok, Bool.false_eq_true, if_false, Nat.mul_one, bw_get n i h, Sem.run_pure]
theorem sizeOf4 (w : World) : (sizeOf 4).run Tryz.prog w = .ok 1 w := by
  cases hq : Tryz.prog.info? 4 with
  | none => have := size4; simp [hq] at this
  | some i =>
    have hs : i.size = 1 := by have := size4; simpa [hq] using this
    simp [sizeOf, typeInfo, hq, hs]
theorem eqLoop (n m d : Nat) (w : World) : ∀ (k i : Nat), i + k ≤ 64 →
    ((forIn (List.range' i k) ((none : Option Bool), ()) fun i _ => do
            let a ← part 4 (bw n) (i * 1)
            let b ← part 4 (bw m) (i * 1)
            let c ← Op.equalIn (d + 1) 4 a b
            if (!c) = true then pure (ForInStep.done (some false, ())) else pure (ForInStep.yield (none, ())) : Sem (Option Bool × Unit))).run Tryz.prog w
      = .ok (if (List.range' i k).all (fun i => n.testBit i == m.testBit i) then (none, ()) else (some false, ())) w := by
  intro k
  induction k with
  | zero => intro i _; simp
  | succ k ih =>
    intro i h
    rw [List.range'_succ, List.forIn_cons]
    have h1 := part4 w n i (by omega)
    have h2 := part4 w m i (by omega)
    have h3 := run_equalIn_bool' w d 4 (n.testBit i) (m.testBit i) Tryz.underlying4
    simp only [Sem.run_bind, h1, h2, h3, Result.andThen_ok]
    by_cases e : n.testBit i = m.testBit i
    · simp only [e, beq_self_eq_true, Bool.not_true, Bool.false_eq_true, if_false, Sem.run_pure, Result.andThen_ok, List.all_cons, Bool.true_and]
      exact ih (i + 1) (by omega)
    · have e' : (n.testBit i == m.testBit i) = false := by simpa using e
      simp only [e', Bool.not_false, if_true, Sem.run_pure, Result.andThen_ok, List.all_cons, Bool.false_and, Bool.false_eq_true, if_false]
theorem eqIn29 (w : World) (n m d : Nat) : (Op.equalIn (d + 2) 134 (.agg (bw n)) (.agg (bw m))).run Tryz.prog w = .ok ((List.range' 0 64).all fun i => n.testBit i == m.testBit i) w := by
  rw [Op.equalIn]
  simp only [Sem.run_bind, run_underlying Tryz.underlying134, Result.andThen_ok, sizeOf4]
  rw [Std.Legacy.Range.forIn_eq_forIn_range']
  have h := eqLoop n m d w 64 0 (by omega)
  have e : (forIn (List.range' [:64].start [:64].size [:64].step) ((none : Option Bool), ()) fun i _ => do
            let a ← part 4 (bw n) (i * 1)
            let b ← part 4 (bw m) (i * 1)
            let c ← Op.equalIn (d + 1) 4 a b
            if (!c) = true then pure (ForInStep.done (some false, ())) else pure (ForInStep.yield (none, ())) : Sem (Option Bool × Unit)) = (forIn (List.range' 0 64) ((none : Option Bool), ()) fun i _ => do
            let a ← part 4 (bw n) (i * 1)
            let b ← part 4 (bw m) (i * 1)
            let c ← Op.equalIn (d + 1) 4 a b
            if (!c) = true then pure (ForInStep.done (some false, ())) else pure (ForInStep.yield (none, ()))) := rfl
  rw [e, h, Result.andThen_ok]
  clear e h
  cases hc : (List.range' 0 64).all fun i => n.testBit i == m.testBit i with
  | true => simp only [if_true, Sem.run_pure]
  | false => simp only [Bool.false_eq_true, if_false, Sem.run_pure]
theorem guard29 : Tryz.prog.eqGuardType Tryz.prog.depth 134 = false := by kernel_rfl
theorem eq29 (w : World) (n m : Nat) (hn : n < 18446744073709551616) (hm : m < 18446744073709551616) : (binOp .eql 134 (.agg (bw n)) (.agg (bw m))).run Tryz.prog w = .ok (.bool (decide (n = m))) w := by
  rw [run_eql_struct, eqIn29, Result.andThen_ok]
  congr 2
  rw [Bool.eq_iff_iff, List.all_eq_true, decide_eq_true_eq]
  constructor
  · intro h
    apply Nat.eq_of_testBit_eq
    intro j
    rcases Nat.lt_or_ge j 64 with hj | hj
    · have := h j (by rw [List.mem_range'_1]; omega)
      simpa using this
    · rw [Nat.testBit_lt_two_pow (Nat.lt_of_lt_of_le (show n < 2 ^ 64 from hn) (Nat.pow_le_pow_right (by omega) hj)), Nat.testBit_lt_two_pow (Nat.lt_of_lt_of_le (show m < 2 ^ 64 from hm) (Nat.pow_le_pow_right (by omega) hj))]
  · rintro rfl i _
    simp
section
variable {ops : Array Oper} {rest : List Oper} {o : Oper} {a : Act} {w : World} {Q : Exit → Act → World → Prop}
theorem wl_eq29 (hgd : o.guard = none) (x y : Operand) (s : TypeId) (ho : o.op = .binOp .eql 134 x y s) (n m : Nat) (hx : a.eval x = .agg (bw n)) (hy : a.eval y = .agg (bw m)) (hn : Hid (n < 18446744073709551616)) (hm : Hid (m < 18446744073709551616))
    (h : wpList Tryz.prog ops Q rest (a.put o.dst (.bool (decide (n = m)))) w) : wpList Tryz.prog ops Q (o :: rest) a w :=
  wpList_plain hgd fun _ hK => by
    unfold Oper.wp execOp
    simp only [ho, hx, hy, Sem.run_bind, run_eqGuard_agg w _ 134 _ _ _ _ guard29, eq29 w n m hn.out hm.out, Result.andThen_ok]
    exact hK _ _ h
end
end Go.Proofs.YtmaogkgjiplckaaGreat
namespace Go.Proofs.YtmaogkgjiplckaaGreat
open Go.RowKit
theorem cast_lt {x W : Nat} (h : x < 2 ^ W) : (x : Int) < 2 ^ W := by rw [pow_nat]; exact Int.ofNat_lt.2 h
theorem cast_mod {x W : Nat} (h : x < 2 ^ W) : (x : Int) % 2 ^ W = x := Int.emod_eq_of_lt (Int.natCast_nonneg x) (cast_lt h)
theorem sg_nat {W x : Nat} (hx : x < 2 ^ W) : sgI W x = if 2 ^ (W - 1) ≤ x then (x : Int) - 2 ^ W else x := by
  unfold sgI
  rw [cast_mod hx, pow_nat (W - 1)]
  by_cases h : 2 ^ (W - 1) ≤ x
  · rw [if_pos h, if_pos (Int.ofNat_le.2 h)]
  · rw [if_neg h, if_neg (fun h' => h (Int.ofNat_le.1 h'))]
theorem sg_top {W x : Nat} (hW : 1 ≤ W) (hx : x < 2 ^ W) : sgI W x / 2 ^ W = if x.testBit (W - 1) then -1 else 0 := by
  have hb := sg_bd hW x
  have hs := sg_nat hx
  obtain ⟨V, rfl⟩ : ∃ V, W = V + 1 := ⟨W - 1, by omega⟩
  rw [show V + 1 - 1 = V from by omega] at *
  have hle : (2 : Int) ^ V ≤ 2 ^ (V + 1) := by
    rw [Int.pow_succ]
    have hp : (0 : Int) < 2 ^ V := Int.pow_pos (by decide)
    omega
  rw [div_small hle (Int.pow_pos (by decide)) hb.1 hb.2, Nat.testBit_eq_decide_div_mod_eq, hs]
  have hpn := Nat.pow_pos (n := V) (show 0 < 2 by omega)
  rw [pow_nat]
  rw [Nat.pow_succ] at *
  rcases Nat.lt_or_ge x (2 ^ V) with h | h
  · rw [Nat.div_eq_of_lt h, if_neg (show ¬ 2 ^ V ≤ x by omega), if_neg (by omega)]; simp
  · have : x / 2 ^ V = 1 := by
      rw [show x = (x - 2 ^ V) + 2 ^ V by omega, Nat.add_div_right _ hpn, Nat.div_eq_of_lt (by omega)]
    rw [this, if_pos h, if_pos (by omega)]; simp
theorem of_anyX (W x X : Nat) (w : World) (hW : W ≤ 64) (hx : Hid (x < 18446744073709551616)) (hX : Hid (X = x % 2 ^ W)) :
    Calls Tryz.prog 95 #[.int .i64 W, .int .u64 x] w fun e w' => e = .returned (.agg (bw X)) ∧ Below w.heap.size w w' := by
  rw [hX.out]; exact of_any W x w hW hx
end Go.Proofs.YtmaogkgjiplckaaGreat
namespace Go.Proofs.YtmaogkgjiplckaaGreat
open Go.RowKit
theorem ediv_neg_pos {z P : Int} (h : 0 < P) : z / P < 0 ↔ z < 0 := by
  constructor
  · intro h1
    rcases Int.lt_or_le z 0 with h2 | h2
    · exact h2
    · have := Int.ediv_nonneg h2 (Int.le_of_lt h); omega
  · intro h1
    exact Int.ediv_lt_of_lt_mul h (by omega)
theorem top_bit {W X : Nat} (hW : 1 ≤ W) (hX : X < 2 ^ W) : X.testBit (W - 1) = decide (2 ^ (W - 1) ≤ X) := by
  obtain ⟨V, rfl⟩ : ∃ V, W = V + 1 := ⟨W - 1, by omega⟩
  rw [show V + 1 - 1 = V from by omega, Nat.testBit_eq_decide_div_mod_eq]
  rw [Nat.pow_succ] at *
  have hpn := Nat.pow_pos (n := V) (show 0 < 2 by omega)
  rcases Nat.lt_or_ge X (2 ^ V) with h | h
  · rw [Nat.div_eq_of_lt h]; simp; omega
  · have : X / 2 ^ V = 1 := by
      rw [show X = (X - 2 ^ V) + 2 ^ V by omega, Nat.add_div_right _ hpn, Nat.div_eq_of_lt (by omega)]
    rw [this]; simp; omega
section
variable {W X Y r : Nat}
theorem o_5 (hX : X < 2 ^ W) (hr : r = 2 ^ W - 1 - X % 2 ^ W) : (r : Int) = opI 5 W X Y := by
  rw [Nat.mod_eq_of_lt hX] at hr
  simp only [opI, if_true]
  rw [pow_nat]; omega
theorem o_8 (hr : r = (X + Y + false.toNat) % 2 ^ W) : (r : Int) = opI 8 W X Y := by
  simp only [opI, show ¬ ((8 : Int) = 5) by decide, if_false, if_true]
  rw [hr, pow_nat]; simp
theorem o_9 {n : Nat} (hY : Y < 2 ^ W) (hn : n = 2 ^ W - 1 - Y % 2 ^ W) (hr : r = (X + n + true.toNat) % 2 ^ W) : (r : Int) = opI 9 W X Y := by
  simp only [opI, show ¬ ((9 : Int) = 5) by decide, show ¬ ((9 : Int) = 8) by decide, if_false, if_true]
  rw [Nat.mod_eq_of_lt hY] at hn
  have e : (X : Int) - Y = ((X + n + true.toNat : Nat) : Int) - ((2 ^ W : Nat) : Int) := by simp only [Bool.toNat_true]; omega
  rw [pow_nat, e, Int.sub_emod_right, hr, Int.natCast_emod]
theorem o_10 (hr : r = X * Y % 2 ^ W) : (r : Int) = opI 10 W X Y := by
  simp only [opI, show ¬ ((10 : Int) = 5) by decide, show ¬ ((10 : Int) = 8) by decide, show ¬ ((10 : Int) = 9) by decide, if_false, if_true]
  rw [hr, pow_nat]; simp
theorem o_11 (hr : r = if Y = 0 then 2 ^ W - 1 else X / Y) : (r : Int) = opI 11 W X Y := by
  simp only [opI, show ¬ ((11 : Int) = 5) by decide, show ¬ ((11 : Int) = 8) by decide, show ¬ ((11 : Int) = 9) by decide, show ¬ ((11 : Int) = 10) by decide, if_false, if_true]
  have hp := Nat.pow_pos (n := W) (show 0 < 2 by omega)
  by_cases h : Y = 0
  · rw [if_pos h] at hr; rw [if_pos (by omega), pow_nat]; omega
  · rw [if_neg h] at hr; rw [if_neg (by omega), hr]; simp
theorem o_12 (hr : r = X % Y) : (r : Int) = opI 12 W X Y := by
  simp only [opI, show ¬ ((12 : Int) = 5) by decide, show ¬ ((12 : Int) = 8) by decide, show ¬ ((12 : Int) = 9) by decide, show ¬ ((12 : Int) = 10) by decide, show ¬ ((12 : Int) = 11) by decide, if_false, if_true]
  rw [hr]; simp
theorem o_13 (hr : r = X &&& Y) : (r : Int) = opI 13 W X Y := by
  rw [hr]; rfl
theorem o_14 (hr : r = X ||| Y) : (r : Int) = opI 14 W X Y := by
  rw [hr]; rfl
theorem o_15 (hr : r = X ^^^ Y) : (r : Int) = opI 15 W X Y := by
  rw [hr]; rfl
theorem shl_min : X * 2 ^ min Y W % 2 ^ W = X * 2 ^ Y % 2 ^ W := by
  rcases Nat.le_total Y W with h | h
  · rw [Nat.min_eq_left h]
  · rw [Nat.min_eq_right h]
    obtain ⟨j, rfl⟩ : ∃ j, Y = W + j := ⟨Y - W, by omega⟩
    rw [Nat.pow_add, Nat.mul_mod_left, ← Nat.mul_assoc, Nat.mul_right_comm, Nat.mul_mod_left]
theorem o_16 (hr : r = X * 2 ^ min Y W % 2 ^ W) : (r : Int) = opI 16 W X Y := by
  rw [hr, shl_min]
  show _ = (X : Int) * 2 ^ (Y : Int).toNat % 2 ^ W
  rw [pow_nat, pow_nat]; simp
theorem sar_0 (k : Nat) : sar false X W k = X / 2 ^ k := by
  induction k with
  | zero => simp [sar]
  | succ k ih => simp only [sar, ih, Bool.toNat_false, Nat.zero_mul, Nat.add_zero, Nat.pow_succ, Nat.div_div_eq_div_mul]
theorem shr_min (hX : X < 2 ^ W) : X / 2 ^ min Y W = X / 2 ^ Y := by
  rcases Nat.le_total Y W with h | h
  · rw [Nat.min_eq_left h]
  · rw [Nat.min_eq_right h, Nat.div_eq_of_lt hX, Nat.div_eq_of_lt (Nat.lt_of_lt_of_le hX (Nat.pow_le_pow_right (by omega) h))]
theorem o_17 (hX : X < 2 ^ W) (hr : r = sar false X W (min Y W)) : (r : Int) = opI 17 W X Y := by
  rw [hr, sar_0, shr_min hX]
  show _ = (X : Int) / 2 ^ (Y : Int).toNat
  rw [pow_nat]; simp
theorem sar_sg (hW : 1 ≤ W) (hX : X < 2 ^ W) (k : Nat) : ((sar (X.testBit (W - 1)) X W k : Nat) : Int) = sgI W X / 2 ^ k % 2 ^ W := by
  induction k with
  | zero =>
    simp only [sar, Int.pow_zero, Int.ediv_one]
    rw [sg_nat hX]
    split
    · rw [Int.sub_emod_right, cast_mod hX]
    · rw [cast_mod hX]
  | succ k ih =>
    simp only [sar]
    have hlt := sar_lt (X.testBit (W - 1)) hW hX k
    have htop : sgI W X / 2 ^ W = if X.testBit (W - 1) then -1 else 0 := sg_top hW hX
    have hbd := sg_bd hW X
    generalize sar (X.testBit (W - 1)) X W k = s at *
    rw [Int.pow_succ, ← Int.ediv_ediv_of_nonneg (Int.le_of_lt (Int.pow_pos (by decide)))]
    have hq : -(2 ^ (W - 1)) ≤ sgI W X / 2 ^ k ∧ sgI W X / 2 ^ k < 2 ^ (W - 1) ∧ (sgI W X / 2 ^ k < 0 ↔ sgI W X < 0) := by
      have hp : (1 : Int) ≤ 2 ^ k := Int.pow_pos (by decide)
      have hv : (0 : Int) < 2 ^ (W - 1) := Int.pow_pos (by decide)
      generalize sgI W X = z at *
      generalize (2 : Int) ^ (W - 1) = V at *
      generalize (2 : Int) ^ k = P at *
      refine ⟨?_, ?_, ?_⟩
      · apply Int.le_ediv_of_mul_le (by omega)
        have : V * 1 ≤ V * P := Int.mul_le_mul_of_nonneg_left hp (by omega)
        rw [Int.neg_mul]; omega
      · apply Int.ediv_lt_of_lt_mul (by omega)
        have : V * 1 ≤ V * P := Int.mul_le_mul_of_nonneg_left hp (by omega)
        omega
      · exact ediv_neg_pos (by omega)
    have hneg : sgI W X < 0 ↔ X.testBit (W - 1) = true := by
      have h2 : (0 : Int) < 2 ^ W := Int.pow_pos (by decide)
      rw [← ediv_neg_pos h2, htop]
      cases X.testBit (W - 1) <;> simp
    have hneg' := hq.2.2.trans hneg
    obtain ⟨V, rfl⟩ : ∃ V, W = V + 1 := ⟨W - 1, by omega⟩
    rw [show V + 1 - 1 = V from by omega] at *
    have hv : (0 : Int) < 2 ^ V := Int.pow_pos (by decide)
    have hvn := pow_nat V
    generalize sgI (V + 1) X / 2 ^ k = z at *
    rw [Int.pow_succ] at *
    cases hb : X.testBit V with
    | true =>
      rw [hb] at hneg'
      have hz : z < 0 := hneg'.2 rfl
      have e1 : (s : Int) = z + 2 ^ V * 2 := by
        rw [ih, ← Int.add_emod_right, Int.emod_eq_of_lt (by omega) (by omega)]
      have e2 : z / 2 % (2 ^ V * 2) = z / 2 + 2 ^ V * 2 := by
        rw [← Int.add_emod_right, Int.emod_eq_of_lt (by omega) (by omega)]
      rw [e2, Bool.toNat_true, Nat.one_mul]
      omega
    | false =>
      rw [hb] at hneg'
      have hz : 0 ≤ z := by
        rcases Int.lt_or_le z 0 with h | h
        · exact absurd (hneg'.1 h) (by simp)
        · exact h
      have e1 : (s : Int) = z := by rw [ih, Int.emod_eq_of_lt hz (by omega)]
      have e2 : z / 2 % (2 ^ V * 2) = z / 2 := Int.emod_eq_of_lt (by omega) (by omega)
      rw [e2, Bool.toNat_false, Nat.zero_mul, Nat.add_zero]
      omega
theorem sgr_min (hW : 1 ≤ W) (hX : X < 2 ^ W) : sgI W X / 2 ^ min Y W = sgI W X / 2 ^ Y := by
  rcases Nat.le_total Y W with h | h
  · rw [Nat.min_eq_left h]
  · rw [Nat.min_eq_right h]
    have hbd := sg_bd hW (X : Int)
    have a : (2 : Int) ^ (W - 1) ≤ 2 ^ W := by
      rw [pow_nat, pow_nat]; exact Int.ofNat_le.2 (Nat.pow_le_pow_right (by omega) (by omega))
    have b : (2 : Int) ^ (W - 1) ≤ 2 ^ Y := by
      rw [pow_nat, pow_nat]; exact Int.ofNat_le.2 (Nat.pow_le_pow_right (by omega) (by omega))
    have hv : (0 : Int) < 2 ^ (W - 1) := Int.pow_pos (by decide)
    rw [div_small a (by omega) hbd.1 hbd.2, div_small b (by omega) hbd.1 hbd.2]
theorem o_18 (hW : 1 ≤ W) (hX : X < 2 ^ W) (hr : r = sar (X.testBit (W - 1)) X W (min Y W)) : (r : Int) = opI 18 W X Y := by
  rw [hr, sar_sg hW hX, sgr_min hW hX]
  rfl
theorem o_19 (hr : r = (decide (X = Y)).toNat) : (r : Int) = opI 19 W X Y := by
  show _ = if (X : Int) = Y then (1 : Int) else 0
  rw [hr]
  by_cases h : X = Y
  · simp [h]
  · rw [if_neg (by omega)]; simp [h]
theorem o_20 (hr : r = (decide (X < Y)).toNat) : (r : Int) = opI 20 W X Y := by
  show _ = if (X : Int) < Y then (1 : Int) else 0
  rw [hr]
  by_cases h : X < Y <;> simp [h]
theorem o_21ne {b : Bool} (hW : 1 ≤ W) (hX : X < 2 ^ W) (hY : Y < 2 ^ W) (hx : X.testBit (W - 1) = b) (hy : Y.testBit (W - 1) = !b) (hr : r = b.toNat) : (r : Int) = opI 21 W X Y := by
  show _ = if sgI W X < sgI W Y then (1 : Int) else 0
  rw [hr, sg_nat hX, sg_nat hY]
  rw [top_bit hW hX] at hx
  rw [top_bit hW hY] at hy
  have h1 := pow_nat W
  cases b <;> simp at hx hy
  · rw [if_neg (show ¬ 2 ^ (W - 1) ≤ X by omega), if_pos hy, if_neg (show ¬ (X : Int) < Y - 2 ^ W by omega)]; rfl
  · rw [if_pos hx, if_neg (show ¬ 2 ^ (W - 1) ≤ Y by omega), if_pos (show (X : Int) - 2 ^ W < Y by omega)]; rfl
theorem o_21eq {b : Bool} (hW : 1 ≤ W) (hX : X < 2 ^ W) (hY : Y < 2 ^ W) (hx : X.testBit (W - 1) = b) (hy : Y.testBit (W - 1) = b) (hr : r = (decide (X < Y)).toNat) : (r : Int) = opI 21 W X Y := by
  show _ = if sgI W X < sgI W Y then (1 : Int) else 0
  rw [hr, sg_nat hX, sg_nat hY]
  rw [top_bit hW hX] at hx
  rw [top_bit hW hY] at hy
  have h1 := pow_nat W
  have e : ∀ c : Int, ((decide (X < Y)).toNat : Int) = if ((X : Int) - c < Y - c) then (1 : Int) else 0 := by
    intro c
    by_cases h : X < Y
    · rw [if_pos (by omega)]; simp [h]
    · rw [if_neg (by omega)]; simp [h]
  cases b <;> simp at hx hy
  · rw [if_neg (show ¬ 2 ^ (W - 1) ≤ X by omega), if_neg (show ¬ 2 ^ (W - 1) ≤ Y by omega)]; simpa using e 0
  · rw [if_pos hx, if_pos hy]; exact e _
end
def AP (op a x y : Int) : Int := opI op (wid a) (x % 2 ^ wid a) (y % 2 ^ wid a)
end Go.Proofs.YtmaogkgjiplckaaGreat
namespace Go.Proofs.YtmaogkgjiplckaaGreat
open Go.RowKit
def applyG (op : Int) (g : G) (n : Nat) (xs ys : List Int) : G × List Int :=
  if op = 8 then ((sumG g xs ys (-1)).1, (sumG g xs ys (-1)).2.1)
  else if op = 9 then ((sumG g xs (notL ys) 1).1, (sumG g xs (notL ys) 1).2.1)
  else if op = 10 then prodG g (constL n 0) xs 0 ys
  else if op = 11 then ((divG g xs.reverse (constL n 0) ys []).1, (divG g xs.reverse (constL n 0) ys []).2.1)
  else if op = 12 then ((divG g xs.reverse (constL n 0) ys []).1, (divG g xs.reverse (constL n 0) ys []).2.2)
  else if op = 13 then zipG both g xs ys
  else if op = 14 then zipG either g xs ys
  else if op = 15 then zipG odd g xs ys
  else if op = 16 then shiftG g xs ys 0 (-1) (-1)
  else if op = 17 then ((shiftG g xs.reverse ys 0 (-1) (-1)).1, (shiftG g xs.reverse ys 0 (-1) (-1)).2.reverse)
  else if op = 18 then ((shiftG g xs.reverse ys 0 (-1) (xs.getD (n - 1) 0)).1, (shiftG g xs.reverse ys 0 (-1) (xs.getD (n - 1) 0)).2.reverse)
  else if op = 19 then ((sameG g 1 xs ys).1, [(sameG g 1 xs ys).2])
  else if op = 20 then ((lessG g xs ys).1, [(lessG g xs ys).2])
  else ((lessG g (xs.set (n - 1) (-(xs.getD (n - 1) 0))) (ys.set (n - 1) (-(ys.getD (n - 1) 0)))).1, [(lessG g (xs.set (n - 1) (-(xs.getD (n - 1) 0))) (ys.set (n - 1) (-(ys.getD (n - 1) 0)))).2])
def VAns (g : G) (fr : List Int) (s : Nat → Bool) (m : Nat) (r : G × List Int) (v : Int) : Prop :=
  ∃ s', GI r.1 fr s' ∧ Step g s r.1 s' ∧ r.1.n ≤ g.n + 40000 ∧ (∀ x ∈ r.2, isL r.1.n x) ∧ r.2.length = m ∧ ((num s' r.2 : Nat) : Int) = v
theorem bv_snoc (l : List Bool) (b : Bool) : bv (l ++ [b]) = bv l + b.toNat * 2 ^ l.length := by
  induction l with
  | nil => cases b <;> simp [bv]
  | cons a l ih =>
    rw [List.cons_append, bv, ih, bv, List.length_cons, Nat.pow_succ]
    cases b
    · simp
    · simp only [Bool.toNat_true, Nat.one_mul]; omega
theorem bv_tail (b : Bool) (l : List Bool) : bv (l.drop 1) = bv l / 2 := by
  cases l with
  | nil => rfl
  | cons a l => simp only [List.drop_succ_cons, List.drop_zero, bv]; cases a <;> simp <;> omega
theorem bv_sar (l : List Bool) (b : Bool) : ∀ k, k ≤ l.length → bv (l.drop k ++ List.replicate k b) = sar b (bv l) l.length k := by
  intro k
  induction k with
  | zero => intro _; simp [sar]
  | succ k ih =>
    intro hk
    have h := ih (by omega)
    have e : l.drop (k + 1) ++ List.replicate (k + 1) b = (l.drop k ++ List.replicate k b).drop 1 ++ [b] := by
      rw [List.replicate_succ', ← List.append_assoc]
      congr 1
      rw [List.drop_append_of_le_length (by rw [List.length_drop]; omega), List.drop_drop]
    rw [e, bv_snoc, bv_tail b, h, sar]
    have e2 : (l.drop k ++ List.replicate k b).length = l.length := by rw [List.length_append, List.length_drop, List.length_replicate]; omega
    rw [List.length_drop, e2]
theorem num_zero {g : G} {fr : List Int} {s : Nat → Bool} (h : GI g fr s) (n : Nat) : num s (constL n 0) = 0 := by
  have e : (constL n 0).map (lit s) = List.replicate n false ++ [] := by
    rw [constL_lit h.one, List.append_nil]
    apply List.ext_getElem?
    intro i
    rw [List.getElem?_map, List.getElem?_replicate]
    by_cases hi : i < n <;> simp [hi]
  unfold num
  rw [e, bv_rep0]
  rfl
theorem bv_inj : ∀ (l m : List Bool), l.length = m.length → bv l = bv m → l = m := by
  intro l
  induction l with
  | nil => intro m h _; cases m with
    | nil => rfl
    | cons => simp at h
  | cons a l ih => intro m h e; cases m with
    | nil => simp at h
    | cons b m =>
      simp only [List.length_cons, Nat.add_right_cancel_iff] at h
      simp only [bv] at e
      have h1 : bv l = bv m := by cases a <;> cases b <;> simp at e <;> omega
      have h2 : a = b := by cases a <;> cases b <;> simp at e <;> first | rfl | omega
      rw [h2, ih m h h1]
theorem num_one (s : Nat → Bool) (z : Int) : num s [z] = (lit s z).toNat := by
  unfold num
  cases h : lit s z <;> simp [bv, h]
theorem top_lit {s : Nat → Bool} {xs : List Int} {n : Nat} (hn : xs.length = n) (h1 : 1 ≤ n) : (num s xs).testBit (n - 1) = lit s (xs.getD (n - 1) 0) := by
  unfold num
  rw [bv_test, List.getD_eq_getElem?_getD, List.getD_eq_getElem?_getD, List.getElem?_map, List.getElem?_eq_getElem (show n - 1 < xs.length by omega)]
  rfl
theorem num_flip {s : Nat → Bool} {xs : List Int} {n m : Nat} (hn : xs.length = n) (h1 : 1 ≤ n) (hx : ∀ a ∈ xs, isL m a) : num s (xs.set (n - 1) (-(xs.getD (n - 1) 0))) + (if lit s (xs.getD (n - 1) 0) then 2 ^ (n - 1) else 0) = num s xs + (if lit s (xs.getD (n - 1) 0) then 0 else 2 ^ (n - 1)) := by
  obtain ⟨k, rfl⟩ : ∃ k, n = k + 1 := ⟨n - 1, by omega⟩
  rw [Nat.add_sub_cancel]
  have hk : k < xs.length := by omega
  have e1 : xs.getD k 0 = xs[k] := by rw [List.getD_eq_getElem?_getD, List.getElem?_eq_getElem hk]; rfl
  have e2 : xs = xs.take k ++ [xs[k]] := by
    have := List.take_append_getElem hk
    rw [this, List.take_of_length_le (by omega)]
  have e3 : xs.set k (-xs[k]) = xs.take k ++ [-xs[k]] := by
    rw [List.set_eq_take_append_cons_drop, if_pos hk, List.drop_of_length_le (by omega)]
  have hne : xs[k] ≠ 0 := (hx _ (List.getElem_mem hk)).1
  have hl : (xs.take k).length = k := by rw [List.length_take]; omega
  have n1 : num s xs = bv ((xs.take k).map (lit s)) + (lit s xs[k]).toNat * 2 ^ k := by
    conv => lhs; rw [e2]
    unfold num
    rw [List.map_append, List.map_singleton, bv_snoc, List.length_map, hl]
  have n2 : num s (xs.set k (-xs[k])) = bv ((xs.take k).map (lit s)) + (!lit s xs[k]).toNat * 2 ^ k := by
    rw [e3]
    unfold num
    rw [List.map_append, List.map_singleton, bv_snoc, List.length_map, hl, lit_neg hne]
  rw [e1, n1, n2]
  cases lit s xs[k] <;> simp
theorem set_isL {m k : Nat} {xs : List Int} {z : Int} (hx : ∀ a ∈ xs, isL m a) (hz : isL m z) : ∀ a ∈ xs.set k z, isL m a := fun a ha => by
  rcases List.mem_or_eq_of_mem_set ha with h | rfl
  · exact hx a h
  · exact hz
theorem top_isL {m n : Nat} {xs : List Int} (hx : ∀ a ∈ xs, isL m a) (hn : xs.length = n) (h1 : 1 ≤ n) : isL m (xs.getD (n - 1) 0) := by
  rw [List.getD_eq_getElem?_getD, List.getElem?_eq_getElem (show n - 1 < xs.length by omega)]
  exact hx _ (List.getElem_mem _)
theorem Ans.one {g : G} {fr : List Int} {s : Nat → Bool} {k : Nat} {r : G × Int} {b : Bool} {v : Int} (h : Ans g fr s k r b) (hk : k ≤ 40000) (hv : ((b.toNat : Nat) : Int) = v) : VAns g fr s 1 (r.1, [r.2]) v := by
  obtain ⟨s', h1, h2, h3, h4, h5⟩ := h
  exact ⟨s', h1, h2, by show r.1.n ≤ _; omega, fun x hx => by rw [List.mem_singleton] at hx; subst hx; exact h4, rfl, by show ((num s' [r.2] : Nat) : Int) = v; rw [num_one, h5]; exact hv⟩
theorem NAns.val {g : G} {fr : List Int} {s : Nat → Bool} {k n : Nat} {r : G × List Int} {v : Nat} {u : Int} (h : NAns g fr s k n r v) (hk : k ≤ 40000) (hv : (v : Int) = u) : VAns g fr s n r u := by
  obtain ⟨s', h1, h2, h3, h4, h5, h6⟩ := h
  exact ⟨s', h1, h2, by omega, h4, h5, by rw [h6]; exact hv⟩
section
variable {g : G} {fr : List Int} {s : Nat → Bool} {n : Nat} {xs ys : List Int}
theorem app_8 (hI : GI g fr s) (hx : ∀ x ∈ xs, isL g.n x) (hy : ∀ y ∈ ys, isL g.n y) (hxn : xs.length = n) (hyn : ys.length = n) (hn : n ≤ 64) : VAns g fr s n ((sumG g xs ys (-1)).1, (sumG g xs ys (-1)).2.1) (opI 8 n (num s xs) (num s ys)) := by
  obtain ⟨s', a1, a2, a3, a4, _, a6, a7, _⟩ := sumN_ok hI (isL_one hI).neg hx hy (hxn.trans hyn.symm)
  exact ⟨s', a1, a2, by dsimp only; omega, a4, by dsimp only; rw [a6, hxn], o_8 (by dsimp only; rw [a7, lit_no hI, hxn])⟩
theorem app_9 (hI : GI g fr s) (hx : ∀ x ∈ xs, isL g.n x) (hy : ∀ y ∈ ys, isL g.n y) (hxn : xs.length = n) (hyn : ys.length = n) (hn : n ≤ 64) : VAns g fr s n ((sumG g xs (notL ys) 1).1, (sumG g xs (notL ys) 1).2.1) (opI 9 n (num s xs) (num s ys)) := by
  obtain ⟨s', a1, a2, a3, a4, _, a6, a7, _⟩ := sub_ok hI hx hy (hxn.trans hyn.symm)
  have hY := num_lt s ys
  rw [hyn] at hY
  refine ⟨s', a1, a2, by dsimp only; omega, a4, by dsimp only; rw [a6, hxn], o_9 hY rfl ?_⟩
  dsimp only
  rw [a7, hxn, Nat.mod_eq_of_lt hY]
  congr 1
  simp only [Bool.toNat_true]
  omega
theorem app_10 (hI : GI g fr s) (hx : ∀ x ∈ xs, isL g.n x) (hy : ∀ y ∈ ys, isL g.n y) (hxn : xs.length = n) (hyn : ys.length = n) (hn : n ≤ 64) : VAns g fr s n (prodG g (constL n 0) xs 0 ys) (opI 10 n (num s xs) (num s ys)) := by
  have h := prod_ok ys 0 g s (constL n 0) hI hx (constL_isL hI.pos) hy (by rw [constL_len, hxn])
  rw [num_zero hI, hxn, hyn] at h
  refine h.val (Nat.le_trans (Nat.mul_le_mul (Nat.mul_le_mul_left 6 hn) hn) (by decide)) (o_10 (by simp))
theorem div_size (hn : n ≤ 64) : 8 * (n + 1) * n ≤ 40000 := Nat.le_trans (Nat.mul_le_mul (Nat.mul_le_mul_left 8 (show n + 1 ≤ 65 by omega)) hn) (by decide)
theorem app_div (hI : GI g fr s) (hx : ∀ x ∈ xs, isL g.n x) (hy : ∀ y ∈ ys, isL g.n y) (hxn : xs.length = n) (hyn : ys.length = n) (hn : n ≤ 64) : VAns g fr s n ((divG g xs.reverse (constL n 0) ys []).1, (divG g xs.reverse (constL n 0) ys []).2.1) (opI 11 n (num s xs) (num s ys)) ∧ VAns g fr s n ((divG g xs.reverse (constL n 0) ys []).1, (divG g xs.reverse (constL n 0) ys []).2.2) (opI 12 n (num s xs) (num s ys)) := by
  obtain ⟨s', a1, a2, a3, a4, a5, a6, a7, a8⟩ := div_ok xs.reverse g s (constL n 0) [] hI (fun a ha => hx a (List.mem_reverse.1 ha)) (constL_isL hI.pos) hy (by simp) (by rw [constL_len, hyn])
  have hY := num_lt s ys
  rw [hyn] at hY a3 a7 a8
  rw [List.length_reverse, hxn] at a3 a6
  have h0 : num s [] = 0 := rfl
  rw [h0, num_zero hI, divN hxn hY] at a8
  have hsz := div_size hn
  have e1 := congrArg Prod.fst a8
  have e2 := congrArg Prod.snd a8
  dsimp only at e1 e2
  refine ⟨⟨s', a1, a2, by dsimp only; omega, a4, by dsimp only; rw [a6]; simp, o_11 ?_⟩, ⟨s', a1, a2, by dsimp only; omega, a5, a7, o_12 ?_⟩⟩
  · dsimp only
    rw [e1]
    split <;> rfl
  · dsimp only
    rw [e2]
    split
    · rename_i h; rw [h, Nat.mod_zero]
    · rfl
theorem shift_size (hn : n ≤ 64) : (3 * n + 1) * n + 3 * n ≤ 40000 := by
  have := Nat.mul_le_mul (show 3 * n + 1 ≤ 193 by omega) hn
  omega
theorem app_16 (hI : GI g fr s) (hx : ∀ x ∈ xs, isL g.n x) (hy : ∀ y ∈ ys, isL g.n y) (hxn : xs.length = n) (hyn : ys.length = n) (hn : n ≤ 64) : VAns g fr s n (shiftG g xs ys 0 (-1) (-1)) (opI 16 n (num s xs) (num s ys)) := by
  obtain ⟨s', a1, a2, a3, a4, a5, a6⟩ := shift_ok (fr := fr) (i := -1) hn ys 0 g s xs (-1) hI hxn hx hy (isL_one hI).neg (isL_one hI).neg
  have hsz := shift_size hn
  rw [hyn] at a3
  refine ⟨s', a1, a2, by omega, a4, a5, o_16 ?_⟩
  unfold num at *
  rw [a6, lit_no hI, bv_upB0, List.length_map, hxn, shl_min]
  simp [Nat.mul_comm]
theorem app_17 (hI : GI g fr s) (hx : ∀ x ∈ xs, isL g.n x) (hy : ∀ y ∈ ys, isL g.n y) (hxn : xs.length = n) (hyn : ys.length = n) (hn : n ≤ 64) : VAns g fr s n ((shiftG g xs.reverse ys 0 (-1) (-1)).1, (shiftG g xs.reverse ys 0 (-1) (-1)).2.reverse) (opI 17 n (num s xs) (num s ys)) := by
  obtain ⟨s', a1, a2, a3, a4, a5, a6⟩ := shift_ok (fr := fr) (i := -1) hn ys 0 g s xs.reverse (-1) hI (by rw [List.length_reverse, hxn]) (fun a ha => hx a (List.mem_reverse.1 ha)) hy (isL_one hI).neg (isL_one hI).neg
  have hsz := shift_size hn
  rw [hyn] at a3
  refine ⟨s', a1, a2, by dsimp only; omega, fun a ha => a4 a (List.mem_reverse.1 ha), by dsimp only; rw [List.length_reverse, a5], ?_⟩
  have e : num s' (shiftG g xs.reverse ys 0 (-1) (-1)).2.reverse = num s xs / 2 ^ num s ys := by
    unfold num at *
    rw [List.map_reverse, a6, lit_no hI, List.map_reverse, bv_down]
    simp
  dsimp only
  rw [e]
  show _ = ((num s xs : Nat) : Int) / 2 ^ ((num s ys : Nat) : Int).toNat
  rw [pow_nat]; simp
theorem app_18 (hI : GI g fr s) (hx : ∀ x ∈ xs, isL g.n x) (hy : ∀ y ∈ ys, isL g.n y) (hxn : xs.length = n) (hyn : ys.length = n) (hn1 : 1 ≤ n) (hn : n ≤ 64) : VAns g fr s n ((shiftG g xs.reverse ys 0 (-1) (xs.getD (n - 1) 0)).1, (shiftG g xs.reverse ys 0 (-1) (xs.getD (n - 1) 0)).2.reverse) (opI 18 n (num s xs) (num s ys)) := by
  obtain ⟨s', a1, a2, a3, a4, a5, a6⟩ := shift_ok (fr := fr) (i := xs.getD (n - 1) 0) hn ys 0 g s xs.reverse (-1) hI (by rw [List.length_reverse, hxn]) (fun a ha => hx a (List.mem_reverse.1 ha)) hy (isL_one hI).neg (top_isL hx hxn hn1)
  have hsz := shift_size hn
  rw [hyn] at a3
  have hX := num_lt s xs
  rw [hxn] at hX
  refine ⟨s', a1, a2, by dsimp only; omega, fun a ha => a4 a (List.mem_reverse.1 ha), by dsimp only; rw [List.length_reverse, a5], o_18 hn1 hX ?_⟩
  dsimp only
  have hlen : (xs.map (lit s)).length = n := by rw [List.length_map, hxn]
  rw [top_lit hxn hn1]
  have hs := bv_sar (xs.map (lit s)) (lit s (xs.getD (n - 1) 0)) (min (num s ys) n) (by omega)
  rw [hlen] at hs
  have e1 : num s' (shiftG g xs.reverse ys 0 (-1) (xs.getD (n - 1) 0)).2.reverse = bv ((xs.map (lit s)).drop (num s ys) ++ List.replicate (min (num s ys) n) (lit s (xs.getD (n - 1) 0))) := by
    show bv ((shiftG g xs.reverse ys 0 (-1) (xs.getD (n - 1) 0)).2.reverse.map (lit s')) = _
    rw [List.map_reverse, a6, lit_no hI, List.map_reverse, rev_upB, hlen]
    simp
  rw [e1]
  refine Eq.trans ?_ hs
  rcases Nat.le_total (num s ys) n with h | h
  · rw [Nat.min_eq_left h]
  · rw [Nat.min_eq_right h, List.drop_of_length_le (by rw [hlen]; exact h), List.drop_of_length_le (by rw [hlen]; exact Nat.le_refl _)]
theorem app_19 (hI : GI g fr s) (hx : ∀ x ∈ xs, isL g.n x) (hy : ∀ y ∈ ys, isL g.n y) (hxn : xs.length = n) (hyn : ys.length = n) (hn : n ≤ 64) : VAns g fr s 1 ((sameG g 1 xs ys).1, [(sameG g 1 xs ys).2]) (opI 19 n (num s xs) (num s ys)) := by
  refine (same_ok xs ys g s 1 hI (isL_one hI) hx hy (hxn.trans hyn.symm)).one (by omega) (o_19 ?_)
  have h1 : lit s 1 = true := by simp [lit, hI.one]
  rw [h1, Bool.true_and]
  have : (xs.map (lit s) = ys.map (lit s)) ↔ num s xs = num s ys := ⟨fun h => by unfold num; rw [h], fun h => bv_inj _ _ (by simp [hxn, hyn]) h⟩
  rw [decide_eq_decide.2 this]
theorem app_20 (hI : GI g fr s) (hx : ∀ x ∈ xs, isL g.n x) (hy : ∀ y ∈ ys, isL g.n y) (hxn : xs.length = n) (hyn : ys.length = n) (hn : n ≤ 64) : VAns g fr s 1 ((lessG g xs ys).1, [(lessG g xs ys).2]) (opI 20 n (num s xs) (num s ys)) :=
  (less_ok hI hx hy (hxn.trans hyn.symm)).one (by omega) (o_20 rfl)
theorem app_21 (hI : GI g fr s) (hx : ∀ x ∈ xs, isL g.n x) (hy : ∀ y ∈ ys, isL g.n y) (hxn : xs.length = n) (hyn : ys.length = n) (hn1 : 1 ≤ n) (hn : n ≤ 64) : VAns g fr s 1 ((lessG g (xs.set (n - 1) (-(xs.getD (n - 1) 0))) (ys.set (n - 1) (-(ys.getD (n - 1) 0)))).1, [(lessG g (xs.set (n - 1) (-(xs.getD (n - 1) 0))) (ys.set (n - 1) (-(ys.getD (n - 1) 0)))).2]) (opI 21 n (num s xs) (num s ys)) := by
  have hX := num_lt s xs
  have hY := num_lt s ys
  rw [hxn] at hX
  rw [hyn] at hY
  have fx := num_flip (s := s) hxn hn1 hx
  have fy := num_flip (s := s) hyn hn1 hy
  have tx := top_lit (s := s) hxn hn1
  have ty := top_lit (s := s) hyn hn1
  have hl : (xs.set (n - 1) (-(xs.getD (n - 1) 0))).length = n := by rw [List.length_set, hxn]
  have hlx := num_lt s (xs.set (n - 1) (-(xs.getD (n - 1) 0)))
  have hly := num_lt s (ys.set (n - 1) (-(ys.getD (n - 1) 0)))
  rw [List.length_set, hxn] at hlx
  rw [List.length_set, hyn] at hly
  have hp : 2 ^ n = 2 ^ (n - 1) + 2 ^ (n - 1) := by
    obtain ⟨k, rfl⟩ : ∃ k, n = k + 1 := ⟨n - 1, by omega⟩
    rw [Nat.add_sub_cancel, Nat.pow_succ]; omega
  have bx := top_bit hn1 hX
  have byy := top_bit hn1 hY
  refine (less_ok hI (set_isL hx (top_isL hx hxn hn1).neg) (set_isL hy (top_isL hy hyn hn1).neg) (by rw [List.length_set, List.length_set, hxn, hyn])).one (by rw [hl]; omega) ?_
  generalize num s (xs.set (n - 1) (-(xs.getD (n - 1) 0))) = A at *
  generalize num s (ys.set (n - 1) (-(ys.getD (n - 1) 0))) = C at *
  generalize num s xs = X at *
  generalize num s ys = Y at *
  generalize 2 ^ (n - 1) = P at *
  rw [tx] at bx
  rw [ty] at byy
  rcases hb : lit s (xs.getD (n - 1) 0) with _ | _ <;> rcases hc : lit s (ys.getD (n - 1) 0) with _ | _
  all_goals rw [hb] at tx bx fx
  all_goals rw [hc] at ty byy fy
  all_goals simp only [Bool.false_eq_true, if_false, if_true] at fx fy
  all_goals have bx' := bx.symm
  all_goals have by' := byy.symm
  all_goals simp only [decide_eq_true_eq, decide_eq_false_iff_not] at bx' by'
  · exact o_21eq hn1 hX hY tx ty (by rw [decide_eq_decide.2 (show A < C ↔ X < Y by omega)])
  · exact o_21ne hn1 hX hY tx ty (by rw [decide_eq_false (show ¬ A < C by omega)])
  · exact o_21ne hn1 hX hY tx ty (by rw [decide_eq_true (show A < C by omega)])
  · exact o_21eq hn1 hX hY tx ty (by rw [decide_eq_decide.2 (show A < C ↔ X < Y by omega)])
theorem applyG_ok {op : Int} (hI : GI g fr s) (hx : ∀ x ∈ xs, isL g.n x) (hy : ∀ y ∈ ys, isL g.n y) (hxn : xs.length = n) (hyn : ys.length = n) (hn1 : 1 ≤ n) (hn : n ≤ 64) (h8 : 8 ≤ op) (h21 : op ≤ 21) : VAns g fr s (if 19 ≤ op then 1 else n) (applyG op g n xs ys) (opI op n (num s xs) (num s ys)) := by
  have hc : op = 8 ∨ op = 9 ∨ op = 10 ∨ op = 11 ∨ op = 12 ∨ op = 13 ∨ op = 14 ∨ op = 15 ∨ op = 16 ∨ op = 17 ∨ op = 18 ∨ op = 19 ∨ op = 20 ∨ op = 21 := by omega
  rcases hc with rfl | rfl | rfl | rfl | rfl | rfl | rfl | rfl | rfl | rfl | rfl | rfl | rfl | rfl
  · exact app_8 hI hx hy hxn hyn hn
  · exact app_9 hI hx hy hxn hyn hn
  · exact app_10 hI hx hy hxn hyn hn
  · exact (app_div hI hx hy hxn hyn hn).1
  · exact (app_div hI hx hy hxn hyn hn).2
  · have h := andN_ok hI hx hy (hxn.trans hyn.symm)
    rw [hxn] at h
    exact h.val (by omega) (o_13 rfl)
  · have h := orN_ok hI hx hy (hxn.trans hyn.symm)
    rw [hxn] at h
    exact h.val (by omega) (o_14 rfl)
  · have h := xorN_ok hI hx hy (hxn.trans hyn.symm)
    rw [hxn] at h
    exact h.val (by omega) (o_15 rfl)
  · exact app_16 hI hx hy hxn hyn hn
  · exact app_17 hI hx hy hxn hyn hn
  · exact app_18 hI hx hy hxn hyn hn1 hn
  · exact app_19 hI hx hy hxn hyn hn
  · exact app_20 hI hx hy hxn hyn hn
  · exact app_21 hI hx hy hxn hyn hn1 hn
end
end Go.Proofs.YtmaogkgjiplckaaGreat

