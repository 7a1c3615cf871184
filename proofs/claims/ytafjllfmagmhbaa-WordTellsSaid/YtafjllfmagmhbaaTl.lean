import Derived.Test.YtafjllfmagmhbaaRa
set_option linter.unusedSimpArgs false
set_option linter.unusedVariables false
namespace Go.Proofs.Ytafjllfmagmhbaa
open Go.RowKit

theorem rmask_I (a : Int) (w : World) :
    Calls Try.prog 10 #[.int .i64 a] w fun e w' => e = .returned (.int .u64 (maskI a)) ∧ Below w.heap.size w w' := by
  have h := rmask_any a w
  have hp := Nat.pow_pos (n := wid a) (show 0 < 2 by omega)
  have e : ((2 ^ wid a - 1 : Nat) : Int) = maskI a := by
    unfold maskI; rw [pow_nat]; omega
  rwa [e] at h

set_option maxHeartbeats 1000000 in
theorem tells_walk (op a : Int) (x y : Nat) (w : World) (hx : Hid (x < 18446744073709551616)) (hy : Hid (y < 18446744073709551616)) :
    Calls Try.prog 3 #[.int .i64 op, .int .i64 a, .int .u64 x, .int .u64 y] w fun e w' => e = .returned (.bool true) ∧ Below w.heap.size w w' := by
  have hW0 := (wid_bd a).1
  have hW := (wid_bd a).2
  obtain ⟨X, hX⟩ : ∃ X, Hid (X = x % 2 ^ wid a) := ⟨_, Lib.hid rfl⟩
  have hXl : Hid (X < 18446744073709551616) := Lib.hid (by rw [hX.out]; exact Nat.lt_of_le_of_lt (Nat.mod_le _ _) hx.out)
  have n1 : (AP op a x y != AP op a x y) = false := by simp
  have n2 : (maskI a != maskI a) = false := by simp
  have n3 : ((x : Int) % 2 ^ wid a == (X : Int)) = true := by rw [hX.out, pow_nat]; simp
  have n4 : (sgI (wid a) x == sgI (wid a) x) = true := by simp
  have HB := Below.refl w.heap.size w
  go_enter Try.func3, Try.ntmps3
  (repeat (first | with_reducible refine xThenN ?_ | with_reducible refine xThenE ?_ | with_reducible refine xThenR ?_ | with_reducible refine xThenP ?_ | with_reducible refine xBlockEq ?_ | with_reducible refine xBlockNe rfl ?_ | with_reducible refine xBlockN ?_ | with_reducible refine xBlockR ?_ | with_reducible refine xBlockP ?_ | (go_at_call 9; (with_reducible refine (awake_any _).mono ?_); rintro e w1 ⟨rfl, hb⟩; (replace HB := HB.trans (hb.mono HB.size); clear hb)) | (go_at_call 10; (with_reducible refine (rmask_I _ _).mono ?_); rintro e w1 ⟨rfl, hb⟩; (replace HB := HB.trans (hb.mono HB.size); clear hb)) | (go_at_call 11; (with_reducible refine (apply_any _ _ _ _ _).mono ?_); rintro e w1 ⟨rfl, hb⟩; (replace HB := HB.trans (hb.mono HB.size); clear hb)) | (go_at_call 12; (with_reducible refine (rapply_any _ _ _ _ _ hx hy).mono ?_); rintro e w1 ⟨rfl, hb⟩; (replace HB := HB.trans (hb.mono HB.size); clear hb)) | (go_at_call 13; (with_reducible refine (mask_any _ _).mono ?_); rintro e w1 ⟨rfl, rfl⟩) | (go_at_call 14; (with_reducible refine (cut_any _ _ _).mono ?_); rintro e w1 ⟨rfl, rfl⟩) | (go_at_call 17; (with_reducible refine (rwidth_any _ _).mono ?_); rintro e w1 ⟨rfl, rfl⟩) | (go_at_call 16; (with_reducible refine (of_anyX _ _ X _ hW hx hX).mono ?_); rintro e w1 ⟨rfl, hb⟩; (replace HB := HB.trans (hb.mono HB.size); clear hb)) | (go_at_call 15; (with_reducible refine (num_any _ _ hXl).mono ?_); rintro e w1 ⟨rfl, hb⟩; (replace HB := HB.trans (hb.mono HB.size); clear hb)) | (go_at_call 18; (with_reducible refine (sign_any _ _ _).mono ?_); rintro e w1 ⟨rfl, rfl⟩) | (go_at_call 19; (with_reducible refine (rsign_any _ _ _ hx).mono ?_); rintro e w1 ⟨rfl, hb⟩; (replace HB := HB.trans (hb.mono HB.size); clear hb)) | go_values | go_skip | go_guarded | go_step | go_upon | go_back | (dsimp only)))
  go_ret
  exact ⟨rfl, HB⟩

end Go.Proofs.Ytafjllfmagmhbaa
