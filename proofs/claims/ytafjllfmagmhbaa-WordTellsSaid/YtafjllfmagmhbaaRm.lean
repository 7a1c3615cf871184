import Derived.Test.YtafjllfmagmhbaaSg
set_option linter.unusedSimpArgs false
set_option linter.unusedVariables false
namespace Go.Proofs.Ytafjllfmagmhbaa
open Go.RowKit

theorem ediv_neg_pos {z P : Int} (h : 0 < P) : z / P < 0 ↔ z < 0 := by
  constructor
  · intro h1
    rcases Int.lt_or_le z 0 with h2 | h2
    · exact h2
    · have := Int.ediv_nonneg h2 (Int.le_of_lt h); omega
  · intro h1
    exact Int.ediv_lt_of_lt_mul h (by omega)
theorem top_bit {W X : Nat} (hW : 1 ≤ W) (hX : X < 2 ^ W) : X.testBit (W - 1) = decide (2 ^ (W - 1) ≤ X) := by
  obtain ⟨V, rfl⟩ : ∃ V, W = V + 1 := ⟨W - 1, by omega⟩
  rw [show V + 1 - 1 = V from by omega, Nat.testBit_eq_decide_div_mod_eq]
  rw [Nat.pow_succ] at *
  have hpn := Nat.pow_pos (n := V) (show 0 < 2 by omega)
  rcases Nat.lt_or_ge X (2 ^ V) with h | h
  · rw [Nat.div_eq_of_lt h]; simp; omega
  · have : X / 2 ^ V = 1 := by
      rw [show X = (X - 2 ^ V) + 2 ^ V by omega, Nat.add_div_right _ hpn, Nat.div_eq_of_lt (by omega)]
    rw [this]; simp; omega

section
variable {W X Y r : Nat}
theorem o_5 (hX : X < 2 ^ W) (hr : r = 2 ^ W - 1 - X % 2 ^ W) : (r : Int) = opI 5 W X Y := by
  rw [Nat.mod_eq_of_lt hX] at hr
  simp only [opI, if_true]
  rw [pow_nat]; omega
theorem o_8 (hr : r = (X + Y + false.toNat) % 2 ^ W) : (r : Int) = opI 8 W X Y := by
  simp only [opI, show ¬ ((8 : Int) = 5) by decide, if_false, if_true]
  rw [hr, pow_nat]; simp
theorem o_9 {n : Nat} (hY : Y < 2 ^ W) (hn : n = 2 ^ W - 1 - Y % 2 ^ W) (hr : r = (X + n + true.toNat) % 2 ^ W) : (r : Int) = opI 9 W X Y := by
  simp only [opI, show ¬ ((9 : Int) = 5) by decide, show ¬ ((9 : Int) = 8) by decide, if_false, if_true]
  rw [Nat.mod_eq_of_lt hY] at hn
  have e : (X : Int) - Y = ((X + n + true.toNat : Nat) : Int) - ((2 ^ W : Nat) : Int) := by simp only [Bool.toNat_true]; omega
  rw [pow_nat, e, Int.sub_emod_right, hr, Int.natCast_emod]
theorem o_10 (hr : r = X * Y % 2 ^ W) : (r : Int) = opI 10 W X Y := by
  simp only [opI, show ¬ ((10 : Int) = 5) by decide, show ¬ ((10 : Int) = 8) by decide, show ¬ ((10 : Int) = 9) by decide, if_false, if_true]
  rw [hr, pow_nat]; simp
theorem o_11 (hr : r = if Y = 0 then 2 ^ W - 1 else X / Y) : (r : Int) = opI 11 W X Y := by
  simp only [opI, show ¬ ((11 : Int) = 5) by decide, show ¬ ((11 : Int) = 8) by decide, show ¬ ((11 : Int) = 9) by decide, show ¬ ((11 : Int) = 10) by decide, if_false, if_true]
  have hp := Nat.pow_pos (n := W) (show 0 < 2 by omega)
  by_cases h : Y = 0
  · rw [if_pos h] at hr; rw [if_pos (by omega), pow_nat]; omega
  · rw [if_neg h] at hr; rw [if_neg (by omega), hr]; simp
theorem o_12 (hr : r = X % Y) : (r : Int) = opI 12 W X Y := by
  simp only [opI, show ¬ ((12 : Int) = 5) by decide, show ¬ ((12 : Int) = 8) by decide, show ¬ ((12 : Int) = 9) by decide, show ¬ ((12 : Int) = 10) by decide, show ¬ ((12 : Int) = 11) by decide, if_false, if_true]
  rw [hr]; simp
theorem o_13 (hr : r = X &&& Y) : (r : Int) = opI 13 W X Y := by
  rw [hr]; rfl
theorem o_14 (hr : r = X ||| Y) : (r : Int) = opI 14 W X Y := by
  rw [hr]; rfl
theorem o_15 (hr : r = X ^^^ Y) : (r : Int) = opI 15 W X Y := by
  rw [hr]; rfl
theorem shl_min : X * 2 ^ min Y W % 2 ^ W = X * 2 ^ Y % 2 ^ W := by
  rcases Nat.le_total Y W with h | h
  · rw [Nat.min_eq_left h]
  · rw [Nat.min_eq_right h]
    obtain ⟨j, rfl⟩ : ∃ j, Y = W + j := ⟨Y - W, by omega⟩
    rw [Nat.pow_add, Nat.mul_mod_left, ← Nat.mul_assoc, Nat.mul_right_comm, Nat.mul_mod_left]
theorem o_16 (hr : r = X * 2 ^ min Y W % 2 ^ W) : (r : Int) = opI 16 W X Y := by
  rw [hr, shl_min]
  show _ = (X : Int) * 2 ^ (Y : Int).toNat % 2 ^ W
  rw [pow_nat, pow_nat]; simp
theorem sar_0 (k : Nat) : sar false X W k = X / 2 ^ k := by
  induction k with
  | zero => simp [sar]
  | succ k ih => simp only [sar, ih, Bool.toNat_false, Nat.zero_mul, Nat.add_zero, Nat.pow_succ, Nat.div_div_eq_div_mul]
theorem shr_min (hX : X < 2 ^ W) : X / 2 ^ min Y W = X / 2 ^ Y := by
  rcases Nat.le_total Y W with h | h
  · rw [Nat.min_eq_left h]
  · rw [Nat.min_eq_right h, Nat.div_eq_of_lt hX, Nat.div_eq_of_lt (Nat.lt_of_lt_of_le hX (Nat.pow_le_pow_right (by omega) h))]
theorem o_17 (hX : X < 2 ^ W) (hr : r = sar false X W (min Y W)) : (r : Int) = opI 17 W X Y := by
  rw [hr, sar_0, shr_min hX]
  show _ = (X : Int) / 2 ^ (Y : Int).toNat
  rw [pow_nat]; simp
/-- down with the sign coming in: X + 2^W·(2^k - 1)·s over 2^k -/
theorem sar_sg (hW : 1 ≤ W) (hX : X < 2 ^ W) (k : Nat) : ((sar (X.testBit (W - 1)) X W k : Nat) : Int) = sgI W X / 2 ^ k % 2 ^ W := by
  induction k with
  | zero =>
    simp only [sar, Int.pow_zero, Int.ediv_one]
    rw [sg_nat hX]
    split
    · rw [Int.sub_emod_right, cast_mod hX]
    · rw [cast_mod hX]
  | succ k ih =>
    simp only [sar]
    have hlt := sar_lt (X.testBit (W - 1)) hW hX k
    have htop : sgI W X / 2 ^ W = if X.testBit (W - 1) then -1 else 0 := sg_top hW hX
    have hbd := sg_bd hW X
    generalize sar (X.testBit (W - 1)) X W k = s at *
    rw [Int.pow_succ, ← Int.ediv_ediv_of_nonneg (Int.le_of_lt (Int.pow_pos (by decide)))]
    have hq : -(2 ^ (W - 1)) ≤ sgI W X / 2 ^ k ∧ sgI W X / 2 ^ k < 2 ^ (W - 1) ∧ (sgI W X / 2 ^ k < 0 ↔ sgI W X < 0) := by
      have hp : (1 : Int) ≤ 2 ^ k := Int.pow_pos (by decide)
      have hv : (0 : Int) < 2 ^ (W - 1) := Int.pow_pos (by decide)
      generalize sgI W X = z at *
      generalize (2 : Int) ^ (W - 1) = V at *
      generalize (2 : Int) ^ k = P at *
      refine ⟨?_, ?_, ?_⟩
      · apply Int.le_ediv_of_mul_le (by omega)
        have : V * 1 ≤ V * P := Int.mul_le_mul_of_nonneg_left hp (by omega)
        rw [Int.neg_mul]; omega
      · apply Int.ediv_lt_of_lt_mul (by omega)
        have : V * 1 ≤ V * P := Int.mul_le_mul_of_nonneg_left hp (by omega)
        omega
      · exact ediv_neg_pos (by omega)
    have hneg : sgI W X < 0 ↔ X.testBit (W - 1) = true := by
      have h2 : (0 : Int) < 2 ^ W := Int.pow_pos (by decide)
      rw [← ediv_neg_pos h2, htop]
      cases X.testBit (W - 1) <;> simp
    have hneg' := hq.2.2.trans hneg
    obtain ⟨V, rfl⟩ : ∃ V, W = V + 1 := ⟨W - 1, by omega⟩
    rw [show V + 1 - 1 = V from by omega] at *
    have hv : (0 : Int) < 2 ^ V := Int.pow_pos (by decide)
    have hvn := pow_nat V
    generalize sgI (V + 1) X / 2 ^ k = z at *
    rw [Int.pow_succ] at *
    cases hb : X.testBit V with
    | true =>
      rw [hb] at hneg'
      have hz : z < 0 := hneg'.2 rfl
      have e1 : (s : Int) = z + 2 ^ V * 2 := by
        rw [ih, ← Int.add_emod_right, Int.emod_eq_of_lt (by omega) (by omega)]
      have e2 : z / 2 % (2 ^ V * 2) = z / 2 + 2 ^ V * 2 := by
        rw [← Int.add_emod_right, Int.emod_eq_of_lt (by omega) (by omega)]
      rw [e2, Bool.toNat_true, Nat.one_mul]
      omega
    | false =>
      rw [hb] at hneg'
      have hz : 0 ≤ z := by
        rcases Int.lt_or_le z 0 with h | h
        · exact absurd (hneg'.1 h) (by simp)
        · exact h
      have e1 : (s : Int) = z := by rw [ih, Int.emod_eq_of_lt hz (by omega)]
      have e2 : z / 2 % (2 ^ V * 2) = z / 2 := Int.emod_eq_of_lt (by omega) (by omega)
      rw [e2, Bool.toNat_false, Nat.zero_mul, Nat.add_zero]
      omega
theorem sgr_min (hW : 1 ≤ W) (hX : X < 2 ^ W) : sgI W X / 2 ^ min Y W = sgI W X / 2 ^ Y := by
  rcases Nat.le_total Y W with h | h
  · rw [Nat.min_eq_left h]
  · rw [Nat.min_eq_right h]
    have hbd := sg_bd hW (X : Int)
    have a : (2 : Int) ^ (W - 1) ≤ 2 ^ W := by
      rw [pow_nat, pow_nat]; exact Int.ofNat_le.2 (Nat.pow_le_pow_right (by omega) (by omega))
    have b : (2 : Int) ^ (W - 1) ≤ 2 ^ Y := by
      rw [pow_nat, pow_nat]; exact Int.ofNat_le.2 (Nat.pow_le_pow_right (by omega) (by omega))
    have hv : (0 : Int) < 2 ^ (W - 1) := Int.pow_pos (by decide)
    rw [div_small a (by omega) hbd.1 hbd.2, div_small b (by omega) hbd.1 hbd.2]
theorem o_18 (hW : 1 ≤ W) (hX : X < 2 ^ W) (hr : r = sar (X.testBit (W - 1)) X W (min Y W)) : (r : Int) = opI 18 W X Y := by
  rw [hr, sar_sg hW hX, sgr_min hW hX]
  rfl
theorem o_19 (hr : r = (decide (X = Y)).toNat) : (r : Int) = opI 19 W X Y := by
  show _ = if (X : Int) = Y then (1 : Int) else 0
  rw [hr]
  by_cases h : X = Y
  · simp [h]
  · rw [if_neg (by omega)]; simp [h]
theorem o_20 (hr : r = (decide (X < Y)).toNat) : (r : Int) = opI 20 W X Y := by
  show _ = if (X : Int) < Y then (1 : Int) else 0
  rw [hr]
  by_cases h : X < Y <;> simp [h]
theorem o_21ne {b : Bool} (hW : 1 ≤ W) (hX : X < 2 ^ W) (hY : Y < 2 ^ W) (hx : X.testBit (W - 1) = b) (hy : Y.testBit (W - 1) = !b) (hr : r = b.toNat) : (r : Int) = opI 21 W X Y := by
  show _ = if sgI W X < sgI W Y then (1 : Int) else 0
  rw [hr, sg_nat hX, sg_nat hY]
  rw [top_bit hW hX] at hx
  rw [top_bit hW hY] at hy
  have h1 := pow_nat W
  cases b <;> simp at hx hy
  · rw [if_neg (show ¬ 2 ^ (W - 1) ≤ X by omega), if_pos hy, if_neg (show ¬ (X : Int) < Y - 2 ^ W by omega)]; rfl
  · rw [if_pos hx, if_neg (show ¬ 2 ^ (W - 1) ≤ Y by omega), if_pos (show (X : Int) - 2 ^ W < Y by omega)]; rfl
theorem o_21eq {b : Bool} (hW : 1 ≤ W) (hX : X < 2 ^ W) (hY : Y < 2 ^ W) (hx : X.testBit (W - 1) = b) (hy : Y.testBit (W - 1) = b) (hr : r = (decide (X < Y)).toNat) : (r : Int) = opI 21 W X Y := by
  show _ = if sgI W X < sgI W Y then (1 : Int) else 0
  rw [hr, sg_nat hX, sg_nat hY]
  rw [top_bit hW hX] at hx
  rw [top_bit hW hY] at hy
  have h1 := pow_nat W
  have e : ∀ c : Int, ((decide (X < Y)).toNat : Int) = if ((X : Int) - c < Y - c) then (1 : Int) else 0 := by
    intro c
    by_cases h : X < Y
    · rw [if_pos (by omega)]; simp [h]
    · rw [if_neg (by omega)]; simp [h]
  cases b <;> simp at hx hy
  · rw [if_neg (show ¬ 2 ^ (W - 1) ≤ X by omega), if_neg (show ¬ 2 ^ (W - 1) ≤ Y by omega)]; simpa using e 0
  · rw [if_pos hx, if_pos hy]; exact e _
end

end Go.Proofs.Ytafjllfmagmhbaa
