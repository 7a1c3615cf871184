import Derived.Test.YtmaogkgjiplckaaL
import Derived.Deep.QuietTactic
import Derived.BigQuiet
import Derived.Deep.WholeRow
set_option linter.unusedSimpArgs false
set_option linter.unusedVariables false
namespace Go.Proofs.Ytmaogkgjiplckaa
open Go.RowKit

def wid (w : Int) : Nat := if w < 1 then 1 else if 64 < w then 64 else w.toNat
theorem wid_bd (w : Int) : 1 ≤ wid w ∧ wid w ≤ 64 := by unfold wid; split <;> (try split) <;> omega
theorem wid_wid (w : Int) : wid ((wid w : Nat) : Int) = wid w := by
  have h := wid_bd w
  generalize wid w = W at *
  unfold wid; split <;> (try split) <;> omega

def maskI (a : Int) : Int := 2 ^ wid a - 1

theorem pow_le64 {W : Nat} (h : W ≤ 64) : (2 : Nat) ^ W ≤ 18446744073709551616 :=
  Nat.le_trans (Nat.pow_le_pow_right (by omega) h) (by decide)

theorem mask_div : ∀ W : Fin 65, (18446744073709551615 : Nat) / 2 ^ (64 - W.val) = 2 ^ W.val - 1 := by decide +kernel

theorem mask_m (a : Int) : (18446744073709551615 : Int) / 2 ^ (64 - wid a) = maskI a := by
  have hb := wid_bd a
  have h := mask_div ⟨wid a, by omega⟩
  have hp := Nat.pow_pos (n := wid a) (show 0 < 2 by omega)
  unfold maskI
  have h2 : ((18446744073709551615 / 2 ^ (64 - wid a) : Nat) : Int) = ((2 ^ wid a - 1 : Nat) : Int) := by rw [h]
  rw [Int.natCast_ediv, Int.natCast_pow] at h2
  rw [Int.ofNat_sub hp] at h2
  simpa using h2

/-- a number without its sign, mod 2^64 -/
theorem ofInt64 (x : Int) : (BitVec.ofInt 64 x).toNat = (x % 18446744073709551616).toNat := by
  rw [BitVec.toNat_ofInt]; rfl

theorem cut_m (a x : Int) : bits .and .u64 x (maskI a) = x % 2 ^ wid a := by
  have hb := wid_bd a
  have hp := pow_le64 hb.2
  have hp0 := Nat.pow_pos (n := wid a) (show 0 < 2 by omega)
  have hm : maskI a = ((2 ^ wid a - 1 : Nat) : Int) := by
    unfold maskI; rw [Int.ofNat_sub hp0]; simp
  show IntKind.u64.wrap ((BitVec.ofInt 64 x &&& BitVec.ofInt 64 (maskI a)).toNat : Int) = _
  have h2 : (BitVec.ofInt 64 (maskI a)).toNat = 2 ^ wid a - 1 := by
    rw [hm, BitVec.ofInt_natCast, BitVec.toNat_ofNat]; exact Nat.mod_eq_of_lt (by omega)
  rw [BitVec.toNat_and, h2, Nat.and_two_pow_sub_one_eq_mod, ofInt64, IntKind.wrap_u64]
  have hd : (18446744073709551616 : Int) % ((2 ^ wid a : Nat) : Int) = 0 := by
    have : (2 ^ wid a : Nat) ∣ 18446744073709551616 := Nat.pow_dvd_pow 2 hb.2
    exact Int.emod_eq_zero_of_dvd (Int.natCast_dvd_natCast.2 this)
  have hpc : ((2 : Int) ^ wid a) = ((2 ^ wid a : Nat) : Int) := by simp
  rw [hpc]
  generalize 2 ^ wid a = M at *
  rw [Int.natCast_emod, Int.toNat_of_nonneg (Int.emod_nonneg _ (by decide))]
  rw [Int.emod_emod_of_dvd _ (Int.dvd_of_emod_eq_zero hd)]
  have h1 := Int.emod_nonneg x (show (M : Int) ≠ 0 by omega)
  have h3 := Int.emod_lt_of_pos x (show (0 : Int) < M by omega)
  exact Int.emod_eq_of_lt h1 (by omega)

/-- the sign of a word -/
def sgI (W : Nat) (x : Int) : Int := if 2 ^ (W - 1) ≤ x % 2 ^ W then x % 2 ^ W - 2 ^ W else x % 2 ^ W

theorem sign_m (a x : Int) : wrap64 (IntKind.u64.wrap (x * 2 ^ (64 - wid a))) / 2 ^ (64 - wid a) = sgI (wid a) x := by
  have hb := wid_bd a
  generalize wid a = W at *
  obtain ⟨V, rfl⟩ : ∃ V, W = V + 1 := ⟨W - 1, by omega⟩
  rw [IntKind.wrap_u64]
  unfold sgI wrap64
  have e64 : (18446744073709551616 : Int) = 2 ^ (V + 1) * 2 ^ (64 - (V + 1)) := by rw [← Int.pow_add]; rw [show V + 1 + (64 - (V + 1)) = 64 from by omega]; rfl
  rw [show V + 1 - 1 = V from by omega]
  have hpc : ((2 : Int) ^ (V + 1)) = 2 * 2 ^ V := by rw [Int.pow_succ]; omega
  have hpV : (0 : Int) < 2 ^ V := Int.pow_pos (by decide)
  have hpK : (0 : Int) < 2 ^ (64 - (V + 1)) := Int.pow_pos (by decide)
  have hmul : x * 2 ^ (64 - (V + 1)) % 18446744073709551616 = (x % 2 ^ (V + 1)) * 2 ^ (64 - (V + 1)) := by
    rw [e64, Int.mul_comm x, Int.mul_comm (2 ^ (V + 1)), Int.mul_emod_mul_of_pos _ _ hpK, Int.mul_comm]
  rw [hmul]
  have hr0 := Int.emod_nonneg x (show (2 : Int) ^ (V + 1) ≠ 0 by omega)
  have hr1 := Int.emod_lt_of_pos x (show (0 : Int) < 2 ^ (V + 1) by omega)
  generalize x % 2 ^ (V + 1) = r at *
  rw [hpc] at hr1 e64 ⊢
  clear hmul hpc
  generalize (2 : Int) ^ V = H at *
  generalize (2 : Int) ^ (64 - (V + 1)) = K at *
  have hHK : H * K = 9223372036854775808 := by
    have : 2 * (H * K) = 18446744073709551616 := by rw [e64, Int.mul_assoc]
    omega
  have key : (r * K + 9223372036854775808) % 18446744073709551616 - 9223372036854775808 = (if H ≤ r then r - 2 * H else r) * K := by
    split
    · rename_i h
      have : H * K ≤ r * K := Int.mul_le_mul_of_nonneg_right h (by omega)
      have h2 : r * K < (2 * H) * K := Int.mul_lt_mul_of_pos_right hr1 hpK
      rw [Int.mul_assoc] at h2
      rw [Int.sub_mul, Int.mul_assoc]
      omega
    · rename_i h
      have : r * K < H * K := Int.mul_lt_mul_of_pos_right (by omega) hpK
      have h2 : 0 ≤ r * K := Int.mul_nonneg hr0 (by omega)
      omega
  rw [key, Int.mul_ediv_cancel _ (by omega)]


def quoI (a x y : Int) : Int := if y = 0 then maskI a else x / y

/-- what an operation answers of two words of width W -/
def opI (op : Int) (W : Nat) (x y : Int) : Int :=
  if op = 5 then 2 ^ W - 1 - x
  else if op = 8 then (x + y) % 2 ^ W
  else if op = 9 then (x - y) % 2 ^ W
  else if op = 10 then x * y % 2 ^ W
  else if op = 11 then (if y = 0 then 2 ^ W - 1 else x / y)
  else if op = 12 then x % y
  else if op = 13 then ((x.toNat &&& y.toNat : Nat) : Int)
  else if op = 14 then ((x.toNat ||| y.toNat : Nat) : Int)
  else if op = 15 then ((x.toNat ^^^ y.toNat : Nat) : Int)
  else if op = 16 then x * 2 ^ y.toNat % 2 ^ W
  else if op = 17 then x / 2 ^ y.toNat
  else if op = 18 then sgI W x / 2 ^ y.toNat % 2 ^ W
  else if op = 19 then (if x = y then 1 else 0)
  else if op = 20 then (if x < y then 1 else 0)
  else if op = 21 then (if sgI W x < sgI W y then 1 else 0)
  else 0

theorem pow_nat (W : Nat) : ((2 : Int) ^ W) = ((2 ^ W : Nat) : Int) := by simp

theorem pow_dvd64 {W : Nat} (h : W ≤ 64) : ((2 : Int) ^ W) ∣ 18446744073709551616 := by
  rw [pow_nat]
  have : (2 ^ W : Nat) ∣ 18446744073709551616 := Nat.pow_dvd_pow 2 h
  exact Int.natCast_dvd_natCast.2 this

theorem wrap_mod (e : Int) {W : Nat} (h : W ≤ 64) : IntKind.u64.wrap e % 2 ^ W = e % 2 ^ W := by
  rw [IntKind.wrap_u64, Int.emod_emod_of_dvd _ (pow_dvd64 h)]

theorem word_lt64 {W : Nat} (hW : 1 ≤ W ∧ W ≤ 64) {x : Int} (hxM : x < 2 ^ W) : x < 18446744073709551616 := by
  have := pow_le64 hW.2
  rw [pow_nat] at hxM
  omega

theorem m_5 {W : Nat} (hW : 1 ≤ W ∧ W ≤ 64) {x : Int} (hx : 0 ≤ x) (hxM : x < 2 ^ W) : bits .xor .u64 (if IntKind.u64.signed = true then -1 else IntKind.u64.max) x % 2 ^ W = 2 ^ W - 1 - x := by
  have h64 := word_lt64 hW hxM
  have e1 : (if IntKind.u64.signed = true then (-1 : Int) else IntKind.u64.max) = ((18446744073709551615 : Nat) : Int) := by decide
  obtain ⟨n, rfl⟩ := Int.eq_ofNat_of_zero_le hx
  rw [e1, bits_xor_u64_nat _ _ (by decide) (by omega)]
  have e2 : (18446744073709551615 : Nat) ^^^ n = 18446744073709551615 - n := by
    have h : (BitVec.allOnes 64 ^^^ BitVec.ofNat 64 n).toNat = 2 ^ 64 - 1 - n := by
      rw [BitVec.allOnes_xor, BitVec.toNat_not, BitVec.toNat_ofNat, Nat.mod_eq_of_lt (by omega)]
    rw [BitVec.toNat_xor, BitVec.toNat_allOnes, BitVec.toNat_ofNat, Nat.mod_eq_of_lt (by omega)] at h
    exact h
  rw [e2, pow_nat] at *
  have hd' : 2 ^ W ∣ 18446744073709551616 := Nat.pow_dvd_pow 2 hW.2
  have hp := Nat.pow_pos (n := W) (show 0 < 2 by omega)
  generalize 2 ^ W = M at *
  obtain ⟨q, hq⟩ := hd'
  have hn : n < M := by omega
  obtain ⟨p, rfl⟩ : ∃ p, q = p + 1 := ⟨q - 1, by
    rcases q with _ | q
    · omega
    · rfl⟩
  have : 18446744073709551615 - n = (M - 1 - n) + M * p := by
    rw [Nat.mul_add] at hq
    omega
  rw [this, ← Int.natCast_emod, Nat.add_mul_mod_self_left, Nat.mod_eq_of_lt (by omega)]
  omega

theorem m_11 {W : Nat} {x y : Int} (hx : 0 ≤ x) (hxM : x < 2 ^ W) (hy : 0 ≤ y) (a : Int) (ha : wid a = W) : quoI a x y % 2 ^ W = if y = 0 then 2 ^ W - 1 else x / y := by
  have hp : (0 : Int) < 2 ^ W := Int.pow_pos (by decide)
  unfold quoI maskI
  rw [ha]
  split
  · exact Int.emod_eq_of_lt (by omega) (by omega)
  · have h1 := Int.ediv_nonneg hx hy
    have h2 : x / y ≤ x := Int.ediv_le_self _ hx
    exact Int.emod_eq_of_lt h1 (by omega)

theorem m_12 {W : Nat} {x y : Int} (hx : 0 ≤ x) (hxM : x < 2 ^ W) (hy : 0 ≤ y) (hyM : y < 2 ^ W) : x % y % 2 ^ W = x % y := by
  by_cases h : y = 0
  · subst h; rw [Int.emod_zero]; exact Int.emod_eq_of_lt hx hxM
  · have h1 := Int.emod_nonneg x h
    have h2 := Int.emod_lt_of_pos x (show 0 < y by omega)
    exact Int.emod_eq_of_lt h1 (by omega)

theorem m_13 {W : Nat} (hW : 1 ≤ W ∧ W ≤ 64) {x y : Int} (hx : 0 ≤ x) (hxM : x < 2 ^ W) (hy : 0 ≤ y) (hyM : y < 2 ^ W) : bits .and .u64 x y % 2 ^ W = ((x.toNat &&& y.toNat : Nat) : Int) := by
  have h1 := word_lt64 hW hxM
  have h2 := word_lt64 hW hyM
  obtain ⟨n, rfl⟩ := Int.eq_ofNat_of_zero_le hx
  obtain ⟨m, rfl⟩ := Int.eq_ofNat_of_zero_le hy
  rw [bits_and_u64_nat _ _ (by omega) (by omega)]
  rw [pow_nat] at *
  simp only [Int.toNat_natCast]
  rw [← Int.natCast_emod, Nat.mod_eq_of_lt (Nat.and_lt_two_pow _ (by omega))]

theorem m_14 {W : Nat} (hW : 1 ≤ W ∧ W ≤ 64) {x y : Int} (hx : 0 ≤ x) (hxM : x < 2 ^ W) (hy : 0 ≤ y) (hyM : y < 2 ^ W) : bits .or .u64 x y % 2 ^ W = ((x.toNat ||| y.toNat : Nat) : Int) := by
  have h1 := word_lt64 hW hxM
  have h2 := word_lt64 hW hyM
  obtain ⟨n, rfl⟩ := Int.eq_ofNat_of_zero_le hx
  obtain ⟨m, rfl⟩ := Int.eq_ofNat_of_zero_le hy
  rw [bits_or_u64_nat _ _ (by omega) (by omega)]
  rw [pow_nat] at *
  simp only [Int.toNat_natCast]
  rw [← Int.natCast_emod, Nat.mod_eq_of_lt (Nat.or_lt_two_pow (by omega) (by omega))]

theorem m_15 {W : Nat} (hW : 1 ≤ W ∧ W ≤ 64) {x y : Int} (hx : 0 ≤ x) (hxM : x < 2 ^ W) (hy : 0 ≤ y) (hyM : y < 2 ^ W) : bits .xor .u64 x y % 2 ^ W = ((x.toNat ^^^ y.toNat : Nat) : Int) := by
  have h1 := word_lt64 hW hxM
  have h2 := word_lt64 hW hyM
  obtain ⟨n, rfl⟩ := Int.eq_ofNat_of_zero_le hx
  obtain ⟨m, rfl⟩ := Int.eq_ofNat_of_zero_le hy
  rw [bits_xor_u64_nat _ _ (by omega) (by omega)]
  rw [pow_nat] at *
  simp only [Int.toNat_natCast]
  rw [← Int.natCast_emod, Nat.mod_eq_of_lt (Nat.xor_lt_two_pow (by omega) (by omega))]

theorem m_16hi {W : Nat} {x y : Int} (hy : 0 ≤ y) (h : (W : Int) ≤ y) : (0 : Int) % 2 ^ W = x * 2 ^ y.toNat % 2 ^ W := by
  obtain ⟨m, rfl⟩ := Int.eq_ofNat_of_zero_le hy
  simp only [Int.toNat_natCast]
  obtain ⟨k, rfl⟩ : ∃ k, m = W + k := ⟨m - W, by omega⟩
  rw [Int.pow_add, ← Int.mul_assoc, Int.mul_comm x, Int.mul_assoc, Int.mul_emod_right, Int.zero_emod]

theorem m_17hi {W : Nat} {x y : Int} (hx : 0 ≤ x) (hxM : x < 2 ^ W) (hy : 0 ≤ y) (h : (W : Int) ≤ y) : (0 : Int) % 2 ^ W = x / 2 ^ y.toNat := by
  obtain ⟨m, rfl⟩ := Int.eq_ofNat_of_zero_le hy
  simp only [Int.toNat_natCast]
  have hle : (2 : Int) ^ W ≤ 2 ^ m := by
    rw [pow_nat, pow_nat]; exact_mod_cast Nat.pow_le_pow_right (by omega) (by omega : W ≤ m)
  rw [Int.zero_emod, Int.ediv_eq_zero_of_lt hx (by omega)]

theorem m_17lo {W : Nat} {x y : Int} (hx : 0 ≤ x) (hxM : x < 2 ^ W) : x / 2 ^ y.toNat % 2 ^ W = x / 2 ^ y.toNat := by
  have hp : (0 : Int) < 2 ^ y.toNat := Int.pow_pos (by decide)
  have h1 := Int.ediv_nonneg hx (Int.le_of_lt hp)
  have h2 : x / 2 ^ y.toNat ≤ x := Int.ediv_le_self _ hx
  exact Int.emod_eq_of_lt h1 (by omega)

theorem sg_bd {W : Nat} (hW : 1 ≤ W) (x : Int) : - 2 ^ (W - 1) ≤ sgI W x ∧ sgI W x < 2 ^ (W - 1) := by
  obtain ⟨V, rfl⟩ : ∃ V, W = V + 1 := ⟨W - 1, by omega⟩
  unfold sgI
  rw [show V + 1 - 1 = V from by omega]
  have hpc : ((2 : Int) ^ (V + 1)) = 2 * 2 ^ V := by rw [Int.pow_succ]; omega
  have hpV : (0 : Int) < 2 ^ V := Int.pow_pos (by decide)
  have h1 := Int.emod_nonneg x (show (2 : Int) ^ (V + 1) ≠ 0 by omega)
  have h2 := Int.emod_lt_of_pos x (show (0 : Int) < 2 ^ (V + 1) by omega)
  split <;> omega

theorem div_small {s H : Int} {P : Int} (h : H ≤ P) (h0 : 0 < P) (h1 : -H ≤ s) (h2 : s < H) : s / P = if s < 0 then -1 else 0 := by
  split
  · have := Int.ediv_lt_of_lt_mul h0 (show s < 0 * P by omega)
    have := Int.le_ediv_of_mul_le h0 (show -1 * P ≤ s by omega)
    omega
  · exact Int.ediv_eq_zero_of_lt (by omega) (by omega)

theorem m_18hi {W : Nat} (hW : 1 ≤ W ∧ W ≤ 64) (x y : Int) (h : (W : Int) ≤ y) :
    IntKind.u64.wrap (sgI W x / 9223372036854775808) % 2 ^ W = sgI W x / 2 ^ y.toNat % 2 ^ W := by
  rw [wrap_mod _ hW.2]
  have hb := sg_bd hW.1 x
  have h1 : (2 : Int) ^ (W - 1) ≤ 2 ^ 63 := by
    rw [pow_nat, pow_nat]; exact_mod_cast Nat.pow_le_pow_right (by omega) (by omega : W - 1 ≤ 63)
  have h2 : (2 : Int) ^ (W - 1) ≤ 2 ^ y.toNat := by
    rw [pow_nat, pow_nat]; exact_mod_cast Nat.pow_le_pow_right (by omega) (by omega : W - 1 ≤ y.toNat)
  rw [div_small (P := 9223372036854775808) h1 (by decide) hb.1 hb.2, div_small h2 (Int.pow_pos (by decide)) hb.1 hb.2]

theorem one_mod {W : Nat} (hW : 1 ≤ W) (p : Prop) [Decidable p] : (if p then (1 : Int) else 0) % 2 ^ W = if p then 1 else 0 := by
  have : (2 : Int) ≤ 2 ^ W := by
    have h := Nat.pow_le_pow_right (show 0 < 2 by omega) hW
    rw [pow_nat]; exact_mod_cast h
  split
  · exact Int.emod_eq_of_lt (by omega) (by omega)
  · rfl

theorem sgI_mod (W : Nat) (x : Int) : sgI W (x % 2 ^ W) = sgI W x := by unfold sgI; rw [Int.emod_emod]

theorem m_9 {W : Nat} (hW : 1 ≤ W ∧ W ≤ 64) (x y : Int) : IntKind.u64.wrap (x + IntKind.u64.wrap (-y)) % 2 ^ W = (x - y) % 2 ^ W := by
  rw [wrap_mod _ hW.2, Int.add_emod, wrap_mod _ hW.2, ← Int.add_emod]; rfl

theorem m_19 {W : Nat} (hW : 1 ≤ W) (x y : Int) : (if x = y then (1 : Int) else 0) % 2 ^ W = if x = y then 1 else 0 := one_mod hW _
theorem m_20 {W : Nat} (hW : 1 ≤ W) (x y : Int) : (if x < y then (1 : Int) else 0) % 2 ^ W = if x < y then 1 else 0 := one_mod hW _

theorem xor_top_lt {n V : Nat} (h : n < 2 ^ V) : n ^^^ 2 ^ V = n + 2 ^ V := by
  apply Nat.eq_of_testBit_eq
  intro j
  rw [Nat.testBit_xor, Nat.testBit_two_pow, Nat.add_comm n]
  rcases Nat.lt_trichotomy j V with hj | hj | hj
  · rw [Nat.testBit_two_pow_add_gt hj]
    simp [show ¬ V = j by omega]
  · subst hj
    rw [Nat.testBit_two_pow_add_eq]
    simp
  · have h1 : n.testBit j = false := Nat.testBit_lt_two_pow (Nat.lt_of_lt_of_le h (Nat.pow_le_pow_right (by omega) (by omega)))
    have h2 : (2 ^ V + n).testBit j = false := by
      apply Nat.testBit_lt_two_pow
      have : 2 ^ (V + 1) ≤ 2 ^ j := Nat.pow_le_pow_right (by omega) (by omega)
      rw [Nat.pow_succ] at this
      omega
    rw [h1, h2]
    simp [show ¬ V = j by omega]

theorem xor_top {n V : Nat} (h : n < 2 ^ (V + 1)) : n ^^^ 2 ^ V = if n < 2 ^ V then n + 2 ^ V else n - 2 ^ V := by
  rw [Nat.pow_succ] at h
  split
  · exact xor_top_lt ‹_›
  · obtain ⟨m, rfl⟩ : ∃ m, n = m + 2 ^ V := ⟨n - 2 ^ V, by omega⟩
    have hm : m < 2 ^ V := by omega
    rw [← xor_top_lt hm, Nat.xor_assoc, Nat.xor_self, Nat.xor_zero, xor_top_lt hm]
    omega

theorem bits_top {W : Nat} (hW : 1 ≤ W ∧ W ≤ 64) {x : Int} (hx : 0 ≤ x) (hxM : x < 2 ^ W) :
    bits .xor .u64 x (IntKind.u64.wrap (2 ^ (W - 1))) = sgI W x + 2 ^ (W - 1) := by
  have h64 := word_lt64 hW hxM
  obtain ⟨n, rfl⟩ := Int.eq_ofNat_of_zero_le hx
  obtain ⟨V, rfl⟩ : ∃ V, W = V + 1 := ⟨W - 1, by omega⟩
  rw [show V + 1 - 1 = V from by omega]
  have hle : 2 ^ V ≤ 9223372036854775808 := Nat.le_trans (Nat.pow_le_pow_right (by omega) (show V ≤ 63 by omega)) (by decide)
  have hw : IntKind.u64.wrap ((2 : Int) ^ V) = ((2 ^ V : Nat) : Int) := by
    rw [IntKind.wrap_u64, pow_nat]
    generalize 2 ^ V = T at *
    omega
  rw [hw, bits_xor_u64_nat _ _ (by omega) (by omega)]
  unfold sgI
  rw [show V + 1 - 1 = V from by omega]
  have hn : n < 2 ^ (V + 1) := by rw [pow_nat] at hxM; omega
  rw [Int.emod_eq_of_lt hx hxM, xor_top hn]
  rw [pow_nat, pow_nat]
  rw [Nat.pow_succ] at *
  split <;> split <;> omega

theorem m_21 {W : Nat} (hW : 1 ≤ W ∧ W ≤ 64) {x y : Int} (hx : 0 ≤ x) (hxM : x < 2 ^ W) (hy : 0 ≤ y) (hyM : y < 2 ^ W) :
    (if bits .xor .u64 x (IntKind.u64.wrap (2 ^ (W - 1))) < bits .xor .u64 y (IntKind.u64.wrap (2 ^ (W - 1))) then (1 : Int) else 0) % 2 ^ W = if sgI W x < sgI W y then 1 else 0 := by
  rw [one_mod hW.1, bits_top hW hx hxM, bits_top hW hy hyM]
  split <;> split <;> omega


end Go.Proofs.Ytmaogkgjiplckaa

set_option linter.unusedSimpArgs false
set_option linter.unusedVariables false
namespace Go.Proofs.Ytmaogkgjiplckaa
open Go.RowKit

/-! regions that draw their order: what was there stays -/
def Cls (W w' : World) : Prop := Below W.heap.size W w'

section
variable {P : Program} {ops : Array Oper} {C : World → Prop} {o : Oper} {a : Act} {K : Act → Prop} {W : World}

theorem wp_region_cls {id : Nat} {Q : Exit → Act → World → Prop} {l : List Oper} (hm : P.follows .mixedOrders = true) (hB : Region.lexB .any l.toArray = true)
    (h : wpQuiet P l.toArray (Cls W) (fun a' => ∀ w', Cls W w' → Q .normal a' w') l a) : (Code.region id l.toArray true).wp P Q a W :=
  wp_region_quiet (C := Cls W) hm hB ⟨rfl, rfl, rfl, Nat.le_refl _, fun _ _ => rfl⟩ (by simpa using h)

theorem quiet_at (v : Value) (h : ∀ w, C w → o.quietAt P a C w v) (hk : K (a.put o.dst v)) : o.quiet P a C K := ⟨v, h, hk⟩

/-- a load of one cell that stays -/
theorem quiet_load (ty : TypeId) (x : Operand) (ho : o.op = .load ty x) (p : Addr) (hx : a.eval x = .pointer (some p)) (v : Value)
    (hc : ∀ w, C w → w.cell? p = some v) (hl : ∀ w, w.cell? p = some v → (Instr.loadAt ty (.pointer (some p))).run P w = .ok v w) (hk : K (a.put o.dst v)) : o.quiet P a C K := by
  refine ⟨v, fun w hw => ?_, hk⟩
  unfold Oper.quietAt execOp
  simp only [ho, hx, Sem.run_bind, hl w (hc w hw), Result.andThen_ok]
  exact ⟨rfl, rfl⟩
end


theorem int_eq' {k : IntKind} {a b : Int} (h : a = b) : Value.int k a = .int k b := by rw [h]

end Go.Proofs.Ytmaogkgjiplckaa

set_option linter.unusedSimpArgs false
set_option linter.unusedVariables false
namespace Go.Proofs.Ytmaogkgjiplckaa
open Go.RowKit

/-- 64 bits, as the cells of an array of bools -/
def bw (n : Nat) : Array Value := Array.ofFn (n := 64) fun i => Value.bool (n.testBit i)
theorem bw_size (n : Nat) : (bw n).size = 64 := by simp [bw]
theorem bw_get (n i : Nat) (h : i < 64) : (bw n)[i]? = some (.bool (n.testBit i)) := by simp [bw, h]
theorem bw_one (n : Nat) : (bw n).all (·.oneCell') = true := by
  rw [Array.all_eq_true]; intro i h; simp [bw, Value.oneCell']

def setb (n i : Nat) (v : Bool) : Nat := if n.testBit i = v then n else n ^^^ 2 ^ i
theorem setb_test (n i j : Nat) (v : Bool) : (setb n i v).testBit j = if i = j then v else n.testBit j := by
  unfold setb
  split
  · split
    · subst_vars; rfl
    · rfl
  · rename_i h
    rw [Nat.testBit_xor, Nat.testBit_two_pow]
    by_cases e : i = j
    · subst e; simp; cases v <;> cases hh : n.testBit i <;> simp_all
    · simp [e]
theorem bw_set (n i : Nat) (v : Bool) : (bw n).setIfInBounds i (.bool v) = bw (setb n i v) := by
  apply Array.ext_getElem?
  intro j
  by_cases hj : j < 64
  · rw [bw_get _ _ hj, setb_test]
    by_cases e : i = j
    · subst e; simp [bw_size, hj]
    · rw [Array.getElem?_setIfInBounds_ne e, bw_get _ _ hj]; simp [e]
  · rw [Array.getElem?_eq_none (by simp [bw_size]; omega), Array.getElem?_eq_none (by simp [bw_size]; omega)]

theorem zero29 : (Try.prog.info? 80).map (fun i => (i.zero, i.size)) = some (some (.agg (bw 0)), 64) := by kernel_rfl

theorem heap_row (w : World) (b n : Nat) (h : w.heap[b]? = some (.cells (bw n) 80 (0, 0))) (i : Nat) (hi : i < 64) : w.cell? ⟨b, i, none⟩ = some (.bool (n.testBit i)) := by
  rw [cell_of_row _ _ _ _ _ _ h, bw_get _ _ hi]

theorem load29 (w : World) (b n : Nat) (h : w.heap[b]? = some (.cells (bw n) 80 (0, 0))) : (Instr.loadAt 80 (.pointer (some ⟨b, 0, none⟩))).run Try.prog w = .ok (.agg (bw n)) w := by
  simp only [Instr.loadAt, Instr.sureAddr, Sem.run_bind, Sem.run_pure, Result.andThen_ok]
  exact run_loadVar_row w b 80 80 (bw n) (0, 0) _ h Try.underlying80 rfl (by rw [bw_size]; exact (zero_of_info zero29).2)

theorem store29 (w : World) (b n m : Nat) (h : w.heap[b]? = some (.cells (bw n) 80 (0, 0))) : (Instr.storeAt 80 (.pointer (some ⟨b, 0, none⟩)) (.agg (bw m))).run Try.prog w = .ok () (w.setRow b (bw m)) := by
  simp only [Instr.storeAt, Instr.sureAddr, Sem.run_bind, Sem.run_pure, Result.andThen_ok]
  exact run_storeVar_row w b 80 80 (bw n) (bw m) h (by rw [bw_size]; exact (zero_of_info zero29).2) (by rw [bw_size, bw_size]) (bw_one m)

theorem res29 {fn : Func} {p : Tmp} (h : fn.results = #[.cell p 80]) (tmps : Array Value) (w : World) (b n : Nat) (hp : tmps.getD p undef = .pointer (some ⟨b, 0, none⟩))
    (hg : w.heap[b]? = some (.cells (bw n) 80 (0, 0))) : (results fn tmps).run Try.prog w = .ok (.agg (bw n)) w :=
  results_cell_row h tmps w b 80 (bw n) (0, 0) _ hp hg Try.underlying80 rfl (by rw [bw_size]; exact (zero_of_info zero29).2)

section
variable {ops : Array Oper} {rest : List Oper} {o : Oper} {a : Act} {w : World} {Q : Exit → Act → World → Prop}
theorem wl_load29 (hgd : o.guard = none) (x : Operand) (ho : o.op = .load 80 x)
    (h : ∃ b n, a.eval x = .pointer (some ⟨b, 0, none⟩) ∧ w.heap[b]? = some (.cells (bw n) 80 (0, 0)) ∧ wpList Try.prog ops Q rest (a.put o.dst (.agg (bw n))) w) : wpList Try.prog ops Q (o :: rest) a w :=
  wpList_plain hgd fun _ hK => by
    obtain ⟨b, n, hx, hb, h⟩ := h
    unfold Oper.wp execOp
    simp only [ho, hx, Sem.run_bind, load29 w b n hb, Result.andThen_ok]
    exact hK _ _ h
theorem wl_store29 (hgd : o.guard = none) (x y : Operand) (ho : o.op = .store 80 x y)
    (h : ∃ b n m, a.eval x = .pointer (some ⟨b, 0, none⟩) ∧ a.eval y = .agg (bw m) ∧ w.heap[b]? = some (.cells (bw n) 80 (0, 0)) ∧ wpList Try.prog ops Q rest (a.put o.dst undef) (w.setRow b (bw m))) : wpList Try.prog ops Q (o :: rest) a w :=
  wpList_plain hgd fun _ hK => by
    obtain ⟨b, n, m, hx, hy, hb, h⟩ := h
    unfold Oper.wp execOp
    simp only [ho, hx, hy, Sem.run_bind, store29 w b n m hb, Result.andThen_ok]
    exact hK _ _ h
end

theorem heap_al (w : World) (o : Obj) (i : Nat) : (w.alloc o).heap[i]? = if i = w.heap.size then some o else w.heap[i]? := by
  show (w.heap.push o)[i]? = _
  rw [Array.getElem?_push]

theorem heap_new (w : World) (o : Obj) (i : Nat) (h : i = w.heap.size) : (w.alloc o).heap[i]? = some o := by rw [heap_al, if_pos h]
theorem heap_old (w : World) (o : Obj) (i : Nat) (h : ¬ i = w.heap.size) : (w.alloc o).heap[i]? = w.heap[i]? := by rw [heap_al, if_neg h]

theorem row_same {w : World} {b n : Nat} (h : w.heap[b]? = some (.cells (bw n) 80 (0, 0))) (m : Nat) : (w.setRow b (bw m)).heap[b]? = some (.cells (bw m) 80 (0, 0)) := setRow_heap w b _ _ 80 _ h
theorem row_other {w : World} {b c n : Nat} (h : w.heap[c]? = some (.cells (bw n) 80 (0, 0))) (m : Nat) (hne : c ≠ b) : (w.setRow b (bw m)).heap[c]? = some (.cells (bw n) 80 (0, 0)) := (setRow_other w b c _ hne).trans h
theorem Below.setRow {B : Nat} {a w : World} (h : Below B a w) {b : Nat} (hb : B ≤ b) (c : Array Value) : Below B a (w.setRow b c) :=
  h.trans ⟨rfl, rfl, rfl, by simp, fun k hk => setRow_other w b k c (by omega)⟩

theorem setb_lt {m k : Nat} (h : m < 2 ^ k) (v : Bool) : setb m k v = m + (if v then 2 ^ k else 0) := by
  have ht : m.testBit k = false := Nat.testBit_lt_two_pow h
  unfold setb
  rw [ht]
  cases v
  · simp
  · simp [xor_top_lt h]

theorem mod_succ (n k : Nat) : n % 2 ^ (k + 1) = n % 2 ^ k + (if n.testBit k then 2 ^ k else 0) := by
  rw [Nat.mod_pow_succ, Nat.testBit_eq_decide_div_mod_eq]
  rcases Nat.mod_two_eq_zero_or_one (n / 2 ^ k) with h | h <;> simp [h]

theorem not_step (n k : Nat) : setb (2 ^ k - 1 - n % 2 ^ k) k (!n.testBit k) = 2 ^ (k + 1) - 1 - n % 2 ^ (k + 1) := by
  have hp := Nat.pow_pos (n := k) (show 0 < 2 by omega)
  have h1 := Nat.mod_lt n hp
  rw [setb_lt (by omega), mod_succ, Nat.pow_succ]
  cases h : n.testBit k <;> simp <;> omega

set_option maxRecDepth 100000 in
set_option maxHeartbeats 400000 in
theorem not_any (W n : Nat) (w : World) (hW : W ≤ 64) :
    Calls Try.prog 43 #[.int .i64 W, .agg (bw n)] w fun e w' => e = .returned (.agg (bw (2 ^ W - 1 - n % 2 ^ W))) ∧ Below w.heap.size w w' := by
  have hz := (zero_of_info zero29).1
  go_enter Try.func43, Try.ntmps43
  (repeat (first | (with_reducible first | refine xA ?_ | refine xB ?_ | refine xC ?_ | refine xD ?_ | refine xH ?_ | refine xI rfl ?_ | refine xE ?_ | refine xF ?_ | refine xG ?_) | go_values | go_skip | go_guarded | go_step | go_upon | go_back | ((with_reducible show Oper.upon _ _ _ _ _ _); go_simp) | (dsimp only)))
  go_loopw [6] (fun i wr => ∃ k : Nat, k ≤ W ∧ i = .int .i64 k ∧ wr = (((w.alloc (.cells (bw n) 80)).alloc (.cells (bw 0) 80)).alloc (.cells (bw (2 ^ k - 1 - n % 2 ^ k)) 80))) (fun i _ => W - (intOf i).toNat)
  case atStart => exact ⟨0, by omega, rfl, by simp⟩
  case round =>
    obtain ⟨k, hk, rfl, rfl⟩ := hrel
    by_cases hlt : k < W
    · have hr := bw_get n k (by omega)
      have hs := bw_set (2 ^ k - 1 - n % 2 ^ k) k
      have hr2 := bw_get (2 ^ k - 1 - n % 2 ^ k) k (by omega)
      have b0 : (0 : Int) ≤ k := by omega
      have b1 : (k : Int) < 64 := by omega
      (repeat (first | (with_reducible first | refine xA ?_ | refine xB ?_ | refine xC ?_ | refine xD ?_ | refine xH ?_ | refine xI rfl ?_ | refine xE ?_ | refine xF ?_ | refine xG ?_) | go_values | go_skip | go_guarded | go_step | go_upon | go_back | ((with_reducible show Oper.upon _ _ _ _ _ _); go_simp) | (dsimp only)))
      exact ⟨⟨k + 1, by omega, by go_num, by rw [not_step]⟩, by simp [intOf]; omega⟩
    · obtain rfl : k = W := by omega
      (repeat (first | (with_reducible first | refine xA ?_ | refine xB ?_ | refine xC ?_ | refine xD ?_ | refine xH ?_ | refine xI rfl ?_ | refine xE ?_ | refine xF ?_ | refine xG ?_) | go_skip | go_guarded | ((with_reducible refine wl_load29 rfl _ rfl ?_); apply Exists.intro; apply Exists.intro; refine ⟨rfl, ?_, ?_⟩; (· (repeat (first | (with_reducible assumption) | ((with_reducible refine heap_new _ _ _ ?_); (simp; done)) | ((with_reducible refine (heap_old _ _ _ ?_).trans ?_); (· (simp; done))) | (with_reducible refine row_same ?_ _) | ((with_reducible refine row_other ?_ _ ?_); rotate_left; (· (simp; done)))))); simp only [Act.put, List.setIfInBounds_toArray, List.set_cons_succ, List.set_cons_zero]) | ((with_reducible refine wl_store29 rfl _ _ rfl ?_); apply Exists.intro; apply Exists.intro; apply Exists.intro; refine ⟨rfl, rfl, ?_, ?_⟩; (· (repeat (first | (with_reducible assumption) | ((with_reducible refine heap_new _ _ _ ?_); (simp; done)) | ((with_reducible refine (heap_old _ _ _ ?_).trans ?_); (· (simp; done))) | (with_reducible refine row_same ?_ _) | ((with_reducible refine row_other ?_ _ ?_); rotate_left; (· (simp; done)))))); simp only [Act.put, List.setIfInBounds_toArray, List.set_cons_succ, List.set_cons_zero]) | go_values | go_skip | go_guarded | go_step | go_upon | go_back | ((with_reducible show Oper.upon _ _ _ _ _ _); go_simp) | (dsimp only)))
      refine bodyPost_ret (res29 rfl _ _ _ _ rfl (row_same (n := 0) (by (repeat (first | (with_reducible assumption) | ((with_reducible refine heap_new _ _ _ ?_); (simp; done)) | ((with_reducible refine (heap_old _ _ _ ?_).trans ?_); (· (simp; done))) | (with_reducible refine row_same ?_ _) | ((with_reducible refine row_other ?_ _ ?_); rotate_left; (· (simp; done)))))) _)) rfl ⟨rfl, ?_⟩
      refine Below.setRow ?_ (by omega) _
      (repeat (first | with_reducible exact Below.refl _ _ | assumption | with_reducible refine below_drewN ?_ _ | with_reducible refine Below.drew ?_ | with_reducible refine Below.setRow ?_ ?_ _ | with_reducible refine Below.alloc ?_ ?_ _ | with_reducible refine Below.setCell ?_ ?_ _ | with_reducible exact Nat.le_refl _ | (focus (simp; done)) | (focus (simp; omega)) | omega))


end Go.Proofs.Ytmaogkgjiplckaa

set_option linter.unusedSimpArgs false
set_option linter.unusedVariables false
namespace Go.Proofs.Ytmaogkgjiplckaa
open Go.RowKit

theorem bw_congr {a b : Nat} (h : ∀ j, j < 64 → a.testBit j = b.testBit j) : bw a = bw b := by
  apply Array.ext_getElem?
  intro j
  by_cases hj : j < 64
  · rw [bw_get _ _ hj, bw_get _ _ hj, h j hj]
  · rw [Array.getElem?_eq_none (by simp [bw_size]; omega), Array.getElem?_eq_none (by simp [bw_size]; omega)]

theorem ret_bw {a b : Nat} (h : ∀ j, j < 64 → a.testBit j = b.testBit j) : Ending.returned (.agg (bw a)) = .returned (.agg (bw b)) := by rw [bw_congr h]

set_option maxHeartbeats 400000 in
theorem rwidth_any (a : Int) (w : World) :
    Calls Try.prog 27 #[.int .i64 a] w fun e w' => e = .returned (.int .i64 (wid a : Nat)) ∧ w = w' := by
  rcases Int.lt_or_le a 1 with h | h
  · go_enter Try.func27, Try.ntmps27
    (repeat (first | (with_reducible first | refine xA ?_ | refine xB ?_ | refine xC ?_ | refine xD ?_ | refine xH ?_ | refine xI rfl ?_ | refine xE ?_ | refine xF ?_ | refine xG ?_) | go_values | go_skip | go_guarded | go_step | go_upon | go_back | ((with_reducible show Oper.upon _ _ _ _ _ _); go_simp) | (dsimp only)))
    go_ret
    exact ⟨ret_int (by unfold wid; rw [if_pos h]; rfl), rfl⟩
  rcases Int.lt_or_le 64 a with h2 | h2
  · go_enter Try.func27, Try.ntmps27
    (repeat (first | (with_reducible first | refine xA ?_ | refine xB ?_ | refine xC ?_ | refine xD ?_ | refine xH ?_ | refine xI rfl ?_ | refine xE ?_ | refine xF ?_ | refine xG ?_) | go_values | go_skip | go_guarded | go_step | go_upon | go_back | ((with_reducible show Oper.upon _ _ _ _ _ _); go_simp) | (dsimp only)))
    go_ret
    exact ⟨ret_int (by unfold wid; rw [if_neg (by omega), if_pos h2]; rfl), rfl⟩
  · go_enter Try.func27, Try.ntmps27
    (repeat (first | (with_reducible first | refine xA ?_ | refine xB ?_ | refine xC ?_ | refine xD ?_ | refine xH ?_ | refine xI rfl ?_ | refine xE ?_ | refine xF ?_ | refine xG ?_) | go_values | go_skip | go_guarded | go_step | go_upon | go_back | ((with_reducible show Oper.upon _ _ _ _ _ _); go_simp) | (dsimp only)))
    go_ret
    exact ⟨ret_int (by unfold wid; rw [if_neg (by omega), if_neg (by omega)]; omega), rfl⟩

theorem bit_of (q : Nat) : (((q : Nat) : Int) % 2 == 1) = q.testBit 0 := by
  rw [Nat.testBit_zero, Bool.eq_iff_iff]; simp; omega

theorem of_step {x k m W : Nat} (hk : k < W) (hm : m = x % 2 ^ (min k W)) : setb m k ((x / 2 ^ k).testBit 0) = x % 2 ^ (min (k + 1) W) := by
  rw [Nat.min_eq_left (by omega)] at hm ⊢
  have e : (x / 2 ^ k).testBit 0 = x.testBit k := by rw [Nat.testBit_div_two_pow, Nat.zero_add]
  rw [e, hm, setb_lt (Nat.mod_lt _ (Nat.pow_pos (by omega))), mod_succ]

theorem of_step2 {x k m W : Nat} (hk : ¬ k < W) (hm : m = x % 2 ^ (min k W)) : setb m k false = x % 2 ^ (min (k + 1) W) := by
  rw [Nat.min_eq_right (by omega)] at hm ⊢
  have e : m < 2 ^ k := by
    rw [hm]; exact Nat.lt_of_lt_of_le (Nat.mod_lt _ (Nat.pow_pos (by omega))) (Nat.pow_le_pow_right (by omega) (by omega))
  rw [setb_lt e, hm]; simp

theorem half_u64 (q : Nat) (h : q < 18446744073709551616) : IntKind.u64.wrap (((q : Nat) : Int) / 2) = ((q / 2 : Nat) : Int) := by
  rw [IntKind.wrap_u64]; omega

set_option maxRecDepth 100000 in
set_option maxHeartbeats 800000 in
theorem of_any (W x : Nat) (w : World) (hW : W ≤ 64) (hx : Hid (x < 18446744073709551616)) :
    Calls Try.prog 49 #[.int .i64 W, .int .u64 x] w fun e w' => e = .returned (.agg (bw (x % 2 ^ W))) ∧ Below w.heap.size w w' := by
  have hz := (zero_of_info zero29).1
  go_enter Try.func49, Try.ntmps49
  (repeat (first | (with_reducible first | refine xA ?_ | refine xB ?_ | refine xC ?_ | refine xD ?_ | refine xH ?_ | refine xI rfl ?_ | refine xE ?_ | refine xF ?_ | refine xG ?_) | go_values | go_skip | go_guarded | go_step | go_upon | go_back | ((with_reducible show Oper.upon _ _ _ _ _ _); go_simp) | (dsimp only)))
  go_loopw [1, 6] (fun v i wr => ∃ k q m : Nat, k ≤ 64 ∧ Hid (q = x / 2 ^ k) ∧ Hid (m = x % 2 ^ (min k W)) ∧ v = .int .u64 q ∧ i = .int .i64 k ∧ wr = ((w.alloc (.cells (bw 0) 80)).alloc (.cells (bw m) 80))) (fun _ i _ => 64 - (intOf i).toNat)
  case atStart => exact ⟨0, x, 0, by omega, Lib.hid (by simp), Lib.hid (by simp [Nat.mod_one]), rfl, rfl, rfl⟩
  case round =>
    obtain ⟨k, q, m, hk, hq, hm, rfl, rfl, rfl⟩ := hrel
    have hq64 : Hid (q < 18446744073709551616) := Lib.hid (by rw [hq.out]; exact Nat.lt_of_le_of_lt (Nat.div_le_self _ _) hx.out)
    by_cases hlt : k < 64
    · have hs := bw_set m k
      have hr2 := bw_get m k hlt
      have b0 : (0 : Int) ≤ k := by omega
      have b1 : (k : Int) < 64 := by omega
      have Hhalf := Lib.hid (half_u64 q hq64.out)
      by_cases hkW : k < W
      · have hd : decide ((k : Int) < W) = true := by simp; omega
        (repeat (first | (with_reducible first | refine xA ?_ | refine xB ?_ | refine xC ?_ | refine xD ?_ | refine xH ?_ | refine xI rfl ?_ | refine xE ?_ | refine xF ?_ | refine xG ?_) | go_values | go_skip | go_guarded | go_step | go_upon | go_back | ((with_reducible show Oper.upon _ _ _ _ _ _); go_simp) | (dsimp only)))
        exact ⟨⟨k + 1, q / 2, _, by omega, Lib.hid (by rw [hq.out, Nat.div_div_eq_div_mul, Nat.pow_succ]), Lib.hid (by have h := of_step hkW hm.out; rw [← hq.out] at h; rw [bit_of]; exact h), int_eq' Hhalf.out, by go_num, rfl⟩, by simp [intOf]; omega⟩
      · have hd : decide ((k : Int) < W) = false := by simp; omega
        (repeat (first | (with_reducible first | refine xA ?_ | refine xB ?_ | refine xC ?_ | refine xD ?_ | refine xH ?_ | refine xI rfl ?_ | refine xE ?_ | refine xF ?_ | refine xG ?_) | go_values | go_skip | go_guarded | go_step | go_upon | go_back | ((with_reducible show Oper.upon _ _ _ _ _ _); go_simp) | (dsimp only)))
        exact ⟨⟨k + 1, q / 2, _, by omega, Lib.hid (by rw [hq.out, Nat.div_div_eq_div_mul, Nat.pow_succ]), Lib.hid (of_step2 hkW hm.out), int_eq' Hhalf.out, by go_num, rfl⟩, by simp [intOf]; omega⟩
    · obtain rfl : k = 64 := by omega
      (repeat (first | (with_reducible first | refine xA ?_ | refine xB ?_ | refine xC ?_ | refine xD ?_ | refine xH ?_ | refine xI rfl ?_ | refine xE ?_ | refine xF ?_ | refine xG ?_) | go_skip | go_guarded | ((with_reducible refine wl_load29 rfl _ rfl ?_); apply Exists.intro; apply Exists.intro; refine ⟨rfl, ?_, ?_⟩; (· (repeat (first | (with_reducible assumption) | ((with_reducible refine heap_new _ _ _ ?_); (simp; done)) | ((with_reducible refine (heap_old _ _ _ ?_).trans ?_); (· (simp; done))) | (with_reducible refine row_same ?_ _) | ((with_reducible refine row_other ?_ _ ?_); rotate_left; (· (simp; done)))))); simp only [Act.put, List.setIfInBounds_toArray, List.set_cons_succ, List.set_cons_zero]) | ((with_reducible refine wl_store29 rfl _ _ rfl ?_); apply Exists.intro; apply Exists.intro; apply Exists.intro; refine ⟨rfl, rfl, ?_, ?_⟩; (· (repeat (first | (with_reducible assumption) | ((with_reducible refine heap_new _ _ _ ?_); (simp; done)) | ((with_reducible refine (heap_old _ _ _ ?_).trans ?_); (· (simp; done))) | (with_reducible refine row_same ?_ _) | ((with_reducible refine row_other ?_ _ ?_); rotate_left; (· (simp; done)))))); simp only [Act.put, List.setIfInBounds_toArray, List.set_cons_succ, List.set_cons_zero]) | go_values | go_skip | go_guarded | go_step | go_upon | go_back | ((with_reducible show Oper.upon _ _ _ _ _ _); go_simp) | (dsimp only)))
      refine bodyPost_ret (res29 rfl _ _ _ _ rfl (row_same (n := 0) (by (repeat (first | (with_reducible assumption) | ((with_reducible refine heap_new _ _ _ ?_); (simp; done)) | ((with_reducible refine (heap_old _ _ _ ?_).trans ?_); (· (simp; done))) | (with_reducible refine row_same ?_ _) | ((with_reducible refine row_other ?_ _ ?_); rotate_left; (· (simp; done)))))) _)) rfl ⟨?_, ?_⟩
      · rw [hm.out, Nat.min_eq_right hW]
      · refine Below.setRow ?_ (by omega) _
        (repeat (first | with_reducible exact Below.refl _ _ | assumption | with_reducible refine below_drewN ?_ _ | with_reducible refine Below.drew ?_ | with_reducible refine Below.setRow ?_ ?_ _ | with_reducible refine Below.alloc ?_ ?_ _ | with_reducible refine Below.setCell ?_ ?_ _ | with_reducible exact Nat.le_refl _ | (focus (simp; done)) | (focus (simp; omega)) | omega))

theorem num_step {n k q : Nat} (hq : q = n / 2 ^ (k + 1)) : n / 2 ^ k = 2 * q + (if n.testBit k then 1 else 0) := by
  rw [hq, Nat.pow_succ, ← Nat.div_div_eq_div_mul, Nat.testBit_eq_decide_div_mod_eq]
  rcases Nat.mod_two_eq_zero_or_one (n / 2 ^ k) with h | h <;> simp [h] <;> omega

theorem num_w1 {n k q : Nat} (hn : n < 18446744073709551616) (hq : q = n / 2 ^ (k + 1)) : IntKind.u64.wrap (((q : Nat) : Int) * 2) = ((2 * q : Nat) : Int) ∧ (n.testBit k = true → IntKind.u64.wrap (((2 * q : Nat) : Int) + 1) = ((2 * q + 1 : Nat) : Int)) := by
  have h1 := num_step hq
  have h2 : n / 2 ^ k ≤ n := Nat.div_le_self _ _
  refine ⟨?_, fun h => ?_⟩
  · rw [IntKind.wrap_u64]; split at h1 <;> omega
  · rw [if_pos h] at h1
    rw [IntKind.wrap_u64]; omega

set_option maxRecDepth 100000 in
set_option maxHeartbeats 800000 in
theorem num_any (n : Nat) (w : World) (hn : Hid (n < 18446744073709551616)) :
    Calls Try.prog 42 #[.agg (bw n)] w fun e w' => e = .returned (.int .u64 n) ∧ Below w.heap.size w w' := by
  go_enter Try.func42, Try.ntmps42
  (repeat (first | (with_reducible first | refine xA ?_ | refine xB ?_ | refine xC ?_ | refine xD ?_ | refine xH ?_ | refine xI rfl ?_ | refine xE ?_ | refine xF ?_ | refine xG ?_) | go_values | go_skip | go_guarded | go_step | go_upon | go_back | ((with_reducible show Oper.upon _ _ _ _ _ _); go_simp) | (dsimp only)))
  go_loop [3, 4] (fun v i => ∃ k q : Nat, k ≤ 64 ∧ Hid (q = n / 2 ^ k) ∧ v = .int .u64 q ∧ i = .int .i64 ((k : Int) - 1)) (fun _ i => (intOf i + 1).toNat)
  case atStart => exact ⟨64, 0, by omega, Lib.hid (Nat.div_eq_of_lt hn.out).symm, rfl, rfl⟩
  case round =>
    obtain ⟨k, q, hk, hq, rfl, rfl⟩ := hrel
    rcases k with _ | k
    · (repeat (first | (with_reducible first | refine xA ?_ | refine xB ?_ | refine xC ?_ | refine xD ?_ | refine xH ?_ | refine xI rfl ?_ | refine xE ?_ | refine xF ?_ | refine xG ?_) | go_values | go_skip | go_guarded | go_step | go_upon | go_back | ((with_reducible show Oper.upon _ _ _ _ _ _); go_simp) | (dsimp only)))
      go_ret
      refine ⟨ret_int (by rw [hq.out]; simp), ?_⟩
      (repeat (first | with_reducible exact Below.refl _ _ | assumption | with_reducible refine below_drewN ?_ _ | with_reducible refine Below.drew ?_ | with_reducible refine Below.setRow ?_ ?_ _ | with_reducible refine Below.alloc ?_ ?_ _ | with_reducible refine Below.setCell ?_ ?_ _ | with_reducible exact Nat.le_refl _ | (focus (simp; done)) | (focus (simp; omega)) | omega))
    · have hr := bw_get n k (by omega)
      have Hw := Lib.hid (num_w1 hn.out hq.out)
      have H3 := Lib.hid (num_step hq.out)
      have b0 : (0 : Int) ≤ k := by omega
      have b1 : (k : Int) < 64 := by omega
      have e1 : ((k + 1 : Nat) : Int) - 1 = k := by omega
      cases hb : n.testBit k with
      | true =>
        rw [hb] at hr
        (repeat (first | (with_reducible first | refine xA ?_ | refine xB ?_ | refine xC ?_ | refine xD ?_ | refine xH ?_ | refine xI rfl ?_ | refine xE ?_ | refine xF ?_ | refine xG ?_) | go_values | go_skip | go_guarded | go_step | go_upon | go_back | ((with_reducible show Oper.upon _ _ _ _ _ _); go_simp) | (dsimp only)))
        exact ⟨⟨k, 2 * q + 1, by omega, Lib.hid (by rw [H3.out, if_pos hb]), int_eq' (by rw [Hw.out.1]; exact Hw.out.2 hb), rfl⟩, by simp [intOf]⟩
      | false =>
        rw [hb] at hr
        (repeat (first | (with_reducible first | refine xA ?_ | refine xB ?_ | refine xC ?_ | refine xD ?_ | refine xH ?_ | refine xI rfl ?_ | refine xE ?_ | refine xF ?_ | refine xG ?_) | go_values | go_skip | go_guarded | go_step | go_upon | go_back | ((with_reducible show Oper.upon _ _ _ _ _ _); go_simp) | (dsimp only)))
        exact ⟨⟨k, 2 * q, by omega, Lib.hid (by rw [H3.out, if_neg (by simp [hb])]; rfl), int_eq' Hw.out.1, rfl⟩, by simp [intOf]⟩

theorem add_step {x y c k : Nat} (m : Nat) (cr : Bool) (hm : m = (x % 2 ^ k + y % 2 ^ k + c) % 2 ^ k) (hc : cr.toNat = (x % 2 ^ k + y % 2 ^ k + c) / 2 ^ k) :
    setb m k (decide (((x.testBit k).toNat + (y.testBit k).toNat + cr.toNat) % 2 = 1)) = (x % 2 ^ (k + 1) + y % 2 ^ (k + 1) + c) % 2 ^ (k + 1) ∧
    (decide (1 < (x.testBit k).toNat + (y.testBit k).toNat + cr.toNat)).toNat = (x % 2 ^ (k + 1) + y % 2 ^ (k + 1) + c) / 2 ^ (k + 1) := by
  have hp := Nat.pow_pos (n := k) (show 0 < 2 by omega)
  have hml : m < 2 ^ k := by rw [hm]; exact Nat.mod_lt _ hp
  rw [setb_lt hml, mod_succ x, mod_succ y, Nat.pow_succ]
  have hd := Nat.div_add_mod (x % 2 ^ k + y % 2 ^ k + c) (2 ^ k)
  rw [← hm, ← hc] at hd
  generalize 2 ^ k = P at *
  generalize x % P = X at *
  generalize y % P = Y at *
  have key : X + (if x.testBit k then P else 0) + (Y + (if y.testBit k then P else 0)) + c = P * ((x.testBit k).toNat + (y.testBit k).toNat + cr.toNat) + m := by
    rw [Nat.mul_add, Nat.mul_add]
    cases x.testBit k <;> cases y.testBit k <;> simp <;> omega
  rw [key]
  have hs : (x.testBit k).toNat + (y.testBit k).toNat + cr.toNat ≤ 3 := by
    have h1 := Bool.toNat_le (x.testBit k)
    have h2 := Bool.toNat_le (y.testBit k)
    have h3 := Bool.toNat_le cr
    omega
  generalize (x.testBit k).toNat + (y.testBit k).toNat + cr.toNat = s at *
  clear hm hc hd key
  have : s = 0 ∨ s = 1 ∨ s = 2 ∨ s = 3 := by omega
  rcases this with rfl | rfl | rfl | rfl
  · exact ⟨by simp; rw [Nat.mod_eq_of_lt (by omega)], by simp; rw [Nat.div_eq_of_lt (by omega)]⟩
  · exact ⟨by simp; rw [Nat.mod_eq_of_lt (by omega)]; omega, by simp; rw [Nat.div_eq_of_lt (by omega)]⟩
  · have e : P * 2 + m = m + P * 2 := by omega
    exact ⟨by simp; rw [Nat.mod_eq_of_lt (by omega)], by simp; rw [e, Nat.add_div_right _ (by omega), Nat.div_eq_of_lt (by omega)]⟩
  · have e : P * 3 + m = (m + P) + P * 2 := by omega
    exact ⟨by simp; rw [e, Nat.add_mod_right, Nat.mod_eq_of_lt (by omega)], by simp; rw [e, Nat.add_div_right _ (by omega), Nat.div_eq_of_lt (by omega)]⟩

set_option maxRecDepth 100000 in
set_option maxHeartbeats 2000000 in
theorem add_ref (W x y : Nat) (c : Bool) (w : World) (hW : W ≤ 64) (hx : Hid (x < 2 ^ W)) (hy : Hid (y < 2 ^ W)) :
    Calls Try.prog 51 #[.int .i64 W, .agg (bw x), .agg (bw y), .bool c] w fun e w' => e = .returned (.agg (bw ((x + y + c.toNat) % 2 ^ W))) ∧ Below w.heap.size w w' := by
  have hz := (zero_of_info zero29).1
  go_enter Try.func51, Try.ntmps51
  (repeat (first | (with_reducible first | refine xA ?_ | refine xB ?_ | refine xC ?_ | refine xD ?_ | refine xH ?_ | refine xI rfl ?_ | refine xE ?_ | refine xF ?_ | refine xG ?_) | go_values | go_skip | go_guarded | go_step | go_upon | go_back | ((with_reducible show Oper.upon _ _ _ _ _ _); go_simp) | (dsimp only)))
  go_loopw [3, 10] (fun v i wr => ∃ (k m : Nat) (cr : Bool), k ≤ W ∧ Hid (m = (x % 2 ^ k + y % 2 ^ k + c.toNat) % 2 ^ k) ∧ Hid (cr.toNat = (x % 2 ^ k + y % 2 ^ k + c.toNat) / 2 ^ k) ∧ v = .bool cr ∧ i = .int .i64 k ∧ wr = ((((w.alloc (.cells (bw x) 80)).alloc (.cells (bw y) 80)).alloc (.cells (bw 0) 80)).alloc (.cells (bw m) 80))) (fun _ i _ => W - (intOf i).toNat)
  case atStart => exact ⟨0, 0, c, by omega, Lib.hid (by simp [Nat.mod_one]), Lib.hid (by simp [Nat.mod_one]), rfl, rfl, rfl⟩
  case round =>
    obtain ⟨k, m, cr, hk, hm, hc, rfl, rfl, rfl⟩ := hrel
    by_cases hlt : k < W
    · have hs := bw_set m k
      have hr := bw_get m k (by omega)
      have hrx := bw_get x k (by omega)
      have hry := bw_get y k (by omega)
      have b0 : (0 : Int) ≤ k := by omega
      have b1 : (k : Int) < 64 := by omega
      have H := Lib.hid (add_step m cr hm.out hc.out)
      cases hbx : x.testBit k <;> cases hby : y.testBit k <;> cases cr
      all_goals
        have Hx := Lib.hid hbx
        have Hy := Lib.hid hby
        rw [hbx] at hrx
        rw [hby] at hry
        clear hbx hby
        (repeat (first | (with_reducible first | refine xA ?_ | refine xB ?_ | refine xC ?_ | refine xD ?_ | refine xH ?_ | refine xI rfl ?_ | refine xE ?_ | refine xF ?_ | refine xG ?_) | go_values | go_skip | go_guarded | go_step | go_upon | go_back | ((with_reducible show Oper.upon _ _ _ _ _ _); go_simp) | (dsimp only)))
        exact ⟨⟨k + 1, _, _, by omega, Lib.hid (by have h := H.out.1; rw [Hx.out, Hy.out] at h; exact h), Lib.hid (by have h := H.out.2; rw [Hx.out, Hy.out] at h; exact h), rfl, by go_num, rfl⟩, by simp [intOf]; omega⟩
    · obtain rfl : k = W := by omega
      (repeat (first | (with_reducible first | refine xA ?_ | refine xB ?_ | refine xC ?_ | refine xD ?_ | refine xH ?_ | refine xI rfl ?_ | refine xE ?_ | refine xF ?_ | refine xG ?_) | go_skip | go_guarded | ((with_reducible refine wl_load29 rfl _ rfl ?_); apply Exists.intro; apply Exists.intro; refine ⟨rfl, ?_, ?_⟩; (· (repeat (first | (with_reducible assumption) | ((with_reducible refine heap_new _ _ _ ?_); (simp; done)) | ((with_reducible refine (heap_old _ _ _ ?_).trans ?_); (· (simp; done))) | (with_reducible refine row_same ?_ _) | ((with_reducible refine row_other ?_ _ ?_); rotate_left; (· (simp; done)))))); simp only [Act.put, List.setIfInBounds_toArray, List.set_cons_succ, List.set_cons_zero]) | ((with_reducible refine wl_store29 rfl _ _ rfl ?_); apply Exists.intro; apply Exists.intro; apply Exists.intro; refine ⟨rfl, rfl, ?_, ?_⟩; (· (repeat (first | (with_reducible assumption) | ((with_reducible refine heap_new _ _ _ ?_); (simp; done)) | ((with_reducible refine (heap_old _ _ _ ?_).trans ?_); (· (simp; done))) | (with_reducible refine row_same ?_ _) | ((with_reducible refine row_other ?_ _ ?_); rotate_left; (· (simp; done)))))); simp only [Act.put, List.setIfInBounds_toArray, List.set_cons_succ, List.set_cons_zero]) | go_values | go_skip | go_guarded | go_step | go_upon | go_back | ((with_reducible show Oper.upon _ _ _ _ _ _); go_simp) | (dsimp only)))
      refine bodyPost_ret (res29 rfl _ _ _ _ rfl (row_same (n := 0) (by (repeat (first | (with_reducible assumption) | ((with_reducible refine heap_new _ _ _ ?_); (simp; done)) | ((with_reducible refine (heap_old _ _ _ ?_).trans ?_); (· (simp; done))) | (with_reducible refine row_same ?_ _) | ((with_reducible refine row_other ?_ _ ?_); rotate_left; (· (simp; done)))))) _)) rfl ⟨?_, ?_⟩
      · rw [hm.out, Nat.mod_eq_of_lt hx.out, Nat.mod_eq_of_lt hy.out]
      · refine Below.setRow ?_ (by omega) _
        (repeat (first | with_reducible exact Below.refl _ _ | assumption | with_reducible refine below_drewN ?_ _ | with_reducible refine Below.drew ?_ | with_reducible refine Below.setRow ?_ ?_ _ | with_reducible refine Below.alloc ?_ ?_ _ | with_reducible refine Below.setCell ?_ ?_ _ | with_reducible exact Nat.le_refl _ | (focus (simp; done)) | (focus (simp; omega)) | omega))


end Go.Proofs.Ytmaogkgjiplckaa

set_option linter.unusedSimpArgs false
set_option linter.unusedVariables false
namespace Go.Proofs.Ytmaogkgjiplckaa
open Go.RowKit
theorem lt_powm {n W : Nat} (h : n < 2 ^ W) (hW : W ≤ 64) : n < 18446744073709551616 := Nat.lt_of_lt_of_le h (pow_le64 hW)
theorem build29m (w : World) : (Instr.build 80 #[]).run Try.prog w = .ok (.agg (bw 0)) w := by kernel_rfl
theorem wl_build29m {ops : Array Oper} {rest : List Oper} {o : Oper} {a : Act} {w : World} {Q : Exit → Act → World → Prop} (hgd : o.guard = none) (ho : o.op = .build 80 #[]) (h : wpList Try.prog ops Q rest (a.put o.dst (.agg (bw 0))) w) : wpList Try.prog ops Q (o :: rest) a w :=
  wpList_plain hgd fun _ hK => by
    unfold Oper.wp execOp
    have e : (#[] : Array (Nat × Operand)).map (fun p => (p.1, a.eval p.2)) = #[] := by simp
    simp only [ho, e, Sem.run_bind, build29m w, Result.andThen_ok]
    exact hK _ _ h

set_option maxHeartbeats 1000000 in
theorem rmask_any (a : Int) (w : World) :
    Calls Try.prog 16 #[.int .i64 a] w fun e w' => e = .returned (.int .u64 ((2 ^ wid a - 1 : Nat) : Int)) ∧ Below w.heap.size w w' := by
  have hW := (wid_bd a).2
  have hp := Nat.pow_pos (n := wid a) (show 0 < 2 by omega)
  have hl : Hid (2 ^ wid a - 1 < 18446744073709551616) := Lib.hid (lt_powm (by omega) hW)
  go_enter Try.func16, Try.ntmps16
  (repeat (first | (with_reducible first | refine xA ?_ | refine xB ?_ | refine xC ?_ | refine xD ?_ | refine xH ?_ | refine xI rfl ?_ | refine xE ?_ | refine xF ?_ | refine xG ?_) | go_skip | go_guarded | ((with_reducible refine wl_id ?_); refine wl_build29m rfl rfl ?_; simp only [Act.put, List.setIfInBounds_toArray, List.set_cons_succ, List.set_cons_zero]) | (go_at_call 27; (with_reducible refine (rwidth_any _ _).mono ?_); rintro e w1 ⟨rfl, rfl⟩) | (go_at_call 43; (with_reducible refine (not_any _ _ _ hW).mono ?_); rintro e w1 ⟨rfl, hb⟩) | (go_at_call 42; (with_reducible refine (num_any _ _ (by assumption)).mono ?_); rintro e w2 ⟨rfl, hb2⟩) | go_values | go_skip | go_guarded | go_step | go_upon | go_back | ((with_reducible show Oper.upon _ _ _ _ _ _); go_simp) | (dsimp only)))
  go_ret
  exact ⟨ret_int rfl, hb.trans (hb2.mono hb.size)⟩


/-- a number cut by a mask -/
theorem mask_and {N : Nat} (hN : 1 ≤ N ∧ N ≤ 64) {x : Int} (h0 : 0 ≤ x) (h1 : x < 18446744073709551616) : bits BinOp.and IntKind.u64 x ((2 ^ N - 1 : Nat) : Int) = ((x.toNat % 2 ^ N : Nat) : Int) := by
  obtain ⟨n, rfl⟩ := Int.eq_ofNat_of_zero_le h0
  have hp := pow_le64 hN.2
  have hp0 := Nat.pow_pos (n := N) (show 0 < 2 by omega)
  rw [bits_and_u64_nat _ _ (by omega) (by omega), Int.toNat_natCast, Nat.and_two_pow_sub_one_eq_mod]
theorem wid_in {N : Nat} (hN : 1 ≤ N ∧ N ≤ 64) : wid (N : Int) = N := by unfold wid; (repeat' split) <;> omega

end Go.Proofs.Ytmaogkgjiplckaa

