import Derived.Test.YtmaogkgjiplckaaL
set_option linter.unusedSimpArgs false
set_option linter.unusedVariables false
namespace Go.Proofs.Ytmaogkgjiplckaa
open Go.RowKit

def wid (w : Int) : Nat := if w < 1 then 1 else if 64 < w then 64 else w.toNat
theorem wid_bd (w : Int) : 1 ≤ wid w ∧ wid w ≤ 64 := by unfold wid; split <;> (try split) <;> omega
theorem wid_wid (w : Int) : wid ((wid w : Nat) : Int) = wid w := by
  have h := wid_bd w
  generalize wid w = W at *
  unfold wid; split <;> (try split) <;> omega

def maskI (a : Int) : Int := 2 ^ wid a - 1

theorem pow_le64 {W : Nat} (h : W ≤ 64) : (2 : Nat) ^ W ≤ 18446744073709551616 :=
  Nat.le_trans (Nat.pow_le_pow_right (by omega) h) (by decide)

theorem mask_div : ∀ W : Fin 65, (18446744073709551615 : Nat) / 2 ^ (64 - W.val) = 2 ^ W.val - 1 := by decide +kernel

theorem mask_m (a : Int) : (18446744073709551615 : Int) / 2 ^ (64 - wid a) = maskI a := by
  have hb := wid_bd a
  have h := mask_div ⟨wid a, by omega⟩
  have hp := Nat.pow_pos (n := wid a) (show 0 < 2 by omega)
  unfold maskI
  have h2 : ((18446744073709551615 / 2 ^ (64 - wid a) : Nat) : Int) = ((2 ^ wid a - 1 : Nat) : Int) := by rw [h]
  rw [Int.natCast_ediv, Int.natCast_pow] at h2
  rw [Int.ofNat_sub hp] at h2
  simpa using h2

/-- a number without its sign, mod 2^64 -/
theorem ofInt64 (x : Int) : (BitVec.ofInt 64 x).toNat = (x % 18446744073709551616).toNat := by
  rw [BitVec.toNat_ofInt]; rfl

theorem cut_m (a x : Int) : bits .and .u64 x (maskI a) = x % 2 ^ wid a := by
  have hb := wid_bd a
  have hp := pow_le64 hb.2
  have hp0 := Nat.pow_pos (n := wid a) (show 0 < 2 by omega)
  have hm : maskI a = ((2 ^ wid a - 1 : Nat) : Int) := by
    unfold maskI; rw [Int.ofNat_sub hp0]; simp
  show IntKind.u64.wrap ((BitVec.ofInt 64 x &&& BitVec.ofInt 64 (maskI a)).toNat : Int) = _
  have h2 : (BitVec.ofInt 64 (maskI a)).toNat = 2 ^ wid a - 1 := by
    rw [hm, BitVec.ofInt_natCast, BitVec.toNat_ofNat]; exact Nat.mod_eq_of_lt (by omega)
  rw [BitVec.toNat_and, h2, Nat.and_two_pow_sub_one_eq_mod, ofInt64, IntKind.wrap_u64]
  have hd : (18446744073709551616 : Int) % ((2 ^ wid a : Nat) : Int) = 0 := by
    have : (2 ^ wid a : Nat) ∣ 18446744073709551616 := Nat.pow_dvd_pow 2 hb.2
    exact Int.emod_eq_zero_of_dvd (Int.natCast_dvd_natCast.2 this)
  have hpc : ((2 : Int) ^ wid a) = ((2 ^ wid a : Nat) : Int) := by simp
  rw [hpc]
  generalize 2 ^ wid a = M at *
  rw [Int.natCast_emod, Int.toNat_of_nonneg (Int.emod_nonneg _ (by decide))]
  rw [Int.emod_emod_of_dvd _ (Int.dvd_of_emod_eq_zero hd)]
  have h1 := Int.emod_nonneg x (show (M : Int) ≠ 0 by omega)
  have h3 := Int.emod_lt_of_pos x (show (0 : Int) < M by omega)
  exact Int.emod_eq_of_lt h1 (by omega)

/-- the sign of a word -/
def sgI (W : Nat) (x : Int) : Int := if 2 ^ (W - 1) ≤ x % 2 ^ W then x % 2 ^ W - 2 ^ W else x % 2 ^ W

theorem sign_m (a x : Int) : wrap64 (IntKind.u64.wrap (x * 2 ^ (64 - wid a))) / 2 ^ (64 - wid a) = sgI (wid a) x := by
  have hb := wid_bd a
  generalize wid a = W at *
  obtain ⟨V, rfl⟩ : ∃ V, W = V + 1 := ⟨W - 1, by omega⟩
  rw [IntKind.wrap_u64]
  unfold sgI wrap64
  have e64 : (18446744073709551616 : Int) = 2 ^ (V + 1) * 2 ^ (64 - (V + 1)) := by rw [← Int.pow_add]; rw [show V + 1 + (64 - (V + 1)) = 64 from by omega]; rfl
  rw [show V + 1 - 1 = V from by omega]
  have hpc : ((2 : Int) ^ (V + 1)) = 2 * 2 ^ V := by rw [Int.pow_succ]; omega
  have hpV : (0 : Int) < 2 ^ V := Int.pow_pos (by decide)
  have hpK : (0 : Int) < 2 ^ (64 - (V + 1)) := Int.pow_pos (by decide)
  have hmul : x * 2 ^ (64 - (V + 1)) % 18446744073709551616 = (x % 2 ^ (V + 1)) * 2 ^ (64 - (V + 1)) := by
    rw [e64, Int.mul_comm x, Int.mul_comm (2 ^ (V + 1)), Int.mul_emod_mul_of_pos _ _ hpK, Int.mul_comm]
  rw [hmul]
  have hr0 := Int.emod_nonneg x (show (2 : Int) ^ (V + 1) ≠ 0 by omega)
  have hr1 := Int.emod_lt_of_pos x (show (0 : Int) < 2 ^ (V + 1) by omega)
  generalize x % 2 ^ (V + 1) = r at *
  rw [hpc] at hr1 e64 ⊢
  clear hmul hpc
  generalize (2 : Int) ^ V = H at *
  generalize (2 : Int) ^ (64 - (V + 1)) = K at *
  have hHK : H * K = 9223372036854775808 := by
    have : 2 * (H * K) = 18446744073709551616 := by rw [e64, Int.mul_assoc]
    omega
  have key : (r * K + 9223372036854775808) % 18446744073709551616 - 9223372036854775808 = (if H ≤ r then r - 2 * H else r) * K := by
    split
    · rename_i h
      have : H * K ≤ r * K := Int.mul_le_mul_of_nonneg_right h (by omega)
      have h2 : r * K < (2 * H) * K := Int.mul_lt_mul_of_pos_right hr1 hpK
      rw [Int.mul_assoc] at h2
      rw [Int.sub_mul, Int.mul_assoc]
      omega
    · rename_i h
      have : r * K < H * K := Int.mul_lt_mul_of_pos_right (by omega) hpK
      have h2 : 0 ≤ r * K := Int.mul_nonneg hr0 (by omega)
      omega
  rw [key, Int.mul_ediv_cancel _ (by omega)]


def quoI (a x y : Int) : Int := if y = 0 then maskI a else x / y

/-- what an operation answers of two words of width W -/
def opI (op : Int) (W : Nat) (x y : Int) : Int :=
  if op = 5 then 2 ^ W - 1 - x
  else if op = 8 then (x + y) % 2 ^ W
  else if op = 9 then (x - y) % 2 ^ W
  else if op = 10 then x * y % 2 ^ W
  else if op = 11 then (if y = 0 then 2 ^ W - 1 else x / y)
  else if op = 12 then x % y
  else if op = 13 then ((x.toNat &&& y.toNat : Nat) : Int)
  else if op = 14 then ((x.toNat ||| y.toNat : Nat) : Int)
  else if op = 15 then ((x.toNat ^^^ y.toNat : Nat) : Int)
  else if op = 16 then x * 2 ^ y.toNat % 2 ^ W
  else if op = 17 then x / 2 ^ y.toNat
  else if op = 18 then sgI W x / 2 ^ y.toNat % 2 ^ W
  else if op = 19 then (if x = y then 1 else 0)
  else if op = 20 then (if x < y then 1 else 0)
  else if op = 21 then (if sgI W x < sgI W y then 1 else 0)
  else 0

theorem pow_nat (W : Nat) : ((2 : Int) ^ W) = ((2 ^ W : Nat) : Int) := by simp

theorem pow_dvd64 {W : Nat} (h : W ≤ 64) : ((2 : Int) ^ W) ∣ 18446744073709551616 := by
  rw [pow_nat]
  have : (2 ^ W : Nat) ∣ 18446744073709551616 := Nat.pow_dvd_pow 2 h
  exact Int.natCast_dvd_natCast.2 this

theorem wrap_mod (e : Int) {W : Nat} (h : W ≤ 64) : IntKind.u64.wrap e % 2 ^ W = e % 2 ^ W := by
  rw [IntKind.wrap_u64, Int.emod_emod_of_dvd _ (pow_dvd64 h)]

theorem word_lt64 {W : Nat} (hW : 1 ≤ W ∧ W ≤ 64) {x : Int} (hxM : x < 2 ^ W) : x < 18446744073709551616 := by
  have := pow_le64 hW.2
  rw [pow_nat] at hxM
  omega

theorem m_5 {W : Nat} (hW : 1 ≤ W ∧ W ≤ 64) {x : Int} (hx : 0 ≤ x) (hxM : x < 2 ^ W) : bits .xor .u64 (if IntKind.u64.signed = true then -1 else IntKind.u64.max) x % 2 ^ W = 2 ^ W - 1 - x := by
  have h64 := word_lt64 hW hxM
  have e1 : (if IntKind.u64.signed = true then (-1 : Int) else IntKind.u64.max) = ((18446744073709551615 : Nat) : Int) := by decide
  obtain ⟨n, rfl⟩ := Int.eq_ofNat_of_zero_le hx
  rw [e1, bits_xor_u64_nat _ _ (by decide) (by omega)]
  have e2 : (18446744073709551615 : Nat) ^^^ n = 18446744073709551615 - n := by
    have h : (BitVec.allOnes 64 ^^^ BitVec.ofNat 64 n).toNat = 2 ^ 64 - 1 - n := by
      rw [BitVec.allOnes_xor, BitVec.toNat_not, BitVec.toNat_ofNat, Nat.mod_eq_of_lt (by omega)]
    rw [BitVec.toNat_xor, BitVec.toNat_allOnes, BitVec.toNat_ofNat, Nat.mod_eq_of_lt (by omega)] at h
    exact h
  rw [e2, pow_nat] at *
  have hd' : 2 ^ W ∣ 18446744073709551616 := Nat.pow_dvd_pow 2 hW.2
  have hp := Nat.pow_pos (n := W) (show 0 < 2 by omega)
  generalize 2 ^ W = M at *
  obtain ⟨q, hq⟩ := hd'
  have hn : n < M := by omega
  obtain ⟨p, rfl⟩ : ∃ p, q = p + 1 := ⟨q - 1, by
    rcases q with _ | q
    · omega
    · rfl⟩
  have : 18446744073709551615 - n = (M - 1 - n) + M * p := by
    rw [Nat.mul_add] at hq
    omega
  rw [this, ← Int.natCast_emod, Nat.add_mul_mod_self_left, Nat.mod_eq_of_lt (by omega)]
  omega

theorem m_11 {W : Nat} {x y : Int} (hx : 0 ≤ x) (hxM : x < 2 ^ W) (hy : 0 ≤ y) (a : Int) (ha : wid a = W) : quoI a x y % 2 ^ W = if y = 0 then 2 ^ W - 1 else x / y := by
  have hp : (0 : Int) < 2 ^ W := Int.pow_pos (by decide)
  unfold quoI maskI
  rw [ha]
  split
  · exact Int.emod_eq_of_lt (by omega) (by omega)
  · have h1 := Int.ediv_nonneg hx hy
    have h2 : x / y ≤ x := Int.ediv_le_self _ hx
    exact Int.emod_eq_of_lt h1 (by omega)

theorem m_12 {W : Nat} {x y : Int} (hx : 0 ≤ x) (hxM : x < 2 ^ W) (hy : 0 ≤ y) (hyM : y < 2 ^ W) : x % y % 2 ^ W = x % y := by
  by_cases h : y = 0
  · subst h; rw [Int.emod_zero]; exact Int.emod_eq_of_lt hx hxM
  · have h1 := Int.emod_nonneg x h
    have h2 := Int.emod_lt_of_pos x (show 0 < y by omega)
    exact Int.emod_eq_of_lt h1 (by omega)

theorem m_13 {W : Nat} (hW : 1 ≤ W ∧ W ≤ 64) {x y : Int} (hx : 0 ≤ x) (hxM : x < 2 ^ W) (hy : 0 ≤ y) (hyM : y < 2 ^ W) : bits .and .u64 x y % 2 ^ W = ((x.toNat &&& y.toNat : Nat) : Int) := by
  have h1 := word_lt64 hW hxM
  have h2 := word_lt64 hW hyM
  obtain ⟨n, rfl⟩ := Int.eq_ofNat_of_zero_le hx
  obtain ⟨m, rfl⟩ := Int.eq_ofNat_of_zero_le hy
  rw [bits_and_u64_nat _ _ (by omega) (by omega)]
  rw [pow_nat] at *
  simp only [Int.toNat_natCast]
  rw [← Int.natCast_emod, Nat.mod_eq_of_lt (Nat.and_lt_two_pow _ (by omega))]

theorem m_14 {W : Nat} (hW : 1 ≤ W ∧ W ≤ 64) {x y : Int} (hx : 0 ≤ x) (hxM : x < 2 ^ W) (hy : 0 ≤ y) (hyM : y < 2 ^ W) : bits .or .u64 x y % 2 ^ W = ((x.toNat ||| y.toNat : Nat) : Int) := by
  have h1 := word_lt64 hW hxM
  have h2 := word_lt64 hW hyM
  obtain ⟨n, rfl⟩ := Int.eq_ofNat_of_zero_le hx
  obtain ⟨m, rfl⟩ := Int.eq_ofNat_of_zero_le hy
  rw [bits_or_u64_nat _ _ (by omega) (by omega)]
  rw [pow_nat] at *
  simp only [Int.toNat_natCast]
  rw [← Int.natCast_emod, Nat.mod_eq_of_lt (Nat.or_lt_two_pow (by omega) (by omega))]

theorem m_15 {W : Nat} (hW : 1 ≤ W ∧ W ≤ 64) {x y : Int} (hx : 0 ≤ x) (hxM : x < 2 ^ W) (hy : 0 ≤ y) (hyM : y < 2 ^ W) : bits .xor .u64 x y % 2 ^ W = ((x.toNat ^^^ y.toNat : Nat) : Int) := by
  have h1 := word_lt64 hW hxM
  have h2 := word_lt64 hW hyM
  obtain ⟨n, rfl⟩ := Int.eq_ofNat_of_zero_le hx
  obtain ⟨m, rfl⟩ := Int.eq_ofNat_of_zero_le hy
  rw [bits_xor_u64_nat _ _ (by omega) (by omega)]
  rw [pow_nat] at *
  simp only [Int.toNat_natCast]
  rw [← Int.natCast_emod, Nat.mod_eq_of_lt (Nat.xor_lt_two_pow (by omega) (by omega))]

theorem m_16hi {W : Nat} {x y : Int} (hy : 0 ≤ y) (h : (W : Int) ≤ y) : (0 : Int) % 2 ^ W = x * 2 ^ y.toNat % 2 ^ W := by
  obtain ⟨m, rfl⟩ := Int.eq_ofNat_of_zero_le hy
  simp only [Int.toNat_natCast]
  obtain ⟨k, rfl⟩ : ∃ k, m = W + k := ⟨m - W, by omega⟩
  rw [Int.pow_add, ← Int.mul_assoc, Int.mul_comm x, Int.mul_assoc, Int.mul_emod_right, Int.zero_emod]

theorem m_17hi {W : Nat} {x y : Int} (hx : 0 ≤ x) (hxM : x < 2 ^ W) (hy : 0 ≤ y) (h : (W : Int) ≤ y) : (0 : Int) % 2 ^ W = x / 2 ^ y.toNat := by
  obtain ⟨m, rfl⟩ := Int.eq_ofNat_of_zero_le hy
  simp only [Int.toNat_natCast]
  have hle : (2 : Int) ^ W ≤ 2 ^ m := by
    rw [pow_nat, pow_nat]; exact_mod_cast Nat.pow_le_pow_right (by omega) (by omega : W ≤ m)
  rw [Int.zero_emod, Int.ediv_eq_zero_of_lt hx (by omega)]

theorem m_17lo {W : Nat} {x y : Int} (hx : 0 ≤ x) (hxM : x < 2 ^ W) : x / 2 ^ y.toNat % 2 ^ W = x / 2 ^ y.toNat := by
  have hp : (0 : Int) < 2 ^ y.toNat := Int.pow_pos (by decide)
  have h1 := Int.ediv_nonneg hx (Int.le_of_lt hp)
  have h2 : x / 2 ^ y.toNat ≤ x := Int.ediv_le_self _ hx
  exact Int.emod_eq_of_lt h1 (by omega)

theorem sg_bd {W : Nat} (hW : 1 ≤ W) (x : Int) : - 2 ^ (W - 1) ≤ sgI W x ∧ sgI W x < 2 ^ (W - 1) := by
  obtain ⟨V, rfl⟩ : ∃ V, W = V + 1 := ⟨W - 1, by omega⟩
  unfold sgI
  rw [show V + 1 - 1 = V from by omega]
  have hpc : ((2 : Int) ^ (V + 1)) = 2 * 2 ^ V := by rw [Int.pow_succ]; omega
  have hpV : (0 : Int) < 2 ^ V := Int.pow_pos (by decide)
  have h1 := Int.emod_nonneg x (show (2 : Int) ^ (V + 1) ≠ 0 by omega)
  have h2 := Int.emod_lt_of_pos x (show (0 : Int) < 2 ^ (V + 1) by omega)
  split <;> omega

theorem div_small {s H : Int} {P : Int} (h : H ≤ P) (h0 : 0 < P) (h1 : -H ≤ s) (h2 : s < H) : s / P = if s < 0 then -1 else 0 := by
  split
  · have := Int.ediv_lt_of_lt_mul h0 (show s < 0 * P by omega)
    have := Int.le_ediv_of_mul_le h0 (show -1 * P ≤ s by omega)
    omega
  · exact Int.ediv_eq_zero_of_lt (by omega) (by omega)

theorem m_18hi {W : Nat} (hW : 1 ≤ W ∧ W ≤ 64) (x y : Int) (h : (W : Int) ≤ y) :
    IntKind.u64.wrap (sgI W x / 9223372036854775808) % 2 ^ W = sgI W x / 2 ^ y.toNat % 2 ^ W := by
  rw [wrap_mod _ hW.2]
  have hb := sg_bd hW.1 x
  have h1 : (2 : Int) ^ (W - 1) ≤ 2 ^ 63 := by
    rw [pow_nat, pow_nat]; exact_mod_cast Nat.pow_le_pow_right (by omega) (by omega : W - 1 ≤ 63)
  have h2 : (2 : Int) ^ (W - 1) ≤ 2 ^ y.toNat := by
    rw [pow_nat, pow_nat]; exact_mod_cast Nat.pow_le_pow_right (by omega) (by omega : W - 1 ≤ y.toNat)
  rw [div_small (P := 9223372036854775808) h1 (by decide) hb.1 hb.2, div_small h2 (Int.pow_pos (by decide)) hb.1 hb.2]

theorem one_mod {W : Nat} (hW : 1 ≤ W) (p : Prop) [Decidable p] : (if p then (1 : Int) else 0) % 2 ^ W = if p then 1 else 0 := by
  have : (2 : Int) ≤ 2 ^ W := by
    have h := Nat.pow_le_pow_right (show 0 < 2 by omega) hW
    rw [pow_nat]; exact_mod_cast h
  split
  · exact Int.emod_eq_of_lt (by omega) (by omega)
  · rfl

theorem sgI_mod (W : Nat) (x : Int) : sgI W (x % 2 ^ W) = sgI W x := by unfold sgI; rw [Int.emod_emod]

theorem m_9 {W : Nat} (hW : 1 ≤ W ∧ W ≤ 64) (x y : Int) : IntKind.u64.wrap (x + IntKind.u64.wrap (-y)) % 2 ^ W = (x - y) % 2 ^ W := by
  rw [wrap_mod _ hW.2, Int.add_emod, wrap_mod _ hW.2, ← Int.add_emod]; rfl

theorem m_19 {W : Nat} (hW : 1 ≤ W) (x y : Int) : (if x = y then (1 : Int) else 0) % 2 ^ W = if x = y then 1 else 0 := one_mod hW _
theorem m_20 {W : Nat} (hW : 1 ≤ W) (x y : Int) : (if x < y then (1 : Int) else 0) % 2 ^ W = if x < y then 1 else 0 := one_mod hW _

theorem xor_top_lt {n V : Nat} (h : n < 2 ^ V) : n ^^^ 2 ^ V = n + 2 ^ V := by
  apply Nat.eq_of_testBit_eq
  intro j
  rw [Nat.testBit_xor, Nat.testBit_two_pow, Nat.add_comm n]
  rcases Nat.lt_trichotomy j V with hj | hj | hj
  · rw [Nat.testBit_two_pow_add_gt hj]
    simp [show ¬ V = j by omega]
  · subst hj
    rw [Nat.testBit_two_pow_add_eq]
    simp
  · have h1 : n.testBit j = false := Nat.testBit_lt_two_pow (Nat.lt_of_lt_of_le h (Nat.pow_le_pow_right (by omega) (by omega)))
    have h2 : (2 ^ V + n).testBit j = false := by
      apply Nat.testBit_lt_two_pow
      have : 2 ^ (V + 1) ≤ 2 ^ j := Nat.pow_le_pow_right (by omega) (by omega)
      rw [Nat.pow_succ] at this
      omega
    rw [h1, h2]
    simp [show ¬ V = j by omega]

theorem xor_top {n V : Nat} (h : n < 2 ^ (V + 1)) : n ^^^ 2 ^ V = if n < 2 ^ V then n + 2 ^ V else n - 2 ^ V := by
  rw [Nat.pow_succ] at h
  split
  · exact xor_top_lt ‹_›
  · obtain ⟨m, rfl⟩ : ∃ m, n = m + 2 ^ V := ⟨n - 2 ^ V, by omega⟩
    have hm : m < 2 ^ V := by omega
    rw [← xor_top_lt hm, Nat.xor_assoc, Nat.xor_self, Nat.xor_zero, xor_top_lt hm]
    omega

theorem bits_top {W : Nat} (hW : 1 ≤ W ∧ W ≤ 64) {x : Int} (hx : 0 ≤ x) (hxM : x < 2 ^ W) :
    bits .xor .u64 x (IntKind.u64.wrap (2 ^ (W - 1))) = sgI W x + 2 ^ (W - 1) := by
  have h64 := word_lt64 hW hxM
  obtain ⟨n, rfl⟩ := Int.eq_ofNat_of_zero_le hx
  obtain ⟨V, rfl⟩ : ∃ V, W = V + 1 := ⟨W - 1, by omega⟩
  rw [show V + 1 - 1 = V from by omega]
  have hle : 2 ^ V ≤ 9223372036854775808 := Nat.le_trans (Nat.pow_le_pow_right (by omega) (show V ≤ 63 by omega)) (by decide)
  have hw : IntKind.u64.wrap ((2 : Int) ^ V) = ((2 ^ V : Nat) : Int) := by
    rw [IntKind.wrap_u64, pow_nat]
    generalize 2 ^ V = T at *
    omega
  rw [hw, bits_xor_u64_nat _ _ (by omega) (by omega)]
  unfold sgI
  rw [show V + 1 - 1 = V from by omega]
  have hn : n < 2 ^ (V + 1) := by rw [pow_nat] at hxM; omega
  rw [Int.emod_eq_of_lt hx hxM, xor_top hn]
  rw [pow_nat, pow_nat]
  rw [Nat.pow_succ] at *
  split <;> split <;> omega

theorem m_21 {W : Nat} (hW : 1 ≤ W ∧ W ≤ 64) {x y : Int} (hx : 0 ≤ x) (hxM : x < 2 ^ W) (hy : 0 ≤ y) (hyM : y < 2 ^ W) :
    (if bits .xor .u64 x (IntKind.u64.wrap (2 ^ (W - 1))) < bits .xor .u64 y (IntKind.u64.wrap (2 ^ (W - 1))) then (1 : Int) else 0) % 2 ^ W = if sgI W x < sgI W y then 1 else 0 := by
  rw [one_mod hW.1, bits_top hW hx hxM, bits_top hW hy hyM]
  split <;> split <;> omega


end Go.Proofs.Ytmaogkgjiplckaa
