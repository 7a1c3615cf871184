import Derived.Test.YtafjllfmagmhbaaD
namespace Go.Proofs.Ytafjllfmagmhbaa
open Go.RowKit

theorem AP_args (op a x y : Int) : AP op a (x % 2 ^ wid a) (y % 2 ^ wid a) = AP op a x y := by unfold AP; rw [Int.emod_emod, Int.emod_emod]
theorem cuts1 (op a x y : Int) : (AP op a x y != AP op a (x % 2 ^ wid a) (y % 2 ^ wid a)) = false := by rw [AP_args]; simp
theorem cuts2 (op a x y : Int) : AP op a x y ≤ maskI a := by have := (AP_lt op a x y).2; unfold maskI; omega

theorem mask_le {a v : Int} (h : maskI v ≤ maskI a) : wid v ≤ wid a := by
  unfold maskI at h
  rcases Nat.lt_or_ge (wid a) (wid v) with h1 | h1
  · have := Nat.pow_lt_pow_right (show 1 < 2 by omega) h1
    rw [pow_nat, pow_nat] at h
    omega
  · exact h1

theorem low_op (op : Int) {V W : Nat} (h : V ≤ W) (x y : Int) (hop : op = 5 ∨ op = 8 ∨ op = 9 ∨ op = 10 ∨ op = 13 ∨ op = 14 ∨ op = 15) :
    opI op W (x % 2 ^ W) (y % 2 ^ W) % 2 ^ V = opI op V (x % 2 ^ V) (y % 2 ^ V) := by
  have hd : ((2 : Int) ^ V) ∣ 2 ^ W := by
    rw [pow_nat, pow_nat]; exact Int.natCast_dvd_natCast.2 (Nat.pow_dvd_pow 2 h)
  have hm : ∀ z : Int, z % 2 ^ W % 2 ^ V = z % 2 ^ V := fun z => Int.emod_emod_of_dvd _ hd
  have hpV : (0 : Int) < 2 ^ V := Int.pow_pos (by decide)
  have hpW : (0 : Int) < 2 ^ W := Int.pow_pos (by decide)
  have nat : ∀ z : Int, ((z % 2 ^ W).toNat % 2 ^ V : Nat) = (z % 2 ^ V).toNat := fun z => by
    have h1 := hm z
    have h2 := Int.emod_nonneg z (show (2 : Int) ^ W ≠ 0 by omega)
    have h3 : (((z % 2 ^ W).toNat % 2 ^ V : Nat) : Int) = z % 2 ^ V := by
      rw [Int.natCast_emod, Int.toNat_of_nonneg h2, ← pow_nat, h1]
    omega
  rcases hop with rfl | rfl | rfl | rfl | rfl | rfl | rfl
  · show (2 ^ W - 1 - x % 2 ^ W) % 2 ^ V = 2 ^ V - 1 - x % 2 ^ V
    have h1 := Int.emod_nonneg x (show (2 : Int) ^ V ≠ 0 by omega)
    have h2 := Int.emod_lt_of_pos x hpV
    have e : (2 ^ W - 1 - x % 2 ^ W) % 2 ^ V = (2 ^ V - 1 - x % 2 ^ V) % 2 ^ V := by
      obtain ⟨K, hK⟩ := hd
      have e1 := Int.mul_ediv_add_emod x (2 ^ W)
      have e2 := Int.mul_ediv_add_emod x (2 ^ V)
      rw [hK] at e1 ⊢
      have : 2 ^ V * K - 1 - x % (2 ^ V * K) = (2 ^ V - 1 - x % 2 ^ V) + 2 ^ V * (K - 1 + K * (x / (2 ^ V * K)) - x / 2 ^ V) := by
        rw [Int.mul_sub, Int.mul_add, Int.mul_sub, ← Int.mul_assoc]
        omega
      rw [this, Int.add_mul_emod_self_left]
    rw [e, Int.emod_eq_of_lt (by omega) (by omega)]
  · show (x % 2 ^ W + y % 2 ^ W) % 2 ^ W % 2 ^ V = (x % 2 ^ V + y % 2 ^ V) % 2 ^ V
    rw [hm, Int.add_emod, hm, hm]
  · show (x % 2 ^ W - y % 2 ^ W) % 2 ^ W % 2 ^ V = (x % 2 ^ V - y % 2 ^ V) % 2 ^ V
    rw [hm, Int.sub_emod, hm, hm]
  · show x % 2 ^ W * (y % 2 ^ W) % 2 ^ W % 2 ^ V = x % 2 ^ V * (y % 2 ^ V) % 2 ^ V
    rw [hm, Int.mul_emod, hm, hm]
  · show (((x % 2 ^ W).toNat &&& (y % 2 ^ W).toNat : Nat) : Int) % 2 ^ V = (((x % 2 ^ V).toNat &&& (y % 2 ^ V).toNat : Nat) : Int)
    rw [pow_nat V, ← Int.natCast_emod, Nat.and_mod_two_pow, ← pow_nat, nat, nat]
  · show (((x % 2 ^ W).toNat ||| (y % 2 ^ W).toNat : Nat) : Int) % 2 ^ V = (((x % 2 ^ V).toNat ||| (y % 2 ^ V).toNat : Nat) : Int)
    rw [pow_nat V, ← Int.natCast_emod, Nat.or_mod_two_pow, ← pow_nat, nat, nat]
  · show (((x % 2 ^ W).toNat ^^^ (y % 2 ^ W).toNat : Nat) : Int) % 2 ^ V = (((x % 2 ^ V).toNat ^^^ (y % 2 ^ V).toNat : Nat) : Int)
    rw [pow_nat V, ← Int.natCast_emod, Nat.xor_mod_two_pow, ← pow_nat, nat, nat]

theorem cuts3 (op a v x y : Int) (h : maskI v ≤ maskI a) (hop : op = 5 ∨ op = 8 ∨ op = 9 ∨ op = 10 ∨ op = 13 ∨ op = 14 ∨ op = 15) : (AP op a x y % 2 ^ wid v == AP op v x y) = true := by
  unfold AP; rw [low_op op (mask_le h) x y hop]; simp

set_option maxRecDepth 100000 in
set_option maxHeartbeats 2000000 in
theorem cuts_low (op a v x y : Int) (w : World) (hop : op = 5 ∨ op = 8 ∨ op = 9 ∨ op = 10 ∨ op = 13 ∨ op = 14 ∨ op = 15) :
    Calls Try.prog 8 #[.int .i64 op, .int .i64 a, .int .i64 v, .int .u64 x, .int .u64 y] w fun e w' => e = .returned (.bool true) ∧ Below w.heap.size w w' := by
  have HB := Below.refl w.heap.size w
  have c1 := cuts1 op a x y
  have c2 := cuts2 op a x y
  rcases Int.lt_or_le (maskI a) (maskI v) with hm | hm
  · rcases hop with rfl | rfl | rfl | rfl | rfl | rfl | rfl
    all_goals
      go_enter Try.func8, Try.ntmps8
      (repeat (first | with_reducible refine xThenN ?_ | with_reducible refine xThenE ?_ | with_reducible refine xThenR ?_ | with_reducible refine xThenP ?_ | with_reducible refine xBlockEq ?_ | with_reducible refine xBlockNe rfl ?_ | with_reducible refine xBlockN ?_ | with_reducible refine xBlockR ?_ | with_reducible refine xBlockP ?_ | (go_at_call 9; with_reducible refine (awake_any _).mono ?_; rintro e w1 ⟨rfl, hb⟩; replace HB := HB.trans (hb.mono HB.size); clear hb) | (go_at_call 11; with_reducible refine (apply_any _ _ _ _ _).mono ?_; rintro e w1 ⟨rfl, hb⟩; replace HB := HB.trans (hb.mono HB.size); clear hb) | (go_at_call 14; with_reducible refine (cut_any _ _ _).mono ?_; rintro e w1 ⟨rfl, rfl⟩) | (go_at_call 13; with_reducible refine (mask_any _ _).mono ?_; rintro e w1 ⟨rfl, rfl⟩) | go_values | go_skip | go_guarded | go_step | go_upon | go_back | (dsimp only)))
      go_ret
      exact ⟨rfl, HB⟩
  · have c3 := cuts3 op a v x y hm hop
    rcases hop with rfl | rfl | rfl | rfl | rfl | rfl | rfl
    all_goals
      go_enter Try.func8, Try.ntmps8
      (repeat (first | with_reducible refine xThenN ?_ | with_reducible refine xThenE ?_ | with_reducible refine xThenR ?_ | with_reducible refine xThenP ?_ | with_reducible refine xBlockEq ?_ | with_reducible refine xBlockNe rfl ?_ | with_reducible refine xBlockN ?_ | with_reducible refine xBlockR ?_ | with_reducible refine xBlockP ?_ | (go_at_call 9; with_reducible refine (awake_any _).mono ?_; rintro e w1 ⟨rfl, hb⟩; replace HB := HB.trans (hb.mono HB.size); clear hb) | (go_at_call 11; with_reducible refine (apply_any _ _ _ _ _).mono ?_; rintro e w1 ⟨rfl, hb⟩; replace HB := HB.trans (hb.mono HB.size); clear hb) | (go_at_call 14; with_reducible refine (cut_any _ _ _).mono ?_; rintro e w1 ⟨rfl, rfl⟩) | (go_at_call 13; with_reducible refine (mask_any _ _).mono ?_; rintro e w1 ⟨rfl, rfl⟩) | go_values | go_skip | go_guarded | go_step | go_upon | go_back | (dsimp only)))
      go_ret
      exact ⟨rfl, HB⟩

set_option maxRecDepth 100000 in
set_option maxHeartbeats 2000000 in
theorem cuts_else (op a v x y : Int) (w : World) (h5 : (op == 5) = false) (h8 : (op == 8) = false) (h9 : (op == 9) = false) (h10 : (op == 10) = false) (h13 : (op == 13) = false) (h14 : (op == 14) = false) (h15 : (op == 15) = false) :
    Calls Try.prog 8 #[.int .i64 op, .int .i64 a, .int .i64 v, .int .u64 x, .int .u64 y] w fun e w' => e = .returned (.bool true) ∧ Below w.heap.size w w' := by
  have HB := Below.refl w.heap.size w
  have c1 := cuts1 op a x y
  have c2 := cuts2 op a x y
  go_enter Try.func8, Try.ntmps8
  (repeat (first | with_reducible refine xThenN ?_ | with_reducible refine xThenE ?_ | with_reducible refine xThenR ?_ | with_reducible refine xThenP ?_ | with_reducible refine xBlockEq ?_ | with_reducible refine xBlockNe rfl ?_ | with_reducible refine xBlockN ?_ | with_reducible refine xBlockR ?_ | with_reducible refine xBlockP ?_ | (go_at_call 9; with_reducible refine (awake_any _).mono ?_; rintro e w1 ⟨rfl, hb⟩; replace HB := HB.trans (hb.mono HB.size); clear hb) | (go_at_call 11; with_reducible refine (apply_any _ _ _ _ _).mono ?_; rintro e w1 ⟨rfl, hb⟩; replace HB := HB.trans (hb.mono HB.size); clear hb) | (go_at_call 14; with_reducible refine (cut_any _ _ _).mono ?_; rintro e w1 ⟨rfl, rfl⟩) | (go_at_call 13; with_reducible refine (mask_any _ _).mono ?_; rintro e w1 ⟨rfl, rfl⟩) | go_values | go_skip | go_guarded | go_step | go_upon | go_back | (dsimp only)))
  go_ret
  exact ⟨rfl, HB⟩

theorem cuts_walk (op a v x y : Int) (w : World) :
    Calls Try.prog 8 #[.int .i64 op, .int .i64 a, .int .i64 v, .int .u64 x, .int .u64 y] w fun e w' => e = .returned (.bool true) ∧ Below w.heap.size w w' := by
  by_cases h : op = 5 ∨ op = 8 ∨ op = 9 ∨ op = 10 ∨ op = 13 ∨ op = 14 ∨ op = 15
  · exact cuts_low op a v x y w h
  · simp only [not_or] at h
    obtain ⟨h5, h8, h9, h10, h13, h14, h15⟩ := h
    refine cuts_else op a v x y w ?_ ?_ ?_ ?_ ?_ ?_ ?_ <;> (simp only [beq_eq_false_iff_ne, ne_eq]; assumption)

/-! ### the shifts -/

def shU (a x : Int) (k : Nat) : Int := x % 2 ^ wid a * 2 ^ k % 2 ^ wid a
def shD (a x : Int) (k : Nat) : Int := x % 2 ^ wid a / 2 ^ k
def shS (a x : Int) (k : Nat) : Int := sgI (wid a) x / 2 ^ k

theorem shU_succ (a x : Int) (k : Nat) : AP 8 a (shU a x k) (shU a x k) = shU a x (k + 1) := by
  show (shU a x k % 2 ^ wid a + shU a x k % 2 ^ wid a) % 2 ^ wid a = _
  unfold shU
  rw [Int.emod_emod, ← Int.add_emod, Int.pow_succ, ← Int.mul_assoc]
  rw [show x % 2 ^ wid a * 2 ^ k * 2 = x % 2 ^ wid a * 2 ^ k + x % 2 ^ wid a * 2 ^ k by omega]

theorem div_pow_succ (z : Int) (k : Nat) : z / 2 ^ k / 2 = z / 2 ^ (k + 1) := by
  rw [Int.ediv_ediv_of_nonneg (Int.le_of_lt (Int.pow_pos (by decide))), Int.pow_succ]

theorem shD_bd (a x : Int) (k : Nat) : 0 ≤ shD a x k ∧ shD a x k < 18446744073709551616 := by
  have h := cut_lt a x
  have hp : (0 : Int) < 2 ^ k := Int.pow_pos (by decide)
  have h3 := Int.ediv_nonneg h.1 (Int.le_of_lt hp)
  have h4 : x % 2 ^ wid a / 2 ^ k ≤ x % 2 ^ wid a := Int.ediv_le_self _ h.1
  exact ⟨h3, by unfold shD; omega⟩

theorem shD_succ (a x : Int) (k : Nat) : IntKind.u64.wrap ((shD a x k).tdiv 2) = shD a x (k + 1) := by
  have h := shD_bd a x k
  rw [quo_m h.1 h.2 (by decide)]
  exact div_pow_succ _ k

theorem shS_succ (a x : Int) (k : Nat) : shS a x k / 2 = shS a x (k + 1) := div_pow_succ _ k

theorem shifts_end (a x n : Int) (k : Nat) (hk : (k : Int) = n % 2 ^ wid a) :
    (AP 16 a x n == shU a x k) = true ∧ (AP 17 a x n == shD a x k) = true ∧ (sgI (wid a) (AP 18 a x n) == shS a x k) = true := by
  have e : (n % 2 ^ wid a).toNat = k := by omega
  have hb := wid_bd a
  refine ⟨?_, ?_, ?_⟩
  · have : AP 16 a x n = shU a x k := by
      show x % 2 ^ wid a * 2 ^ (n % 2 ^ wid a).toNat % 2 ^ wid a = _
      rw [e]; rfl
    simp [this]
  · have : AP 17 a x n = shD a x k := by
      show x % 2 ^ wid a / 2 ^ (n % 2 ^ wid a).toNat = _
      rw [e]; rfl
    simp [this]
  · have : sgI (wid a) (AP 18 a x n) = shS a x k := by
      show sgI (wid a) (sgI (wid a) (x % 2 ^ wid a) / 2 ^ (n % 2 ^ wid a).toNat % 2 ^ wid a) = _
      rw [e, sgI_mod, sgI_mod]
      unfold shS
      have hs := sg_bd hb.1 x
      generalize sgI (wid a) x = s at *
      obtain ⟨V, hV⟩ : ∃ V, wid a = V + 1 := ⟨wid a - 1, by omega⟩
      rw [hV] at hs ⊢
      rw [show V + 1 - 1 = V from by omega] at hs
      have hp : (0 : Int) < 2 ^ k := Int.pow_pos (by decide)
      have hpV : (0 : Int) < 2 ^ V := Int.pow_pos (by decide)
      have b1 : s / 2 ^ k < 2 ^ V := by
        apply Int.ediv_lt_of_lt_mul hp
        have : (2 : Int) ^ V * 1 ≤ 2 ^ V * 2 ^ k := Int.mul_le_mul_of_nonneg_left (by omega) (by omega)
        omega
      have b2 : - 2 ^ V ≤ s / 2 ^ k := by
        apply Int.le_ediv_of_mul_le hp
        have : (2 : Int) ^ V * 1 ≤ 2 ^ V * 2 ^ k := Int.mul_le_mul_of_nonneg_left (by omega) (by omega)
        rw [Int.neg_mul]
        omega
      generalize s / 2 ^ k = t at *
      unfold sgI
      rw [show V + 1 - 1 = V from by omega]
      have hpc : ((2 : Int) ^ (V + 1)) = 2 * 2 ^ V := by rw [Int.pow_succ]; omega
      rw [hpc]
      generalize (2 : Int) ^ V = H at *
      rcases Int.lt_or_le t 0 with ht | ht
      · have : t % (2 * H) = t + 2 * H := by
          rw [← Int.add_mul_emod_self_left t (2 * H) 1, Int.mul_one, Int.emod_eq_of_lt (by omega) (by omega)]
        rw [this, if_pos (by omega)]; omega
      · rw [Int.emod_eq_of_lt ht (by omega), if_neg (by omega)]
    simp [this]

end Go.Proofs.Ytafjllfmagmhbaa
