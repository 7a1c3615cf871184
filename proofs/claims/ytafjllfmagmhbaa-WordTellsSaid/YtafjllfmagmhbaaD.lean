import Derived.Test.YtafjllfmagmhbaaC
namespace Go.Proofs.Ytafjllfmagmhbaa
open Go.RowKit

def InW (M r : Int) : Prop := 0 ≤ r ∧ r < M
theorem ite_in {M a b : Int} {c : Prop} [Decidable c] (h1 : c → InW M a) (h2 : ¬ c → InW M b) : InW M (if c then a else b) := by
  by_cases h : c
  · rw [if_pos h]; exact h1 h
  · rw [if_neg h]; exact h2 h

theorem opI_in (op : Int) {W : Nat} (hW : 1 ≤ W) (X Y : Int) (hX0 : 0 ≤ X) (hX1 : X < 2 ^ W) (hY0 : 0 ≤ Y) (hY1 : Y < 2 ^ W) : InW (2 ^ W) (opI op W X Y) := by
  have hp : (0 : Int) < 2 ^ W := Int.pow_pos (by decide)
  have hp2 : (2 : Int) ≤ 2 ^ W := by
    have h := Nat.pow_le_pow_right (show 0 < 2 by omega) hW
    rw [pow_nat]; exact_mod_cast h
  have em : ∀ z : Int, InW (2 ^ W) (z % 2 ^ W) := fun z => ⟨Int.emod_nonneg _ (by omega), Int.emod_lt_of_pos _ hp⟩
  have hX : X.toNat < 2 ^ W := by rw [pow_nat] at hX1; omega
  have hY : Y.toNat < 2 ^ W := by rw [pow_nat] at hY1; omega
  have hn : ∀ n : Nat, n < 2 ^ W → InW (2 ^ W) (n : Int) := fun n h => ⟨by omega, by rw [pow_nat]; omega⟩
  have h01 : ∀ (c : Prop) [Decidable c], InW (2 ^ W) (if c then 1 else 0) := fun c _ => ite_in (fun _ => ⟨by omega, by omega⟩) (fun _ => ⟨by omega, by omega⟩)
  unfold opI
  refine ite_in (fun _ => ⟨by omega, by omega⟩) fun _ => ?_
  refine ite_in (fun _ => em _) fun _ => ?_
  refine ite_in (fun _ => em _) fun _ => ?_
  refine ite_in (fun _ => em _) fun _ => ?_
  refine ite_in (fun _ => ite_in (fun _ => ⟨by omega, by omega⟩) (fun _ => ?_)) fun _ => ?_
  · have h3 := Int.ediv_nonneg hX0 hY0
    have h4 : X / Y ≤ X := Int.ediv_le_self _ hX0
    exact ⟨h3, by omega⟩
  refine ite_in (fun _ => ?_) fun _ => ?_
  · by_cases h : Y = 0
    · subst h; rw [Int.emod_zero]; exact ⟨hX0, hX1⟩
    · have h3 := Int.emod_nonneg X h
      have h4 := Int.emod_lt_of_pos X (show 0 < Y by omega)
      exact ⟨h3, by omega⟩
  refine ite_in (fun _ => hn _ (Nat.and_lt_two_pow _ hY)) fun _ => ?_
  refine ite_in (fun _ => hn _ (Nat.or_lt_two_pow hX hY)) fun _ => ?_
  refine ite_in (fun _ => hn _ (Nat.xor_lt_two_pow hX hY)) fun _ => ?_
  refine ite_in (fun _ => em _) fun _ => ?_
  refine ite_in (fun _ => ?_) fun _ => ?_
  · have hq : (0 : Int) < 2 ^ Y.toNat := Int.pow_pos (by decide)
    have h3 := Int.ediv_nonneg hX0 (Int.le_of_lt hq)
    have h4 : X / 2 ^ Y.toNat ≤ X := Int.ediv_le_self _ hX0
    exact ⟨h3, by omega⟩
  refine ite_in (fun _ => em _) fun _ => ?_
  refine ite_in (fun _ => h01 _) fun _ => ?_
  refine ite_in (fun _ => h01 _) fun _ => ?_
  refine ite_in (fun _ => h01 _) fun _ => ?_
  exact ⟨by omega, hp⟩

theorem AP_lt (op a x y : Int) : 0 ≤ AP op a x y ∧ AP op a x y < 2 ^ wid a :=
  opI_in op (wid_bd a).1 _ _ (cut_lt a x).1 (cut_lt a x).2.1 (cut_lt a y).1 (cut_lt a y).2.1

theorem AP_cut (op a x y : Int) : AP op a x y % 2 ^ wid a = AP op a x y := Int.emod_eq_of_lt (AP_lt op a x y).1 (AP_lt op a x y).2

theorem div_zero1 (a x y : Int) (h : (y % 2 ^ wid a == 0) = true) : (AP 11 a x y == maskI a) = true ∧ (AP 12 a x y == x % 2 ^ wid a) = true := by
  have h0 : y % 2 ^ wid a = 0 := by simpa using h
  constructor
  · simp [AP, opI, h0, maskI]
  · simp [AP, opI, h0]

theorem div_pos1 (a x y : Int) (h : (y % 2 ^ wid a == 0) = false) :
    (AP 8 a (AP 10 a (AP 11 a x y) y) (AP 12 a x y) == x % 2 ^ wid a) = true ∧ AP 12 a x y < y % 2 ^ wid a ∧ AP 11 a x y ≤ x % 2 ^ wid a := by
  have h0 : ¬ y % 2 ^ wid a = 0 := by simpa using h
  have h1 := cut_lt a x
  have h2 := cut_lt a y
  refine ⟨?_, ?_, ?_⟩
  · have e10 : AP 10 a (AP 11 a x y) y = AP 11 a x y * (y % 2 ^ wid a) % 2 ^ wid a := by
      show AP 11 a x y % 2 ^ wid a * (y % 2 ^ wid a) % 2 ^ wid a = _
      rw [AP_cut]
    have e8 : AP 8 a (AP 10 a (AP 11 a x y) y) (AP 12 a x y) = (AP 10 a (AP 11 a x y) y + AP 12 a x y) % 2 ^ wid a := by
      show (AP 10 a (AP 11 a x y) y % 2 ^ wid a + AP 12 a x y % 2 ^ wid a) % 2 ^ wid a = _
      rw [AP_cut, AP_cut]
    have e11 : AP 11 a x y = x % 2 ^ wid a / (y % 2 ^ wid a) := by
      show (if y % 2 ^ wid a = 0 then _ else _) = _
      rw [if_neg h0]
    have e12 : AP 12 a x y = x % 2 ^ wid a % (y % 2 ^ wid a) := rfl
    rw [e8, e10, Int.emod_add_emod, e11, e12, Int.mul_comm, Int.mul_ediv_add_emod, Int.emod_emod]
    simp
  · exact Int.emod_lt_of_pos _ (by omega)
  · show (if y % 2 ^ wid a = 0 then _ else _) ≤ _
    rw [if_neg h0]
    exact Int.ediv_le_self _ h1.1

set_option maxHeartbeats 1000000 in
theorem divides_walk (a x y : Int) (w : World) : Calls Try.prog 5 #[.int .i64 a, .int .u64 x, .int .u64 y] w fun e w' => e = .returned (.bool true) ∧ Below w.heap.size w w' := by
  have HB := Below.refl w.heap.size w
  cases hy : (y % 2 ^ wid a == 0) with
  | true =>
    obtain ⟨k1, k2⟩ := div_zero1 a x y hy
    go_enter Try.func5, Try.ntmps5
    repeat (first | with_reducible refine xThenN ?_ | with_reducible refine xThenE ?_ | with_reducible refine xThenR ?_ | with_reducible refine xThenP ?_ | with_reducible refine xBlockEq ?_ | with_reducible refine xBlockNe rfl ?_ | with_reducible refine xBlockN ?_ | with_reducible refine xBlockR ?_ | with_reducible refine xBlockP ?_ | (go_at_call 9; with_reducible refine (awake_any _).mono ?_; rintro e w1 ⟨rfl, hb⟩; replace HB := HB.trans (hb.mono HB.size); clear hb) | (go_at_call 11; with_reducible refine (apply_any _ _ _ _ _).mono ?_; rintro e w1 ⟨rfl, hb⟩; replace HB := HB.trans (hb.mono HB.size); clear hb) | (go_at_call 14; with_reducible refine (cut_any _ _ _).mono ?_; rintro e w1 ⟨rfl, rfl⟩) | (go_at_call 13; with_reducible refine (mask_any _ _).mono ?_; rintro e w1 ⟨rfl, rfl⟩) | go_values | go_skip | go_guarded | go_step | go_upon | go_back | (dsimp only))
    go_ret
    exact ⟨rfl, HB⟩
  | false =>
    obtain ⟨k1, k2, k3⟩ := div_pos1 a x y hy
    go_enter Try.func5, Try.ntmps5
    repeat (first | with_reducible refine xThenN ?_ | with_reducible refine xThenE ?_ | with_reducible refine xThenR ?_ | with_reducible refine xThenP ?_ | with_reducible refine xBlockEq ?_ | with_reducible refine xBlockNe rfl ?_ | with_reducible refine xBlockN ?_ | with_reducible refine xBlockR ?_ | with_reducible refine xBlockP ?_ | (go_at_call 9; with_reducible refine (awake_any _).mono ?_; rintro e w1 ⟨rfl, hb⟩; replace HB := HB.trans (hb.mono HB.size); clear hb) | (go_at_call 11; with_reducible refine (apply_any _ _ _ _ _).mono ?_; rintro e w1 ⟨rfl, hb⟩; replace HB := HB.trans (hb.mono HB.size); clear hb) | (go_at_call 14; with_reducible refine (cut_any _ _ _).mono ?_; rintro e w1 ⟨rfl, rfl⟩) | (go_at_call 13; with_reducible refine (mask_any _ _).mono ?_; rintro e w1 ⟨rfl, rfl⟩) | go_values | go_skip | go_guarded | go_step | go_upon | go_back | (dsimp only))
    go_ret
    exact ⟨rfl, HB⟩

end Go.Proofs.Ytafjllfmagmhbaa
