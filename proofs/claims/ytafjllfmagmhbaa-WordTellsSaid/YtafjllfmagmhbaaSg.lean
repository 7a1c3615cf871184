import Derived.Test.YtafjllfmagmhbaaEq
set_option linter.unusedSimpArgs false
set_option linter.unusedVariables false
namespace Go.Proofs.Ytafjllfmagmhbaa
open Go.RowKit

theorem cast_lt {x W : Nat} (h : x < 2 ^ W) : (x : Int) < 2 ^ W := by rw [pow_nat]; exact Int.ofNat_lt.2 h
theorem cast_mod {x W : Nat} (h : x < 2 ^ W) : (x : Int) % 2 ^ W = x := Int.emod_eq_of_lt (Int.natCast_nonneg x) (cast_lt h)

theorem dv_sg {s : Int} {k : Nat} : s / 2 ^ k = 2 * (s / 2 ^ (k + 1)) + s / 2 ^ k % 2 := by
  rw [Int.pow_succ, ← Int.ediv_ediv_of_nonneg (Int.le_of_lt (Int.pow_pos (by decide)))]
  omega

theorem sg_nat {W x : Nat} (hx : x < 2 ^ W) : sgI W x = if 2 ^ (W - 1) ≤ x then (x : Int) - 2 ^ W else x := by
  unfold sgI
  rw [cast_mod hx, pow_nat (W - 1)]
  by_cases h : 2 ^ (W - 1) ≤ x
  · rw [if_pos h, if_pos (Int.ofNat_le.2 h)]
  · rw [if_neg h, if_neg (fun h' => h (Int.ofNat_le.1 h'))]

theorem bit_nat (x k : Nat) : ((x : Int) / 2 ^ k) % 2 = if x.testBit k then 1 else 0 := by
  rw [pow_nat, ← Int.natCast_ediv, Nat.testBit_eq_decide_div_mod_eq]
  generalize x / 2 ^ k = q
  rcases Nat.mod_two_eq_zero_or_one q with h | h <;> simp [h] <;> omega

theorem sg_bit {W x k : Nat} (hx : x < 2 ^ W) (hk : k < W) : sgI W x / 2 ^ k % 2 = if x.testBit k then 1 else 0 := by
  rw [sg_nat hx]
  split
  · obtain ⟨j, rfl⟩ : ∃ j, W = k + 1 + j := ⟨W - (k + 1), by omega⟩
    have e : (x : Int) - 2 ^ (k + 1 + j) = x + 2 ^ k * (-(2 * 2 ^ j)) := by
      rw [Int.pow_add, Int.pow_add, Int.pow_one, Int.mul_neg, Int.mul_assoc]; omega
    rw [e, Int.add_mul_ediv_left _ _ (Int.ne_of_gt (Int.pow_pos (by decide))), Int.add_emod, show -(2 * (2 : Int) ^ j) % 2 = 0 by omega, Int.add_zero, Int.emod_emod, bit_nat]
  · exact bit_nat x k

theorem sg_top {W x : Nat} (hW : 1 ≤ W) (hx : x < 2 ^ W) : sgI W x / 2 ^ W = if x.testBit (W - 1) then -1 else 0 := by
  have hb := sg_bd hW x
  have hs := sg_nat hx
  obtain ⟨V, rfl⟩ : ∃ V, W = V + 1 := ⟨W - 1, by omega⟩
  rw [show V + 1 - 1 = V from by omega] at *
  have hle : (2 : Int) ^ V ≤ 2 ^ (V + 1) := by
    rw [Int.pow_succ]
    have hp : (0 : Int) < 2 ^ V := Int.pow_pos (by decide)
    omega
  rw [div_small hle (Int.pow_pos (by decide)) hb.1 hb.2, Nat.testBit_eq_decide_div_mod_eq, hs]
  have hpn := Nat.pow_pos (n := V) (show 0 < 2 by omega)
  rw [pow_nat]
  rw [Nat.pow_succ] at *
  rcases Nat.lt_or_ge x (2 ^ V) with h | h
  · rw [Nat.div_eq_of_lt h, if_neg (show ¬ 2 ^ V ≤ x by omega), if_neg (by omega)]; simp
  · have : x / 2 ^ V = 1 := by
      rw [show x = (x - 2 ^ V) + 2 ^ V by omega, Nat.add_div_right _ hpn, Nat.div_eq_of_lt (by omega)]
    rw [this, if_pos h, if_pos (by omega)]; simp

theorem sg_rng {W x k : Nat} (hW0 : 1 ≤ W) (hW : W ≤ 64) : -9223372036854775808 ≤ sgI W x / 2 ^ k ∧ sgI W x / 2 ^ k ≤ 9223372036854775807 := by
  have hb := sg_bd hW0 x
  have h63 : (2 : Int) ^ (W - 1) ≤ 9223372036854775808 := by
    rw [pow_nat]
    have : 2 ^ (W - 1) ≤ 2 ^ 63 := Nat.pow_le_pow_right (by omega) (by omega)
    omega
  have hp : (1 : Int) ≤ 2 ^ k := Int.pow_pos (by decide)
  generalize sgI W x = s at *
  generalize (2 : Int) ^ k = P at *
  constructor
  · apply Int.le_ediv_of_mul_le (by omega)
    have : 9223372036854775808 * 1 ≤ 9223372036854775808 * P := Int.mul_le_mul_of_nonneg_left hp (by decide)
    rw [Int.neg_mul]; omega
  · have : s / P < 9223372036854775808 := by
      apply Int.ediv_lt_of_lt_mul (by omega)
      have : 9223372036854775808 * 1 ≤ 9223372036854775808 * P := Int.mul_le_mul_of_nonneg_left hp (by decide)
      omega
    omega

theorem sg_w {W x k : Nat} {n : Int} (hW0 : 1 ≤ W) (hW : W ≤ 64) (hx : x < 2 ^ W) (hk : k < W) (hn : n = sgI W x / 2 ^ (k + 1)) :
    (x.testBit k = true → wrap64 (wrap64 (n * 2) + 1) = sgI W x / 2 ^ k) ∧ (x.testBit k = false → wrap64 (n * 2) = sgI W x / 2 ^ k) := by
  have h1 := dv_sg (s := sgI W x) (k := k)
  have h2 := sg_bit hx hk
  have h3 := sg_rng (x := x) (k := k) hW0 hW
  rw [h2, ← hn] at h1
  unfold wrap64
  constructor
  · intro h; rw [if_pos h] at h1; omega
  · intro h; rw [if_neg (by simp [h])] at h1; omega

theorem of_anyX (W x X : Nat) (w : World) (hW : W ≤ 64) (hx : Hid (x < 18446744073709551616)) (hX : Hid (X = x % 2 ^ W)) :
    Calls Try.prog 16 #[.int .i64 W, .int .u64 x] w fun e w' => e = .returned (.agg (bw X)) ∧ Below w.heap.size w w' := by
  rw [hX.out]; exact of_any W x w hW hx

set_option maxRecDepth 100000 in
set_option maxHeartbeats 1000000 in
theorem rsign_any (a : Int) (x : Nat) (w : World) (hx : Hid (x < 18446744073709551616)) :
    Calls Try.prog 19 #[.int .i64 a, .int .u64 x] w fun e w' => e = .returned (.int .i64 (sgI (wid a) x)) ∧ Below w.heap.size w w' := by
  have hz := (zero_of_info zero29).1
  have hW0 := (wid_bd a).1
  have hW := (wid_bd a).2
  have hidx : (((wid a : Nat) : Int) - 1).toNat = wid a - 1 := by omega
  have c0 : (0 : Int) ≤ ((wid a : Nat) : Int) - 1 := by omega
  have c1 : ((wid a : Nat) : Int) - 1 < 64 := by omega
  have hXl : Hid (x % 2 ^ wid a < 2 ^ wid a) := Lib.hid (Nat.mod_lt _ (Nat.pow_pos (by omega)))
  have hsg : Hid (sgI (wid a) ((x % 2 ^ wid a : Nat) : Int) = sgI (wid a) x) := Lib.hid (by rw [Int.natCast_emod, ← pow_nat, sgI_mod])
  obtain ⟨X, hX⟩ : ∃ X, Hid (X = x % 2 ^ wid a) := ⟨_, rfl⟩
  rw [← hX.out] at hXl hsg
  cases ho : X.testBit (wid a - 1)
  all_goals
    have Ho := Lib.hid ho
    clear ho
    go_enter Try.func19, Try.ntmps19
    (repeat (first | with_reducible refine xThenN ?_ | with_reducible refine xThenE ?_ | with_reducible refine xThenR ?_ | with_reducible refine xThenP ?_ | with_reducible refine xBlockEq ?_ | with_reducible refine xBlockNe rfl ?_ | with_reducible refine xBlockN ?_ | with_reducible refine xBlockR ?_ | with_reducible refine xBlockP ?_ | (go_at_call 17; (with_reducible refine (rwidth_any _ _).mono ?_); rintro e w1 ⟨rfl, rfl⟩) | (go_at_call 16; (with_reducible refine (of_anyX _ _ X _ hW hx hX).mono ?_); rintro e w1 ⟨rfl, hb⟩) | ((with_reducible refine wl_id ?_); refine wl_storeL (mem1 w1 (bw 0) 29).1 0 _ _ rfl rfl _ _ rfl rfl rfl ?_; intro w2 HM hb2; (simp only [List.set_cons_zero] at HM); have hov := bitL HM 0 X rfl (wid a - 1) (by omega); rw [Ho.out] at hov; (simp only [Nat.add_zero] at hov); simp only [Act.put, List.setIfInBounds_toArray, List.set_cons_succ, List.set_cons_zero]) | go_values | go_skip | go_guarded | go_step | go_upon | go_back | (dsimp only)))
    have HB : Below w.heap.size w w2 := hb.trans (((((Below.refl _ _).alloc (Nat.le_refl _) _)).trans hb2).mono hb.size)
    clear hb hb2
    go_loopw [7, 8] (fun v i wr => ∃ (k : Nat) (n : Int), k ≤ wid a ∧ Hid (n = sgI (wid a) X / 2 ^ k) ∧ v = .int .i64 n ∧ i = .int .i64 ((k : Int) - 1) ∧ wr = w2) (fun _ i _ => (intOf i + 1).toNat)
    case atStart => exact ⟨wid a, _, by omega, Lib.hid (by rw [sg_top hW0 hXl.out, Ho.out]; rfl), rfl, rfl, rfl⟩
    case round =>
      obtain ⟨k, n, hk, hn, rfl, rfl, rfl⟩ := hrel
      rcases k with _ | k
      · (repeat (first | with_reducible refine xThenN ?_ | with_reducible refine xThenE ?_ | with_reducible refine xThenR ?_ | with_reducible refine xThenP ?_ | with_reducible refine xBlockEq ?_ | with_reducible refine xBlockNe rfl ?_ | with_reducible refine xBlockN ?_ | with_reducible refine xBlockR ?_ | with_reducible refine xBlockP ?_ | go_values | go_skip | go_guarded | go_step | go_upon | go_back | (dsimp only)))
        go_ret
        exact ⟨ret_int (by rw [hn.out, Int.pow_zero, Int.ediv_one, hsg.out]), HB⟩
      · have hbit := bitL HM 0 X rfl k (by omega)
        simp only [Nat.add_zero] at hbit
        have b0 : (0 : Int) ≤ k := by omega
        have b1 : (k : Int) < 64 := by omega
        have e1 : ((k + 1 : Nat) : Int) - 1 = k := by omega
        have Hw := Lib.hid (sg_w hW0 hW hXl.out (by omega) hn.out)
        cases hb : X.testBit k with
        | true =>
          rw [hb] at hbit
          have Hb := Lib.hid hb
          clear hb
          (repeat (first | with_reducible refine xThenN ?_ | with_reducible refine xThenE ?_ | with_reducible refine xThenR ?_ | with_reducible refine xThenP ?_ | with_reducible refine xBlockEq ?_ | with_reducible refine xBlockNe rfl ?_ | with_reducible refine xBlockN ?_ | with_reducible refine xBlockR ?_ | with_reducible refine xBlockP ?_ | go_values | go_skip | go_guarded | go_step | go_upon | go_back | (dsimp only)))
          exact ⟨⟨k, _, by omega, Lib.hid (Hw.out.1 Hb.out), rfl, rfl, rfl⟩, by simp [intOf]⟩
        | false =>
          rw [hb] at hbit
          have Hb := Lib.hid hb
          clear hb
          (repeat (first | with_reducible refine xThenN ?_ | with_reducible refine xThenE ?_ | with_reducible refine xThenR ?_ | with_reducible refine xThenP ?_ | with_reducible refine xBlockEq ?_ | with_reducible refine xBlockNe rfl ?_ | with_reducible refine xBlockN ?_ | with_reducible refine xBlockR ?_ | with_reducible refine xBlockP ?_ | go_values | go_skip | go_guarded | go_step | go_upon | go_back | (dsimp only)))
          exact ⟨⟨k, _, by omega, Lib.hid (Hw.out.2 Hb.out), rfl, rfl, rfl⟩, by simp [intOf]⟩

theorem wl_build29 {ops : Array Oper} {rest : List Oper} {o : Oper} {a : Act} {w : World} {Q : Exit → Act → World → Prop} (hgd : o.guard = none) (ho : o.op = .build 29 #[]) (h : wpList Try.prog ops Q rest (a.put o.dst (.agg (bw 0))) w) : wpList Try.prog ops Q (o :: rest) a w :=
  wpList_plain hgd fun _ hK => by
    unfold Oper.wp execOp
    have e : (#[] : Array (Nat × Operand)).map (fun p => (p.1, a.eval p.2)) = #[] := by simp
    simp only [ho, e, Sem.run_bind, build29 w, Result.andThen_ok]
    exact hK _ _ h

set_option maxHeartbeats 1000000 in
theorem rmask_any (a : Int) (w : World) :
    Calls Try.prog 10 #[.int .i64 a] w fun e w' => e = .returned (.int .u64 ((2 ^ wid a - 1 : Nat) : Int)) ∧ Below w.heap.size w w' := by
  have hW := (wid_bd a).2
  have hp := Nat.pow_pos (n := wid a) (show 0 < 2 by omega)
  have hl : Hid (2 ^ wid a - 1 < 18446744073709551616) := Lib.hid (lt_pow (by omega) hW)
  go_enter Try.func10, Try.ntmps10
  (repeat (first | with_reducible refine xThenN ?_ | with_reducible refine xThenE ?_ | with_reducible refine xThenR ?_ | with_reducible refine xThenP ?_ | with_reducible refine xBlockEq ?_ | with_reducible refine xBlockNe rfl ?_ | with_reducible refine xBlockN ?_ | with_reducible refine xBlockR ?_ | with_reducible refine xBlockP ?_ | ((with_reducible refine wl_id ?_); refine wl_build29 rfl rfl ?_; simp only [Act.put, List.setIfInBounds_toArray, List.set_cons_succ, List.set_cons_zero]) | (go_at_call 17; (with_reducible refine (rwidth_any _ _).mono ?_); rintro e w1 ⟨rfl, rfl⟩) | (go_at_call 24; (with_reducible refine (not_any _ _ _ hW).mono ?_); rintro e w1 ⟨rfl, hb⟩) | (go_at_call 15; (with_reducible refine (num_any _ _ (by assumption)).mono ?_); rintro e w2 ⟨rfl, hb2⟩) | go_values | go_skip | go_guarded | go_step | go_upon | go_back | (dsimp only)))
  go_ret
  exact ⟨ret_int rfl, hb.trans (hb2.mono hb.size)⟩

end Go.Proofs.Ytafjllfmagmhbaa
