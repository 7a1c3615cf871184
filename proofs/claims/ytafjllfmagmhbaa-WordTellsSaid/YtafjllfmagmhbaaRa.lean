import Derived.Test.YtafjllfmagmhbaaRm
set_option linter.unusedSimpArgs false
set_option linter.unusedVariables false
namespace Go.Proofs.Ytafjllfmagmhbaa
open Go.RowKit

section
variable {ops : Array Oper} {rest : List Oper} {o : Oper} {a : Act} {w W : World} {Q : Exit → Act → World → Prop} {B : Nat} {l : List (Array Value × TypeId)} {K : Act → Prop}
theorem quiet_bitX (HM : MemL W B l) (i n : Nat) (hi : l[i]? = some (bw n, 29)) (k : Nat) (h64 : k < 64) (b : Bool) (hb : Hid (n.testBit k = b)) (x : Operand) (ho : o.op = .load 4 x) (hx : a.eval x = .pointer (some ⟨B + i, k, none⟩)) (hk : K (a.put o.dst (.bool b))) : o.quiet Try.prog a (Cls W) K :=
  quiet_load 4 x ho _ hx _ (fun w hw => (bitL (HM.below hw) i n hi k h64).trans (by rw [hb.out])) (fun w h => ld4 w _ _ h) hk
end

theorem o_none (op : Int) (W : Nat) (X Y : Int) (h5 : (op == 5) = false) (h8 : (op == 8) = false) (h9 : (op == 9) = false) (h10 : (op == 10) = false) (h11 : (op == 11) = false) (h12 : (op == 12) = false) (h13 : (op == 13) = false) (h14 : (op == 14) = false) (h15 : (op == 15) = false) (h16 : (op == 16) = false) (h17 : (op == 17) = false) (h18 : (op == 18) = false) (h19 : (op == 19) = false) (h20 : (op == 20) = false) (h21 : (op == 21) = false) : opI op W X Y = 0 := by
  simp only [beq_eq_false_iff_ne] at *
  unfold opI
  rw [if_neg h5, if_neg h8, if_neg h9, if_neg h10, if_neg h11, if_neg h12, if_neg h13, if_neg h14, if_neg h15, if_neg h16, if_neg h17, if_neg h18, if_neg h19, if_neg h20, if_neg h21]

theorem eqv {P : Program} {N : Nat} {args : Array Value} {w : World} {n r B : Nat} (hr : Hid (r = n))
    (h : Calls P N args w fun e w' => e = .returned (.agg (bw n)) ∧ Below B w w') : Calls P N args w fun e w' => e = .returned (.agg (bw r)) ∧ Below B w w' := by
  rw [hr.out]; exact h

theorem div_anyX (W x y q r : Nat) (w : World) (hW0 : 1 ≤ W) (hW : W ≤ 64) (hx : Hid (x < 2 ^ W)) (hy : Hid (y < 2 ^ W)) (hq : Hid (q = if y = 0 then 2 ^ W - 1 else x / y)) (hr : Hid (r = x % y)) :
    Calls Try.prog 32 #[.int .i64 W, .agg (bw x), .agg (bw y)] w fun e w' => e = .returned (.tuple #[.agg (bw q), .agg (bw r)]) ∧ Below w.heap.size w w' := by
  rw [hq.out, hr.out]
  by_cases h : y = 0
  · subst h
    rw [if_pos rfl, Nat.mod_zero]
    exact div_zero W x w hW
  · rw [if_neg h]
    exact div_pos W x y w hW0 hW hx hy (by omega)

set_option maxRecDepth 100000 in
set_option maxHeartbeats 4000000 in
theorem rapply_any (op a : Int) (x y : Nat) (w : World) (hx : Hid (x < 18446744073709551616)) (hy : Hid (y < 18446744073709551616)) :
    Calls Try.prog 12 #[.int .i64 op, .int .i64 a, .int .u64 x, .int .u64 y] w fun e w' => e = .returned (.int .u64 (AP op a x y)) ∧ Below w.heap.size w w' := by
  have hz := (zero_of_info zero29).1
  have hW0 := (wid_bd a).1
  have hW := (wid_bd a).2
  have hp := Nat.pow_pos (n := wid a) (show 0 < 2 by omega)
  have hAP : Hid (AP op a x y = opI op (wid a) ((x % 2 ^ wid a : Nat) : Int) ((y % 2 ^ wid a : Nat) : Int)) := Lib.hid (by rw [Int.natCast_emod, Int.natCast_emod, ← pow_nat]; rfl)
  have hXl : Hid (x % 2 ^ wid a < 2 ^ wid a) := Lib.hid (Nat.mod_lt _ hp)
  have hYl : Hid (y % 2 ^ wid a < 2 ^ wid a) := Lib.hid (Nat.mod_lt _ hp)
  obtain ⟨X, hX⟩ : ∃ X, Hid (X = x % 2 ^ wid a) := ⟨_, Lib.hid rfl⟩
  obtain ⟨Y, hY⟩ : ∃ Y, Hid (Y = y % 2 ^ wid a) := ⟨_, Lib.hid rfl⟩
  rw [← hX.out, ← hY.out] at hAP
  rw [← hX.out] at hXl
  rw [← hY.out] at hYl
  obtain ⟨q, hq⟩ : ∃ q, Hid (q = if Y = 0 then 2 ^ wid a - 1 else X / Y) := ⟨_, Lib.hid rfl⟩
  obtain ⟨r, hr⟩ : ∃ r, Hid (r = X % Y) := ⟨_, Lib.hid rfl⟩
  have hql : Hid (q < 2 ^ wid a) := Lib.hid (by
    rw [hq.out]
    split
    · omega
    · exact Nat.lt_of_le_of_lt (Nat.div_le_self _ _) hXl.out)
  have hrl : Hid (r < 2 ^ wid a) := Lib.hid (by
    rw [hr.out]; exact Nat.lt_of_le_of_lt (Nat.mod_le _ _) hXl.out)
  have HB := Below.refl w.heap.size w
  clear hp
  go_enter Try.func12, Try.ntmps12
  (repeat (first | with_reducible refine xThenN ?_ | with_reducible refine xThenE ?_ | with_reducible refine xThenR ?_ | with_reducible refine xThenP ?_ | with_reducible refine xBlockEq ?_ | with_reducible refine xBlockNe rfl ?_ | with_reducible refine xBlockN ?_ | with_reducible refine xBlockR ?_ | with_reducible refine xBlockP ?_ | (go_at_call 17; (with_reducible refine (rwidth_any _ _).mono ?_); rintro e w1 ⟨rfl, rfl⟩) | (go_at_call 16; (with_reducible refine (of_anyX _ _ _ _ hW (by assumption) (by assumption)).mono ?_); rintro e w1 ⟨rfl, hb⟩; replace HB := HB.trans (hb.mono HB.size); clear hb) | (go_at_call 32; (with_reducible refine (div_anyX _ _ _ _ _ _ hW0 hW (by assumption) (by assumption) (by assumption) (by assumption)).mono ?_); rintro e w5 ⟨rfl, hb⟩; replace HM := HM.below hb; replace HB := HB.trans (hb.mono HB.size); clear hb) | ((with_reducible refine wl_id ?_); refine wl_storeL HM 1 _ _ rfl rfl _ _ rfl rfl rfl ?_; intro w9 HM1 hb; (simp only [List.set_cons_succ, List.set_cons_zero] at HM1); clear HM; have HM := HM1; clear HM1; replace HB := HB.trans (hb.mono hsz1); clear hb; simp only [Act.put, List.setIfInBounds_toArray, List.set_cons_succ, List.set_cons_zero]) | ((with_reducible refine wl_id ?_); refine wl_storeL (mem2 w1 (bw 0) (bw 0) 29 29).1 0 _ _ rfl rfl _ _ rfl rfl rfl ?_; intro w6 HM hb6; (simp only [List.set_cons_succ, List.set_cons_zero] at HM); have hsz1 := HB.size; have hb7 : Below w1.heap.size w1 w6 := (((Below.refl _ _).alloc (Nat.le_refl _) _).alloc (by simp) _).trans hb6; replace HB := HB.trans (hb7.mono HB.size); clear hb6 hb7; simp only [Act.put, List.setIfInBounds_toArray, List.set_cons_succ, List.set_cons_zero]) | ((with_reducible refine wl_id ?_); refine wl_loadL HM 0 _ rfl rfl _ rfl rfl ?_; simp only [Act.put, List.setIfInBounds_toArray, List.set_cons_succ, List.set_cons_zero]) | ((with_reducible refine wl_id ?_); refine wl_loadL HM 1 _ rfl rfl _ rfl rfl ?_; simp only [Act.put, List.setIfInBounds_toArray, List.set_cons_succ, List.set_cons_zero]) | ((with_reducible refine wl_id ?_); refine wl_storeL HN 1 _ _ rfl rfl _ _ rfl rfl rfl ?_; intro w9 HN1 hb; (simp only [List.set_cons_succ, List.set_cons_zero] at HN1); clear HN; have HN := HN1; clear HN1; replace HM := HM.under hb hsz; replace HB := HB.trans (hb.mono hsz2); clear hb; simp only [Act.put, List.setIfInBounds_toArray, List.set_cons_succ, List.set_cons_zero]) | ((with_reducible refine wl_id ?_); refine wl_storeL (mem2 w5 (bw 0) (bw 0) 29 29).1 0 _ _ rfl rfl _ _ rfl rfl rfl ?_; intro w6 HN hb6; (simp only [List.set_cons_succ, List.set_cons_zero] at HN); have hb7 : Below w5.heap.size w5 w6 := (((Below.refl _ _).alloc (Nat.le_refl _) _).alloc (by simp) _).trans hb6; have hsz := HM.size; have hsz2 := HB.size; replace HM := HM.below hb7; replace HB := HB.trans (hb7.mono HB.size); clear hb6 hb7; simp only [Act.put, List.setIfInBounds_toArray, List.set_cons_succ, List.set_cons_zero]) | go_values | go_skip | go_guarded | go_step | go_upon | go_back | (dsimp only)))
  · obtain rfl : op = 5 := by simpa using (by assumption : (op == 5) = true)
    have hp := Nat.pow_pos (n := wid a) (show 0 < 2 by omega)
    obtain ⟨s, hs⟩ : ∃ s, Hid (s = 2 ^ wid a - 1 - X % 2 ^ wid a) := ⟨_, Lib.hid rfl⟩
    have hsW : Hid (s < 2 ^ wid a) := Lib.hid (by rw [hs.out]; omega)
    have hsl : Hid (s < 18446744073709551616) := Lib.hid (lt_pow hsW.out hW)
    clear hp hsW
    (repeat (first | with_reducible refine xThenN ?_ | with_reducible refine xThenE ?_ | with_reducible refine xThenR ?_ | with_reducible refine xThenP ?_ | with_reducible refine xBlockEq ?_ | with_reducible refine xBlockNe rfl ?_ | with_reducible refine xBlockN ?_ | with_reducible refine xBlockR ?_ | with_reducible refine xBlockP ?_ | ((with_reducible refine wl_id ?_); refine wl_loadL HM 0 _ rfl rfl _ rfl rfl ?_; simp only [Act.put, List.setIfInBounds_toArray, List.set_cons_succ, List.set_cons_zero]) | ((with_reducible refine wl_id ?_); refine wl_loadL HM 1 _ rfl rfl _ rfl rfl ?_; simp only [Act.put, List.setIfInBounds_toArray, List.set_cons_succ, List.set_cons_zero]) | (go_at_call 24; (with_reducible refine (eqv (by assumption) (not_any _ _ _ hW)).mono ?_); rintro e w1 ⟨rfl, hb⟩; (replace HM := HM.below hb; replace HN := HN.below hb; replace HB := HB.trans (hb.mono HB.size); clear hb)) | (go_at_call 15; (with_reducible refine (num_any _ _ (by assumption)).mono ?_); rintro e w1 ⟨rfl, hb⟩; (replace HM := HM.below hb; replace HN := HN.below hb; replace HB := HB.trans (hb.mono HB.size); clear hb)) | go_values | go_skip | go_guarded | go_step | go_upon | go_back | (dsimp only)))
    go_ret
    exact ⟨ret_int (by rw [hAP.out, ← o_5 hXl.out hs.out]), HB⟩
  by_cases e8 : op = 8
  · subst e8
    have hp := Nat.pow_pos (n := wid a) (show 0 < 2 by omega)
    obtain ⟨s, hs⟩ : ∃ s, Hid (s = (X + Y + false.toNat) % 2 ^ wid a) := ⟨_, Lib.hid rfl⟩
    have hsW : Hid (s < 2 ^ wid a) := Lib.hid (by rw [hs.out]; exact Nat.mod_lt _ hp)
    have hsl : Hid (s < 18446744073709551616) := Lib.hid (lt_pow hsW.out hW)
    clear hp hsW
    (repeat (first | with_reducible refine xThenN ?_ | with_reducible refine xThenE ?_ | with_reducible refine xThenR ?_ | with_reducible refine xThenP ?_ | with_reducible refine xBlockEq ?_ | with_reducible refine xBlockNe rfl ?_ | with_reducible refine xBlockN ?_ | with_reducible refine xBlockR ?_ | with_reducible refine xBlockP ?_ | ((with_reducible refine wl_id ?_); refine wl_loadL HM 0 _ rfl rfl _ rfl rfl ?_; simp only [Act.put, List.setIfInBounds_toArray, List.set_cons_succ, List.set_cons_zero]) | ((with_reducible refine wl_id ?_); refine wl_loadL HM 1 _ rfl rfl _ rfl rfl ?_; simp only [Act.put, List.setIfInBounds_toArray, List.set_cons_succ, List.set_cons_zero]) | (go_at_call 33; (with_reducible refine (eqv (by assumption) (add_ref _ _ _ _ _ hW (by assumption) (by assumption))).mono ?_); rintro e w1 ⟨rfl, hb⟩; (replace HM := HM.below hb; replace HN := HN.below hb; replace HB := HB.trans (hb.mono HB.size); clear hb)) | (go_at_call 15; (with_reducible refine (num_any _ _ (by assumption)).mono ?_); rintro e w1 ⟨rfl, hb⟩; (replace HM := HM.below hb; replace HN := HN.below hb; replace HB := HB.trans (hb.mono HB.size); clear hb)) | go_values | go_skip | go_guarded | go_step | go_upon | go_back | (dsimp only)))
    go_ret
    exact ⟨ret_int (by rw [hAP.out, ← o_8 hs.out]), HB⟩
  have f8 : (op == 8) = false := by simpa using e8
  clear e8
  by_cases e9 : op = 9
  · subst e9
    have hp := Nat.pow_pos (n := wid a) (show 0 < 2 by omega)
    obtain ⟨n, hn⟩ : ∃ n, Hid (n = 2 ^ wid a - 1 - Y % 2 ^ wid a) := ⟨_, Lib.hid rfl⟩
    have hnl : Hid (n < 2 ^ wid a) := Lib.hid (by rw [hn.out]; omega)
    obtain ⟨s, hs⟩ : ∃ s, Hid (s = (X + n + true.toNat) % 2 ^ wid a) := ⟨_, Lib.hid rfl⟩
    have hsW : Hid (s < 2 ^ wid a) := Lib.hid (by rw [hs.out]; exact Nat.mod_lt _ hp)
    have hsl : Hid (s < 18446744073709551616) := Lib.hid (lt_pow hsW.out hW)
    clear hp hsW
    (repeat (first | with_reducible refine xThenN ?_ | with_reducible refine xThenE ?_ | with_reducible refine xThenR ?_ | with_reducible refine xThenP ?_ | with_reducible refine xBlockEq ?_ | with_reducible refine xBlockNe rfl ?_ | with_reducible refine xBlockN ?_ | with_reducible refine xBlockR ?_ | with_reducible refine xBlockP ?_ | go_values | go_skip | go_guarded | go_step | go_upon | go_back | (dsimp only)))
    refine wp_region_cls (by kernel_rfl) (by kernel_rfl) ?_
    (repeat (first | go_big_quiet_skip | (go_big_quiet_want; first | (refine quiet_loadL HM 0 _ rfl _ rfl rfl ?_; simp only [Act.put, List.setIfInBounds_toArray, List.set_cons_succ, List.set_cons_zero]; go_big_quiet_on) | (refine quiet_loadL HM 1 _ rfl _ rfl rfl ?_; simp only [Act.put, List.setIfInBounds_toArray, List.set_cons_succ, List.set_cons_zero]; go_big_quiet_on) | (refine quiet_bitX HM 0 _ rfl (wid a - 1) (by omega) _ hb' _ rfl rfl ?_; simp only [Act.put, List.setIfInBounds_toArray, List.set_cons_succ, List.set_cons_zero]; go_big_quiet_on) | (refine quiet_bitX HM 1 _ rfl (wid a - 1) (by omega) _ hc' _ rfl rfl ?_; simp only [Act.put, List.setIfInBounds_toArray, List.set_cons_succ, List.set_cons_zero]; go_big_quiet_on) | (go_big_quiet_op; first | go_big_quiet_on | (refine Exists.intro _ (And.intro (fun _ _ => rfl) ?_); go_big_quiet_on) | go_big_quiet_call (((intro hC; replace hC : Below _ _ _ := hC); first | (go_at_call 24; (with_reducible refine (eqv (by assumption) (not_any _ _ _ hW)).mono ?_); (rintro e w2 ⟨rfl, hb⟩; exact ⟨rfl, hC.trans (hb.mono hC.size)⟩)) | (go_at_call 33; (with_reducible refine (eqv (by assumption) (add_ref _ _ _ _ _ hW (by assumption) (by assumption))).mono ?_); (rintro e w2 ⟨rfl, hb⟩; exact ⟨rfl, hC.trans (hb.mono hC.size)⟩)) | (go_at_call 15; (with_reducible refine (num_any _ _ (by assumption)).mono ?_); (rintro e w2 ⟨rfl, hb⟩; exact ⟨rfl, hC.trans (hb.mono hC.size)⟩))))))))
    refine wpQuiet_nil ?_
    intro w8 hb
    replace hb : Below _ _ _ := hb
    (replace HM := HM.below hb; replace HN := HN.below hb; replace HB := HB.trans (hb.mono HB.size); clear hb)
    (repeat (first | with_reducible refine xThenN ?_ | with_reducible refine xThenE ?_ | with_reducible refine xThenR ?_ | with_reducible refine xThenP ?_ | with_reducible refine xBlockEq ?_ | with_reducible refine xBlockNe rfl ?_ | with_reducible refine xBlockN ?_ | with_reducible refine xBlockR ?_ | with_reducible refine xBlockP ?_ | go_values | go_skip | go_guarded | go_step | go_upon | go_back | (dsimp only)))
    go_ret
    exact ⟨ret_int (by rw [hAP.out, ← o_9 hYl.out hn.out hs.out]), HB⟩
  have f9 : (op == 9) = false := by simpa using e9
  clear e9
  by_cases e10 : op = 10
  · subst e10
    have hp := Nat.pow_pos (n := wid a) (show 0 < 2 by omega)
    obtain ⟨s, hs⟩ : ∃ s, Hid (s = X * Y % 2 ^ wid a) := ⟨_, Lib.hid rfl⟩
    have hsW : Hid (s < 2 ^ wid a) := Lib.hid (by rw [hs.out]; exact Nat.mod_lt _ hp)
    have hsl : Hid (s < 18446744073709551616) := Lib.hid (lt_pow hsW.out hW)
    clear hp hsW
    (repeat (first | with_reducible refine xThenN ?_ | with_reducible refine xThenE ?_ | with_reducible refine xThenR ?_ | with_reducible refine xThenP ?_ | with_reducible refine xBlockEq ?_ | with_reducible refine xBlockNe rfl ?_ | with_reducible refine xBlockN ?_ | with_reducible refine xBlockR ?_ | with_reducible refine xBlockP ?_ | ((with_reducible refine wl_id ?_); refine wl_loadL HM 0 _ rfl rfl _ rfl rfl ?_; simp only [Act.put, List.setIfInBounds_toArray, List.set_cons_succ, List.set_cons_zero]) | ((with_reducible refine wl_id ?_); refine wl_loadL HM 1 _ rfl rfl _ rfl rfl ?_; simp only [Act.put, List.setIfInBounds_toArray, List.set_cons_succ, List.set_cons_zero]) | (go_at_call 34; (with_reducible refine (eqv (by assumption) (mul_ref _ _ _ _ hW0 hW (by assumption) (by assumption))).mono ?_); rintro e w1 ⟨rfl, hb⟩; (replace HM := HM.below hb; replace HN := HN.below hb; replace HB := HB.trans (hb.mono HB.size); clear hb)) | (go_at_call 15; (with_reducible refine (num_any _ _ (by assumption)).mono ?_); rintro e w1 ⟨rfl, hb⟩; (replace HM := HM.below hb; replace HN := HN.below hb; replace HB := HB.trans (hb.mono HB.size); clear hb)) | go_values | go_skip | go_guarded | go_step | go_upon | go_back | (dsimp only)))
    go_ret
    exact ⟨ret_int (by rw [hAP.out, ← o_10 hs.out]), HB⟩
  have f10 : (op == 10) = false := by simpa using e10
  clear e10
  by_cases e11 : op = 11
  · subst e11
    have hsl : Hid (q < 18446744073709551616) := Lib.hid (lt_pow hql.out hW)
    (repeat (first | with_reducible refine xThenN ?_ | with_reducible refine xThenE ?_ | with_reducible refine xThenR ?_ | with_reducible refine xThenP ?_ | with_reducible refine xBlockEq ?_ | with_reducible refine xBlockNe rfl ?_ | with_reducible refine xBlockN ?_ | with_reducible refine xBlockR ?_ | with_reducible refine xBlockP ?_ | ((with_reducible refine wl_id ?_); refine wl_loadL HN 0 _ rfl rfl _ rfl rfl ?_; simp only [Act.put, List.setIfInBounds_toArray, List.set_cons_succ, List.set_cons_zero]) | (go_at_call 15; (with_reducible refine (num_any _ _ (by assumption)).mono ?_); rintro e w1 ⟨rfl, hb⟩; (replace HM := HM.below hb; replace HN := HN.below hb; replace HB := HB.trans (hb.mono HB.size); clear hb)) | go_values | go_skip | go_guarded | go_step | go_upon | go_back | (dsimp only)))
    go_ret
    exact ⟨ret_int (by rw [hAP.out, ← o_11 hq.out]), HB⟩
  have f11 : (op == 11) = false := by simpa using e11
  clear e11
  by_cases e12 : op = 12
  · subst e12
    have hsl : Hid (r < 18446744073709551616) := Lib.hid (lt_pow hrl.out hW)
    (repeat (first | with_reducible refine xThenN ?_ | with_reducible refine xThenE ?_ | with_reducible refine xThenR ?_ | with_reducible refine xThenP ?_ | with_reducible refine xBlockEq ?_ | with_reducible refine xBlockNe rfl ?_ | with_reducible refine xBlockN ?_ | with_reducible refine xBlockR ?_ | with_reducible refine xBlockP ?_ | ((with_reducible refine wl_id ?_); refine wl_loadL HN 1 _ rfl rfl _ rfl rfl ?_; simp only [Act.put, List.setIfInBounds_toArray, List.set_cons_succ, List.set_cons_zero]) | (go_at_call 15; (with_reducible refine (num_any _ _ (by assumption)).mono ?_); rintro e w1 ⟨rfl, hb⟩; (replace HM := HM.below hb; replace HN := HN.below hb; replace HB := HB.trans (hb.mono HB.size); clear hb)) | go_values | go_skip | go_guarded | go_step | go_upon | go_back | (dsimp only)))
    go_ret
    exact ⟨ret_int (by rw [hAP.out, ← o_12 hr.out]), HB⟩
  have f12 : (op == 12) = false := by simpa using e12
  clear e12
  by_cases e13 : op = 13
  · subst e13
    obtain ⟨s, hs⟩ : ∃ s, Hid (s = X &&& Y) := ⟨_, Lib.hid rfl⟩
    have hsW : Hid (s < 2 ^ wid a) := Lib.hid (by rw [hs.out]; exact Nat.and_lt_two_pow _ hYl.out)
    have hsl : Hid (s < 18446744073709551616) := Lib.hid (lt_pow hsW.out hW)
    clear hsW
    (repeat (first | with_reducible refine xThenN ?_ | with_reducible refine xThenE ?_ | with_reducible refine xThenR ?_ | with_reducible refine xThenP ?_ | with_reducible refine xBlockEq ?_ | with_reducible refine xBlockNe rfl ?_ | with_reducible refine xBlockN ?_ | with_reducible refine xBlockR ?_ | with_reducible refine xBlockP ?_ | ((with_reducible refine wl_id ?_); refine wl_loadL HM 0 _ rfl rfl _ rfl rfl ?_; simp only [Act.put, List.setIfInBounds_toArray, List.set_cons_succ, List.set_cons_zero]) | ((with_reducible refine wl_id ?_); refine wl_loadL HM 1 _ rfl rfl _ rfl rfl ?_; simp only [Act.put, List.setIfInBounds_toArray, List.set_cons_succ, List.set_cons_zero]) | (go_at_call 35; (with_reducible refine (eqv (by assumption) (bitwise_13 _ _ _ _ hW (by assumption) (by assumption))).mono ?_); rintro e w1 ⟨rfl, hb⟩; (replace HM := HM.below hb; replace HN := HN.below hb; replace HB := HB.trans (hb.mono HB.size); clear hb)) | (go_at_call 15; (with_reducible refine (num_any _ _ (by assumption)).mono ?_); rintro e w1 ⟨rfl, hb⟩; (replace HM := HM.below hb; replace HN := HN.below hb; replace HB := HB.trans (hb.mono HB.size); clear hb)) | go_values | go_skip | go_guarded | go_step | go_upon | go_back | (dsimp only)))
    go_ret
    exact ⟨ret_int (by rw [hAP.out, ← o_13 hs.out]), HB⟩
  have f13 : (op == 13) = false := by simpa using e13
  clear e13
  by_cases e14 : op = 14
  · subst e14
    obtain ⟨s, hs⟩ : ∃ s, Hid (s = X ||| Y) := ⟨_, Lib.hid rfl⟩
    have hsW : Hid (s < 2 ^ wid a) := Lib.hid (by rw [hs.out]; exact Nat.or_lt_two_pow hXl.out hYl.out)
    have hsl : Hid (s < 18446744073709551616) := Lib.hid (lt_pow hsW.out hW)
    clear hsW
    (repeat (first | with_reducible refine xThenN ?_ | with_reducible refine xThenE ?_ | with_reducible refine xThenR ?_ | with_reducible refine xThenP ?_ | with_reducible refine xBlockEq ?_ | with_reducible refine xBlockNe rfl ?_ | with_reducible refine xBlockN ?_ | with_reducible refine xBlockR ?_ | with_reducible refine xBlockP ?_ | ((with_reducible refine wl_id ?_); refine wl_loadL HM 0 _ rfl rfl _ rfl rfl ?_; simp only [Act.put, List.setIfInBounds_toArray, List.set_cons_succ, List.set_cons_zero]) | ((with_reducible refine wl_id ?_); refine wl_loadL HM 1 _ rfl rfl _ rfl rfl ?_; simp only [Act.put, List.setIfInBounds_toArray, List.set_cons_succ, List.set_cons_zero]) | (go_at_call 35; (with_reducible refine (eqv (by assumption) (bitwise_14 _ _ _ _ hW (by assumption) (by assumption))).mono ?_); rintro e w1 ⟨rfl, hb⟩; (replace HM := HM.below hb; replace HN := HN.below hb; replace HB := HB.trans (hb.mono HB.size); clear hb)) | (go_at_call 15; (with_reducible refine (num_any _ _ (by assumption)).mono ?_); rintro e w1 ⟨rfl, hb⟩; (replace HM := HM.below hb; replace HN := HN.below hb; replace HB := HB.trans (hb.mono HB.size); clear hb)) | go_values | go_skip | go_guarded | go_step | go_upon | go_back | (dsimp only)))
    go_ret
    exact ⟨ret_int (by rw [hAP.out, ← o_14 hs.out]), HB⟩
  have f14 : (op == 14) = false := by simpa using e14
  clear e14
  by_cases e15 : op = 15
  · subst e15
    obtain ⟨s, hs⟩ : ∃ s, Hid (s = X ^^^ Y) := ⟨_, Lib.hid rfl⟩
    have hsW : Hid (s < 2 ^ wid a) := Lib.hid (by rw [hs.out]; exact Nat.xor_lt_two_pow hXl.out hYl.out)
    have hsl : Hid (s < 18446744073709551616) := Lib.hid (lt_pow hsW.out hW)
    clear hsW
    (repeat (first | with_reducible refine xThenN ?_ | with_reducible refine xThenE ?_ | with_reducible refine xThenR ?_ | with_reducible refine xThenP ?_ | with_reducible refine xBlockEq ?_ | with_reducible refine xBlockNe rfl ?_ | with_reducible refine xBlockN ?_ | with_reducible refine xBlockR ?_ | with_reducible refine xBlockP ?_ | ((with_reducible refine wl_id ?_); refine wl_loadL HM 0 _ rfl rfl _ rfl rfl ?_; simp only [Act.put, List.setIfInBounds_toArray, List.set_cons_succ, List.set_cons_zero]) | ((with_reducible refine wl_id ?_); refine wl_loadL HM 1 _ rfl rfl _ rfl rfl ?_; simp only [Act.put, List.setIfInBounds_toArray, List.set_cons_succ, List.set_cons_zero]) | (go_at_call 35; (with_reducible refine (eqv (by assumption) (bitwise_15 _ _ _ _ hW (by assumption) (by assumption))).mono ?_); rintro e w1 ⟨rfl, hb⟩; (replace HM := HM.below hb; replace HN := HN.below hb; replace HB := HB.trans (hb.mono HB.size); clear hb)) | (go_at_call 15; (with_reducible refine (num_any _ _ (by assumption)).mono ?_); rintro e w1 ⟨rfl, hb⟩; (replace HM := HM.below hb; replace HN := HN.below hb; replace HB := HB.trans (hb.mono HB.size); clear hb)) | go_values | go_skip | go_guarded | go_step | go_upon | go_back | (dsimp only)))
    go_ret
    exact ⟨ret_int (by rw [hAP.out, ← o_15 hs.out]), HB⟩
  have f15 : (op == 15) = false := by simpa using e15
  clear e15
  by_cases e16 : op = 16
  · subst e16
    obtain ⟨s, hs⟩ : ∃ s, Hid (s = X * 2 ^ (min Y (wid a)) % 2 ^ wid a) := ⟨_, Lib.hid rfl⟩
    have hsW : Hid (s < 2 ^ wid a) := Lib.hid (by rw [hs.out]; exact Nat.mod_lt _ (Nat.pow_pos (by omega)))
    have hsl : Hid (s < 18446744073709551616) := Lib.hid (lt_pow hsW.out hW)
    clear hsW
    (repeat (first | with_reducible refine xThenN ?_ | with_reducible refine xThenE ?_ | with_reducible refine xThenR ?_ | with_reducible refine xThenP ?_ | with_reducible refine xBlockEq ?_ | with_reducible refine xBlockNe rfl ?_ | with_reducible refine xBlockN ?_ | with_reducible refine xBlockR ?_ | with_reducible refine xBlockP ?_ | ((with_reducible refine wl_id ?_); refine wl_loadL HM 0 _ rfl rfl _ rfl rfl ?_; simp only [Act.put, List.setIfInBounds_toArray, List.set_cons_succ, List.set_cons_zero]) | ((with_reducible refine wl_id ?_); refine wl_loadL HM 1 _ rfl rfl _ rfl rfl ?_; simp only [Act.put, List.setIfInBounds_toArray, List.set_cons_succ, List.set_cons_zero]) | (go_at_call 36; (with_reducible refine (eqv (by assumption) (moved_up _ _ _ _ hW0 hW (by assumption) (by assumption))).mono ?_); rintro e w1 ⟨rfl, hb⟩; (replace HM := HM.below hb; replace HN := HN.below hb; replace HB := HB.trans (hb.mono HB.size); clear hb)) | (go_at_call 15; (with_reducible refine (num_any _ _ (by assumption)).mono ?_); rintro e w1 ⟨rfl, hb⟩; (replace HM := HM.below hb; replace HN := HN.below hb; replace HB := HB.trans (hb.mono HB.size); clear hb)) | go_values | go_skip | go_guarded | go_step | go_upon | go_back | (dsimp only)))
    go_ret
    exact ⟨ret_int (by rw [hAP.out, ← o_16 hs.out]), HB⟩
  have f16 : (op == 16) = false := by simpa using e16
  clear e16
  by_cases e17 : op = 17
  · subst e17
    obtain ⟨s, hs⟩ : ∃ s, Hid (s = sar false X (wid a) (min Y (wid a))) := ⟨_, Lib.hid rfl⟩
    have hsW : Hid (s < 2 ^ wid a) := Lib.hid (by rw [hs.out]; exact sar_lt _ hW0 hXl.out _)
    have hsl : Hid (s < 18446744073709551616) := Lib.hid (lt_pow hsW.out hW)
    clear hsW
    (repeat (first | with_reducible refine xThenN ?_ | with_reducible refine xThenE ?_ | with_reducible refine xThenR ?_ | with_reducible refine xThenP ?_ | with_reducible refine xBlockEq ?_ | with_reducible refine xBlockNe rfl ?_ | with_reducible refine xBlockN ?_ | with_reducible refine xBlockR ?_ | with_reducible refine xBlockP ?_ | ((with_reducible refine wl_id ?_); refine wl_loadL HM 0 _ rfl rfl _ rfl rfl ?_; simp only [Act.put, List.setIfInBounds_toArray, List.set_cons_succ, List.set_cons_zero]) | ((with_reducible refine wl_id ?_); refine wl_loadL HM 1 _ rfl rfl _ rfl rfl ?_; simp only [Act.put, List.setIfInBounds_toArray, List.set_cons_succ, List.set_cons_zero]) | (go_at_call 36; (with_reducible refine (eqv (by assumption) (moved_17 _ _ _ _ hW0 hW (by assumption) (by assumption))).mono ?_); rintro e w1 ⟨rfl, hb⟩; (replace HM := HM.below hb; replace HN := HN.below hb; replace HB := HB.trans (hb.mono HB.size); clear hb)) | (go_at_call 15; (with_reducible refine (num_any _ _ (by assumption)).mono ?_); rintro e w1 ⟨rfl, hb⟩; (replace HM := HM.below hb; replace HN := HN.below hb; replace HB := HB.trans (hb.mono HB.size); clear hb)) | go_values | go_skip | go_guarded | go_step | go_upon | go_back | (dsimp only)))
    go_ret
    exact ⟨ret_int (by rw [hAP.out, ← o_17 hXl.out hs.out]), HB⟩
  have f17 : (op == 17) = false := by simpa using e17
  clear e17
  by_cases e18 : op = 18
  · subst e18
    obtain ⟨s, hs⟩ : ∃ s, Hid (s = sar (X.testBit (wid a - 1)) X (wid a) (min Y (wid a))) := ⟨_, Lib.hid rfl⟩
    have hsW : Hid (s < 2 ^ wid a) := Lib.hid (by rw [hs.out]; exact sar_lt _ hW0 hXl.out _)
    have hsl : Hid (s < 18446744073709551616) := Lib.hid (lt_pow hsW.out hW)
    clear hsW
    (repeat (first | with_reducible refine xThenN ?_ | with_reducible refine xThenE ?_ | with_reducible refine xThenR ?_ | with_reducible refine xThenP ?_ | with_reducible refine xBlockEq ?_ | with_reducible refine xBlockNe rfl ?_ | with_reducible refine xBlockN ?_ | with_reducible refine xBlockR ?_ | with_reducible refine xBlockP ?_ | ((with_reducible refine wl_id ?_); refine wl_loadL HM 0 _ rfl rfl _ rfl rfl ?_; simp only [Act.put, List.setIfInBounds_toArray, List.set_cons_succ, List.set_cons_zero]) | ((with_reducible refine wl_id ?_); refine wl_loadL HM 1 _ rfl rfl _ rfl rfl ?_; simp only [Act.put, List.setIfInBounds_toArray, List.set_cons_succ, List.set_cons_zero]) | (go_at_call 36; (with_reducible refine (eqv (by assumption) (moved_18 _ _ _ _ hW0 hW (by assumption) (by assumption))).mono ?_); rintro e w1 ⟨rfl, hb⟩; (replace HM := HM.below hb; replace HN := HN.below hb; replace HB := HB.trans (hb.mono HB.size); clear hb)) | (go_at_call 15; (with_reducible refine (num_any _ _ (by assumption)).mono ?_); rintro e w1 ⟨rfl, hb⟩; (replace HM := HM.below hb; replace HN := HN.below hb; replace HB := HB.trans (hb.mono HB.size); clear hb)) | go_values | go_skip | go_guarded | go_step | go_upon | go_back | (dsimp only)))
    go_ret
    exact ⟨ret_int (by rw [hAP.out, ← o_18 hW0 hXl.out hs.out]), HB⟩
  have f18 : (op == 18) = false := by simpa using e18
  clear e18
  by_cases e19 : op = 19
  · subst e19
    have hX64 : Hid (X < 18446744073709551616) := Lib.hid (lt_pow hXl.out hW)
    have hY64 : Hid (Y < 18446744073709551616) := Lib.hid (lt_pow hYl.out hW)
    obtain ⟨s, hs⟩ : ∃ s, Hid (s = (decide (X = Y)).toNat) := ⟨_, Lib.hid rfl⟩
    have hs1 := Bool.toNat_le (decide (X = Y))
    have hsl : Hid (s < 18446744073709551616) := Lib.hid (by rw [hs.out]; omega)
    clear hs1
    (repeat (first | with_reducible refine xThenN ?_ | with_reducible refine xThenE ?_ | with_reducible refine xThenR ?_ | with_reducible refine xThenP ?_ | with_reducible refine xBlockEq ?_ | with_reducible refine xBlockNe rfl ?_ | with_reducible refine xBlockN ?_ | with_reducible refine xBlockR ?_ | with_reducible refine xBlockP ?_ | ((with_reducible refine wl_id ?_); refine wl_loadL HM 0 _ rfl rfl _ rfl rfl ?_; simp only [Act.put, List.setIfInBounds_toArray, List.set_cons_succ, List.set_cons_zero]) | ((with_reducible refine wl_id ?_); refine wl_loadL HM 1 _ rfl rfl _ rfl rfl ?_; simp only [Act.put, List.setIfInBounds_toArray, List.set_cons_succ, List.set_cons_zero]) | ((with_reducible refine wl_id ?_); refine wl_eq29 rfl _ _ _ rfl X Y rfl rfl hX64 hY64 ?_; simp only [Act.put, List.setIfInBounds_toArray, List.set_cons_succ, List.set_cons_zero]) | (go_at_call 37; (with_reducible refine (eqv (by assumption) (truth_any _ _)).mono ?_); rintro e w1 ⟨rfl, hb⟩; (replace HM := HM.below hb; replace HN := HN.below hb; replace HB := HB.trans (hb.mono HB.size); clear hb)) | (go_at_call 15; (with_reducible refine (num_any _ _ (by assumption)).mono ?_); rintro e w1 ⟨rfl, hb⟩; (replace HM := HM.below hb; replace HN := HN.below hb; replace HB := HB.trans (hb.mono HB.size); clear hb)) | go_values | go_skip | go_guarded | go_step | go_upon | go_back | (dsimp only)))
    go_ret
    exact ⟨ret_int (by rw [hAP.out, ← o_19 hs.out]), HB⟩
  have f19 : (op == 19) = false := by simpa using e19
  clear e19
  by_cases e20 : op = 20
  · subst e20
    obtain ⟨s, hs⟩ : ∃ s, Hid (s = (decide (X < Y)).toNat) := ⟨_, Lib.hid rfl⟩
    have hs1 := Bool.toNat_le (decide (X < Y))
    have hsl : Hid (s < 18446744073709551616) := Lib.hid (by rw [hs.out]; omega)
    clear hs1
    (repeat (first | with_reducible refine xThenN ?_ | with_reducible refine xThenE ?_ | with_reducible refine xThenR ?_ | with_reducible refine xThenP ?_ | with_reducible refine xBlockEq ?_ | with_reducible refine xBlockNe rfl ?_ | with_reducible refine xBlockN ?_ | with_reducible refine xBlockR ?_ | with_reducible refine xBlockP ?_ | ((with_reducible refine wl_id ?_); refine wl_loadL HM 0 _ rfl rfl _ rfl rfl ?_; simp only [Act.put, List.setIfInBounds_toArray, List.set_cons_succ, List.set_cons_zero]) | ((with_reducible refine wl_id ?_); refine wl_loadL HM 1 _ rfl rfl _ rfl rfl ?_; simp only [Act.put, List.setIfInBounds_toArray, List.set_cons_succ, List.set_cons_zero]) | (go_at_call 38; (with_reducible refine (less_ref _ _ _ _ hW (by assumption) (by assumption)).mono ?_); rintro e w1 ⟨rfl, hb⟩; (replace HM := HM.below hb; replace HN := HN.below hb; replace HB := HB.trans (hb.mono HB.size); clear hb)) | (go_at_call 37; (with_reducible refine (eqv (by assumption) (truth_any _ _)).mono ?_); rintro e w1 ⟨rfl, hb⟩; (replace HM := HM.below hb; replace HN := HN.below hb; replace HB := HB.trans (hb.mono HB.size); clear hb)) | (go_at_call 15; (with_reducible refine (num_any _ _ (by assumption)).mono ?_); rintro e w1 ⟨rfl, hb⟩; (replace HM := HM.below hb; replace HN := HN.below hb; replace HB := HB.trans (hb.mono HB.size); clear hb)) | go_values | go_skip | go_guarded | go_step | go_upon | go_back | (dsimp only)))
    go_ret
    exact ⟨ret_int (by rw [hAP.out, ← o_20 hs.out]), HB⟩
  have f20 : (op == 20) = false := by simpa using e20
  clear e20
  by_cases e21 : op = 21
  · subst e21
    have hidx : (((wid a : Nat) : Int) - 1).toNat = wid a - 1 := by omega
    have c0 : (0 : Int) ≤ ((wid a : Nat) : Int) - 1 := by omega
    have c1 : ((wid a : Nat) : Int) - 1 < 64 := by omega
    obtain ⟨b, hb'⟩ : ∃ b, Hid (X.testBit (wid a - 1) = b) := ⟨_, Lib.hid rfl⟩
    obtain ⟨c, hc'⟩ : ∃ c, Hid (Y.testBit (wid a - 1) = c) := ⟨_, Lib.hid rfl⟩
    by_cases e : b = c
    · subst e
      have ne : (b != b) = false := by simp
      obtain ⟨s, hs⟩ : ∃ s, Hid (s = (decide (X < Y)).toNat) := ⟨_, Lib.hid rfl⟩
      have hs1 := Bool.toNat_le (decide (X < Y))
      have hsl : Hid (s < 18446744073709551616) := Lib.hid (by rw [hs.out]; omega)
      clear hs1
      (repeat (first | with_reducible refine xThenN ?_ | with_reducible refine xThenE ?_ | with_reducible refine xThenR ?_ | with_reducible refine xThenP ?_ | with_reducible refine xBlockEq ?_ | with_reducible refine xBlockNe rfl ?_ | with_reducible refine xBlockN ?_ | with_reducible refine xBlockR ?_ | with_reducible refine xBlockP ?_ | go_values | go_skip | go_guarded | go_step | go_upon | go_back | (dsimp only)))
      refine wp_region_cls (by kernel_rfl) (by kernel_rfl) ?_
      (repeat (first | go_big_quiet_skip | (go_big_quiet_want; first | (refine quiet_loadL HM 0 _ rfl _ rfl rfl ?_; simp only [Act.put, List.setIfInBounds_toArray, List.set_cons_succ, List.set_cons_zero]; go_big_quiet_on) | (refine quiet_loadL HM 1 _ rfl _ rfl rfl ?_; simp only [Act.put, List.setIfInBounds_toArray, List.set_cons_succ, List.set_cons_zero]; go_big_quiet_on) | (refine quiet_bitX HM 0 _ rfl (wid a - 1) (by omega) _ hb' _ rfl rfl ?_; simp only [Act.put, List.setIfInBounds_toArray, List.set_cons_succ, List.set_cons_zero]; go_big_quiet_on) | (refine quiet_bitX HM 1 _ rfl (wid a - 1) (by omega) _ hc' _ rfl rfl ?_; simp only [Act.put, List.setIfInBounds_toArray, List.set_cons_succ, List.set_cons_zero]; go_big_quiet_on) | (go_big_quiet_op; first | go_big_quiet_on | (refine Exists.intro _ (And.intro (fun _ _ => rfl) ?_); go_big_quiet_on) | go_big_quiet_call (((intro hC; replace hC : Below _ _ _ := hC); first | (go_at_call 24; (with_reducible refine (eqv (by assumption) (not_any _ _ _ hW)).mono ?_); (rintro e w2 ⟨rfl, hb⟩; exact ⟨rfl, hC.trans (hb.mono hC.size)⟩)) | (go_at_call 33; (with_reducible refine (eqv (by assumption) (add_ref _ _ _ _ _ hW (by assumption) (by assumption))).mono ?_); (rintro e w2 ⟨rfl, hb⟩; exact ⟨rfl, hC.trans (hb.mono hC.size)⟩)) | (go_at_call 15; (with_reducible refine (num_any _ _ (by assumption)).mono ?_); (rintro e w2 ⟨rfl, hb⟩; exact ⟨rfl, hC.trans (hb.mono hC.size)⟩))))))))
      refine wpQuiet_nil ?_
      intro w8 hb
      replace hb : Below _ _ _ := hb
      (replace HM := HM.below hb; replace HN := HN.below hb; replace HB := HB.trans (hb.mono HB.size); clear hb)
      (repeat (first | with_reducible refine xThenN ?_ | with_reducible refine xThenE ?_ | with_reducible refine xThenR ?_ | with_reducible refine xThenP ?_ | with_reducible refine xBlockEq ?_ | with_reducible refine xBlockNe rfl ?_ | with_reducible refine xBlockN ?_ | with_reducible refine xBlockR ?_ | with_reducible refine xBlockP ?_ | ((with_reducible refine wl_id ?_); refine wl_loadL HM 0 _ rfl rfl _ rfl rfl ?_; simp only [Act.put, List.setIfInBounds_toArray, List.set_cons_succ, List.set_cons_zero]) | ((with_reducible refine wl_id ?_); refine wl_loadL HM 1 _ rfl rfl _ rfl rfl ?_; simp only [Act.put, List.setIfInBounds_toArray, List.set_cons_succ, List.set_cons_zero]) | (go_at_call 38; (with_reducible refine (less_ref _ _ _ _ hW (by assumption) (by assumption)).mono ?_); rintro e w1 ⟨rfl, hb⟩; (replace HM := HM.below hb; replace HN := HN.below hb; replace HB := HB.trans (hb.mono HB.size); clear hb)) | (go_at_call 37; (with_reducible refine (eqv (by assumption) (truth_any _ _)).mono ?_); rintro e w1 ⟨rfl, hb⟩; (replace HM := HM.below hb; replace HN := HN.below hb; replace HB := HB.trans (hb.mono HB.size); clear hb)) | (go_at_call 15; (with_reducible refine (num_any _ _ (by assumption)).mono ?_); rintro e w1 ⟨rfl, hb⟩; (replace HM := HM.below hb; replace HN := HN.below hb; replace HB := HB.trans (hb.mono HB.size); clear hb)) | go_values | go_skip | go_guarded | go_step | go_upon | go_back | (dsimp only)))
      go_ret
      exact ⟨ret_int (by rw [hAP.out, ← o_21eq hW0 hXl.out hYl.out hb'.out hc'.out hs.out]), HB⟩
    · have hcb : c = !b := by revert e; cases b <;> cases c <;> simp
      subst hcb
      have ne : (b != !b) = true := by cases b <;> rfl
      obtain ⟨s, hs⟩ : ∃ s, Hid (s = b.toNat) := ⟨_, Lib.hid rfl⟩
      have hs1 := Bool.toNat_le b
      have hsl : Hid (s < 18446744073709551616) := Lib.hid (by rw [hs.out]; omega)
      clear hs1
      (repeat (first | with_reducible refine xThenN ?_ | with_reducible refine xThenE ?_ | with_reducible refine xThenR ?_ | with_reducible refine xThenP ?_ | with_reducible refine xBlockEq ?_ | with_reducible refine xBlockNe rfl ?_ | with_reducible refine xBlockN ?_ | with_reducible refine xBlockR ?_ | with_reducible refine xBlockP ?_ | go_values | go_skip | go_guarded | go_step | go_upon | go_back | (dsimp only)))
      refine wp_region_cls (by kernel_rfl) (by kernel_rfl) ?_
      (repeat (first | go_big_quiet_skip | (go_big_quiet_want; first | (refine quiet_loadL HM 0 _ rfl _ rfl rfl ?_; simp only [Act.put, List.setIfInBounds_toArray, List.set_cons_succ, List.set_cons_zero]; go_big_quiet_on) | (refine quiet_loadL HM 1 _ rfl _ rfl rfl ?_; simp only [Act.put, List.setIfInBounds_toArray, List.set_cons_succ, List.set_cons_zero]; go_big_quiet_on) | (refine quiet_bitX HM 0 _ rfl (wid a - 1) (by omega) _ hb' _ rfl rfl ?_; simp only [Act.put, List.setIfInBounds_toArray, List.set_cons_succ, List.set_cons_zero]; go_big_quiet_on) | (refine quiet_bitX HM 1 _ rfl (wid a - 1) (by omega) _ hc' _ rfl rfl ?_; simp only [Act.put, List.setIfInBounds_toArray, List.set_cons_succ, List.set_cons_zero]; go_big_quiet_on) | (go_big_quiet_op; first | go_big_quiet_on | (refine Exists.intro _ (And.intro (fun _ _ => rfl) ?_); go_big_quiet_on) | go_big_quiet_call (((intro hC; replace hC : Below _ _ _ := hC); first | (go_at_call 24; (with_reducible refine (eqv (by assumption) (not_any _ _ _ hW)).mono ?_); (rintro e w2 ⟨rfl, hb⟩; exact ⟨rfl, hC.trans (hb.mono hC.size)⟩)) | (go_at_call 33; (with_reducible refine (eqv (by assumption) (add_ref _ _ _ _ _ hW (by assumption) (by assumption))).mono ?_); (rintro e w2 ⟨rfl, hb⟩; exact ⟨rfl, hC.trans (hb.mono hC.size)⟩)) | (go_at_call 15; (with_reducible refine (num_any _ _ (by assumption)).mono ?_); (rintro e w2 ⟨rfl, hb⟩; exact ⟨rfl, hC.trans (hb.mono hC.size)⟩))))))))
      refine wpQuiet_nil ?_
      intro w8 hb
      replace hb : Below _ _ _ := hb
      (replace HM := HM.below hb; replace HN := HN.below hb; replace HB := HB.trans (hb.mono HB.size); clear hb)
      have hbit := bitL HM 0 X rfl (wid a - 1) (by omega)
      rw [hb'.out] at hbit
      simp only [Nat.add_zero] at hbit
      (repeat (first | with_reducible refine xThenN ?_ | with_reducible refine xThenE ?_ | with_reducible refine xThenR ?_ | with_reducible refine xThenP ?_ | with_reducible refine xBlockEq ?_ | with_reducible refine xBlockNe rfl ?_ | with_reducible refine xBlockN ?_ | with_reducible refine xBlockR ?_ | with_reducible refine xBlockP ?_ | (go_at_call 37; (with_reducible refine (eqv (by assumption) (truth_any _ _)).mono ?_); rintro e w1 ⟨rfl, hb⟩; (replace HM := HM.below hb; replace HN := HN.below hb; replace HB := HB.trans (hb.mono HB.size); clear hb)) | (go_at_call 15; (with_reducible refine (num_any _ _ (by assumption)).mono ?_); rintro e w1 ⟨rfl, hb⟩; (replace HM := HM.below hb; replace HN := HN.below hb; replace HB := HB.trans (hb.mono HB.size); clear hb)) | go_values | go_skip | go_guarded | go_step | go_upon | go_back | (dsimp only)))
      go_ret
      exact ⟨ret_int (by rw [hAP.out, ← o_21ne hW0 hXl.out hYl.out hb'.out hc'.out hs.out]), HB⟩
  have f21 : (op == 21) = false := by simpa using e21
  clear e21
  (repeat (first | with_reducible refine xThenN ?_ | with_reducible refine xThenE ?_ | with_reducible refine xThenR ?_ | with_reducible refine xThenP ?_ | with_reducible refine xBlockEq ?_ | with_reducible refine xBlockNe rfl ?_ | with_reducible refine xBlockN ?_ | with_reducible refine xBlockR ?_ | with_reducible refine xBlockP ?_ | go_values | go_skip | go_guarded | go_step | go_upon | go_back | (dsimp only)))
  go_ret
  exact ⟨ret_int (by rw [hAP.out, o_none _ _ _ _ (by assumption) f8 f9 f10 f11 f12 f13 f14 f15 f16 f17 f18 f19 f20 f21]), HB⟩

end Go.Proofs.Ytafjllfmagmhbaa
