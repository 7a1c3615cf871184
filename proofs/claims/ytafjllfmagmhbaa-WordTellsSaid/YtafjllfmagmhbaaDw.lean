import Derived.Test.YtafjllfmagmhbaaDv
set_option linter.unusedSimpArgs false
set_option linter.unusedVariables false
namespace Go.Proofs.Ytafjllfmagmhbaa
open Go.RowKit

theorem ld4 (w : World) (p : Addr) (b : Bool) (h : w.cell? p = some (.bool b)) : (Instr.loadAt 4 (.pointer (some p))).run Try.prog w = .ok (.bool b) w := by go_simp
theorem st4 (w : World) (p : Addr) (b v : Bool) (h : w.cell? p = some (.bool b)) (hf : w.frozen? p = false) : (Instr.storeAt 4 (.pointer (some p)) (.bool v)).run Try.prog w = .ok () (w.setCell p (.bool v)) := by go_simp

section
variable {ops : Array Oper} {rest : List Oper} {o : Oper} {a : Act} {w W : World} {Q : Exit → Act → World → Prop} {B : Nat} {l : List (Array Value × TypeId)} {K : Act → Prop}
theorem quiet_loadL (HM : MemL W B l) (i n : Nat) (hi : l[i]? = some (bw n, 29)) (x : Operand) (ho : o.op = .load 29 x) (hx : a.eval x = .pointer (some ⟨B + i, 0, none⟩)) (hk : K (a.put o.dst (.agg (bw n)))) : o.quiet Try.prog a (Cls W) K := by
  refine ⟨_, fun w hw => ?_, hk⟩
  unfold Oper.quietAt execOp
  simp only [ho, hx, Sem.run_bind, load29 w _ n ((HM.below hw).get i hi), Result.andThen_ok]
  exact ⟨rfl, rfl⟩
theorem quiet_bitL (HM : MemL W B l) (i n : Nat) (hi : l[i]? = some (bw n, 29)) (k : Nat) (h64 : k < 64) (x : Operand) (ho : o.op = .load 4 x) (hx : a.eval x = .pointer (some ⟨B + i, k, none⟩)) (hk : K (a.put o.dst (.bool (n.testBit k)))) : o.quiet Try.prog a (Cls W) K :=
  quiet_load 4 x ho _ hx _ (fun w hw => bitL (HM.below hw) i n hi k h64) (fun w h => ld4 w _ _ h) hk
theorem wl_storeR {B' : Nat} {l' : List (Array Value × TypeId)} (HM : MemL w B l) (HN : MemL w B' l') (i n m : Nat) (hi : l[i]? = some (bw n, 29)) (hgd : o.guard = none) (x y : Operand) (ho : o.op = .store 29 x y)
    (hx : a.eval x = .pointer (some ⟨B + i, 0, none⟩)) (hy : a.eval y = .agg (bw m)) (hlt : B + i < B')
    (h : ∀ w', MemL w' B (l.set i (bw m, 29)) → MemL w' B' l' → Below B w w' → wpList Try.prog ops Q rest (a.put o.dst undef) w') : wpList Try.prog ops Q (o :: rest) a w :=
  wl_store29 hgd x y ho ⟨_, n, m, hx, hy, HM.get i hi, h _ (HM.row i hi) (HN.apart hlt _) (Below.setRow (Below.refl _ _) (by omega) _)⟩
theorem wl_loadG (HM : MemL w B l) (i n : Nat) (hi : l[i]? = some (bw n, 29)) (hgd : Region.wanted o (yielded ops a.tmps) = true) (x : Operand) (ho : o.op = .load 29 x)
    (hx : a.eval x = .pointer (some ⟨B + i, 0, none⟩)) (h : wpList Try.prog ops Q rest (a.put o.dst (.agg (bw n))) w) : wpList Try.prog ops Q (o :: rest) a w :=
  BigFrame.wpList_want hgd fun _ hK => by
    unfold Oper.wp execOp
    simp only [ho, hx, Sem.run_bind, load29 w _ n (HM.get i hi), Result.andThen_ok]
    exact hK _ _ h
theorem wl_bitL (HM : MemL w B l) (i n : Nat) (hi : l[i]? = some (bw n, 29)) (k : Nat) (h64 : k < 64) (v : Bool) (hgd : o.guard = none) (x y : Operand) (ho : o.op = .store 4 x y)
    (hx : a.eval x = .pointer (some ⟨B + i, k, none⟩)) (hy : a.eval y = .bool v)
    (h : ∀ w', MemL w' B (l.set i (bw (setb n k v), 29)) → Below B w w' → wpList Try.prog ops Q rest (a.put o.dst undef) w') : wpList Try.prog ops Q (o :: rest) a w :=
  wpList_plain hgd fun _ hK => by
    unfold Oper.wp execOp
    simp only [ho, hx, hy, Sem.run_bind, st4 w _ _ v (bitL HM i n hi k h64) (frozen_of_row _ _ k _ _ (HM.get i hi)), Result.andThen_ok]
    refine hK _ _ (h _ ?_ (Below.setCell (Below.refl _ _) (by simp) _))
    have := HM.cell i k (.bool v) hi
    rwa [bw_set] at this
end

theorem dv_num {x k : Nat} : x / 2 ^ k = 2 * (x / 2 ^ (k + 1)) + (x.testBit k).toNat := by
  rw [num_step (n := x) (k := k) rfl]; cases x.testBit k <;> simp

theorem dv_qr {A y : Nat} (b : Bool) (hy : 0 < y) : (2 * A + b.toNat) = y * (2 * (A / y)) + (2 * (A % y) + b.toNat) := by
  have := Nat.div_add_mod A y
  rw [Nat.mul_left_comm]
  omega

theorem dv_ge {A y : Nat} {b : Bool} (hy : 0 < y) (h : y ≤ 2 * (A % y) + b.toNat) : (2 * A + b.toNat) / y = 2 * (A / y) + 1 ∧ (2 * A + b.toNat) % y = 2 * (A % y) + b.toNat - y := by
  have h1 := Nat.mod_lt A hy
  have h2 := Bool.toNat_le b
  have e : 2 * A + b.toNat = (2 * (A % y) + b.toNat - y) + y * (2 * (A / y) + 1) := by
    have := dv_qr (A := A) (y := y) b hy
    rw [Nat.mul_add, Nat.mul_one]
    omega
  rw [e, Nat.add_mul_div_left _ _ hy, Nat.add_mul_mod_self_left, Nat.div_eq_of_lt (by omega), Nat.mod_eq_of_lt (by omega)]
  omega

theorem dv_lt {A y : Nat} {b : Bool} (hy : 0 < y) (h : 2 * (A % y) + b.toNat < y) : (2 * A + b.toNat) / y = 2 * (A / y) ∧ (2 * A + b.toNat) % y = 2 * (A % y) + b.toNat := by
  have e : 2 * A + b.toNat = (2 * (A % y) + b.toNat) + y * (2 * (A / y)) := by
    have := dv_qr (A := A) (y := y) b hy
    omega
  rw [e, Nat.add_mul_div_left _ _ hy, Nat.add_mul_mod_self_left, Nat.div_eq_of_lt h, Nat.mod_eq_of_lt h]
  simp

theorem dv_over {W r y : Nat} {b : Bool} (hW : 1 ≤ W) (hr : r < y) (hy : y < 2 ^ W) : (r.testBit (W - 1) = true → y ≤ 2 * r + b.toNat) ∧ (r.testBit (W - 1) = false → (2 * r + b.toNat) % 2 ^ W = 2 * r + b.toNat) := by
  obtain ⟨V, rfl⟩ : ∃ V, W = V + 1 := ⟨W - 1, by omega⟩
  rw [show V + 1 - 1 = V from by omega, Nat.testBit_eq_decide_div_mod_eq]
  rw [Nat.pow_succ] at *
  have hb := Bool.toNat_le b
  have hp := Nat.pow_pos (n := V) (show 0 < 2 by omega)
  rcases Nat.lt_or_ge r (2 ^ V) with h | h
  · rw [Nat.div_eq_of_lt h]
    simp
    rw [Nat.mod_eq_of_lt (by omega)]
  · have : r / 2 ^ V = 1 := by
      rw [show r = (r - 2 ^ V) + 2 ^ V by omega, Nat.add_div_right _ hp, Nat.div_eq_of_lt (by omega)]
    rw [this]
    simp
    omega

theorem dv_sub {W z y : Nat} (hy : y < 2 ^ W) (h1 : y ≤ z) (h2 : z < 2 * y) : (z % 2 ^ W + (2 ^ W - 1 - y % 2 ^ W) + true.toNat) % 2 ^ W = z - y := by
  rw [Nat.mod_eq_of_lt hy, Nat.add_assoc, Nat.mod_add_mod, Bool.toNat_true, show z + (2 ^ W - 1 - y + 1) = z - y + 2 ^ W by omega, Nat.add_mod_right, Nat.mod_eq_of_lt (by omega)]

theorem dv_set (q k : Nat) : setb (q * 2 ^ (k + 1)) k true = (2 * q + 1) * 2 ^ k := by
  have hk : (2 ^ (k + 1) * q).testBit k = false := by
    rw [Nat.testBit_two_pow_mul, decide_eq_false (by omega)]
    rfl
  have e1 : 2 ^ (k + 1) * q ^^^ 2 ^ k = 2 ^ (k + 1) * q ||| 2 ^ k := by
    apply Nat.eq_of_testBit_eq
    intro j
    rw [Nat.testBit_xor, Nat.testBit_or, Nat.testBit_two_pow]
    by_cases e : k = j
    · subst e; rw [hk]; simp
    · simp [e]
  rw [Nat.mul_comm q]
  unfold setb
  rw [hk, if_neg (by simp), e1, ← Nat.two_pow_add_eq_or_of_lt (Nat.pow_lt_pow_right (by omega) (by omega)), Nat.pow_succ, Nat.add_mul, Nat.one_mul, Nat.mul_assoc, Nat.mul_comm 2 q, Nat.mul_assoc, Nat.mul_left_comm, Nat.mul_comm (2 ^ k) 2]

set_option maxRecDepth 100000 in
set_option maxHeartbeats 1000000 in
theorem div_pos (W x y : Nat) (w : World) (hW0 : 1 ≤ W) (hW : W ≤ 64) (hx : Hid (x < 2 ^ W)) (hy : Hid (y < 2 ^ W)) (hy0 : 0 < y) :
    Calls Try.prog 32 #[.int .i64 W, .agg (bw x), .agg (bw y)] w fun e w' => e = .returned (.tuple #[.agg (bw (x / y)), .agg (bw (x % y))]) ∧ Below w.heap.size w w' := by
  have hz := (zero_of_info zero29).1
  have hy64 : Hid (y < 18446744073709551616) := Lib.hid (lt_pow hy.out hW)
  have hyz : ((y : Int) == 0) = false := by simp; omega
  go_enter Try.func32, Try.ntmps32
  (repeat (first | with_reducible refine xThenN ?_ | with_reducible refine xThenE ?_ | with_reducible refine xThenR ?_ | with_reducible refine xThenP ?_ | with_reducible refine xBlockEq ?_ | with_reducible refine xBlockNe rfl ?_ | with_reducible refine xBlockN ?_ | with_reducible refine xBlockR ?_ | with_reducible refine xBlockP ?_ | ((with_reducible refine wl_load29 rfl _ rfl ?_); apply Exists.intro; apply Exists.intro; refine ⟨rfl, ?_, ?_⟩; (· (repeat (first | (with_reducible assumption) | ((with_reducible refine heap_new _ _ _ ?_); (simp; done)) | ((with_reducible refine (heap_old _ _ _ ?_).trans ?_); (· (first | (simp; done) | (simp; omega) | omega))) | (with_reducible refine row_same ?_ _) | ((with_reducible refine row_other ?_ _ ?_); rotate_left; (· (first | (simp; done) | (simp; omega) | omega))) | (with_reducible refine row_cell _ _ _ _ _ ?_) | ((with_reducible refine (heap_setCell_other _ _ _ _ ?_).trans ?_); (· (first | (simp; done) | (simp; omega) | omega))) | rw [heap_drew] | rw [World.heap_drewN]))); simp only [Act.put, List.setIfInBounds_toArray, List.set_cons_succ, List.set_cons_zero]) | (go_at_call 15; (with_reducible refine (num_any _ _ (by assumption)).mono ?_); rintro e w1 ⟨rfl, hb⟩) | go_values | go_skip | go_guarded | go_step | go_upon | go_back | (dsimp only)))
  have HM := ((mem4 _ _ _ _ _ _ _ _ _).1.below hb : MemL w1 w.heap.size [(bw x, 29), (bw y, 29), (bw 0, 29), (bw 0, 29)])
  have HB : Below w.heap.size w w1 := (by (repeat (first | with_reducible exact Below.refl _ _ | assumption | with_reducible refine below_drewN ?_ _ | with_reducible refine Below.drew ?_ | with_reducible refine Below.setRow ?_ ?_ _ | with_reducible refine Below.alloc ?_ ?_ _ | with_reducible refine Below.setCell ?_ ?_ _ | with_reducible exact Nat.le_refl _ | (focus (simp; done)) | (focus (simp; omega)) | omega)) : Below w.heap.size w _).trans (hb.mono (by simp; omega))
  have hsz : w.heap.size + 4 ≤ w1.heap.size := by have := hb.size; simp at this; omega
  clear hb
  go_loopw [10] (fun i wr => ∃ k Qn R : Nat, k ≤ W ∧ Hid (Qn = x / 2 ^ k / y * 2 ^ k) ∧ Hid (R = x / 2 ^ k % y) ∧ i = .int .i64 ((k : Int) - 1) ∧ Below w.heap.size w wr ∧ MemL wr w.heap.size [(bw x, 29), (bw y, 29), (bw 0, 29), (bw 0, 29)] ∧ MemL wr w1.heap.size [(bw Qn, 29), (bw R, 29)]) (fun i _ => (intOf i + 1).toNat)
  case atStart => exact ⟨W, 0, 0, by omega, Lib.hid (by rw [Nat.div_eq_of_lt hx.out]; simp), Lib.hid (by rw [Nat.div_eq_of_lt hx.out]; simp), rfl, by (repeat (first | with_reducible exact Below.refl _ _ | assumption | with_reducible refine below_drewN ?_ _ | with_reducible refine Below.drew ?_ | with_reducible refine Below.setRow ?_ ?_ _ | with_reducible refine Below.alloc ?_ ?_ _ | with_reducible refine Below.setCell ?_ ?_ _ | with_reducible exact Nat.le_refl _ | (focus (simp; done)) | (focus (simp; omega)) | omega)), HM.under (B' := w1.heap.size) (((Below.refl _ _).alloc (Nat.le_refl _) _).alloc (by simp) _) (by simp; omega), (mem2 _ _ _ _ _).1⟩
  case round =>
    clear HM HB
    obtain ⟨k, Qn, R, hk, hQ, hR, rfl, HB, HM, HN⟩ := hrel
    rcases k with _ | k
    · (repeat (first | with_reducible refine xThenN ?_ | with_reducible refine xThenE ?_ | with_reducible refine xThenR ?_ | with_reducible refine xThenP ?_ | with_reducible refine xBlockEq ?_ | with_reducible refine xBlockNe rfl ?_ | with_reducible refine xBlockN ?_ | with_reducible refine xBlockR ?_ | with_reducible refine xBlockP ?_ | go_values | go_skip | go_guarded | go_step | go_upon | go_back | (dsimp only)))
      refine wp_region_held (S := fun w' => MemL w' w1.heap.size [(bw Qn, 29), (bw R, 29)]) (by kernel_rfl) ?_
      have HD : Below w.heap.size wr { wr with drawn := wr.drawn + 1 } := ⟨rfl, rfl, rfl, Nat.le_refl _, fun _ _ => rfl⟩
      replace HM : MemL { wr with drawn := wr.drawn + 1 } w.heap.size [(bw x, 29), (bw y, 29), (bw 0, 29), (bw 0, 29)] := HM
      replace HN : MemL { wr with drawn := wr.drawn + 1 } w1.heap.size [(bw Qn, 29), (bw R, 29)] := HN
      replace HB := HB.trans HD
      clear HD
      generalize ({ wr with drawn := wr.drawn + 1 } : World) = w2 at *
      refine wpAnyH_take (i := 0) rfl (by kernel_rfl) (by kernel_rfl) (by kernel_rfl) (fun _ _ _ h => h) (yields_loadL (fun _ h => h) 0 Qn rfl rfl _ rfl rfl) HN ?_
      simp only [Act.put, List.setIfInBounds_toArray, List.set_cons_succ, List.set_cons_zero]
      refine wpAnyH_take (i := 1) rfl (by kernel_rfl) (by kernel_rfl) (by kernel_rfl) (fun _ _ _ h => h) (yields_loadL (fun _ h => h) 1 R rfl rfl _ rfl rfl) HN ?_
      simp only [Act.put, List.setIfInBounds_toArray, List.set_cons_succ, List.set_cons_zero]
      refine wpAnyH_all (rs := [2]) (by kernel_rfl) (by simp) (fun i hi => ?_)
      obtain rfl : i = 2 := by simpa using hi
      refine wpOp_one rfl ?_
      (repeat (first | with_reducible refine xThenN ?_ | with_reducible refine xThenE ?_ | with_reducible refine xThenR ?_ | with_reducible refine xThenP ?_ | with_reducible refine xBlockEq ?_ | with_reducible refine xBlockNe rfl ?_ | with_reducible refine xBlockN ?_ | with_reducible refine xBlockR ?_ | with_reducible refine xBlockP ?_ | ((with_reducible refine wl_id ?_); refine wl_storeR HM HN 2 _ _ rfl rfl _ _ rfl rfl rfl (by omega) ?_; intro w9 HM1 HN1 hb; (simp only [List.set_cons_succ, List.set_cons_zero] at HM1); clear HM HN; have HM := HM1; have HN := HN1; clear HM1 HN1; replace HB := HB.trans hb; clear hb; simp only [Act.put, List.setIfInBounds_toArray, List.set_cons_succ, List.set_cons_zero]) | go_values | go_skip | go_guarded | go_step | go_upon | go_back | (dsimp only)))
      refine ⟨HN, ?_⟩
      refine wpAnyH_all (rs := [3]) (by kernel_rfl) (by simp) (fun i hi => ?_)
      obtain rfl : i = 3 := by simpa using hi
      refine wpOp_one rfl ?_
      (repeat (first | with_reducible refine xThenN ?_ | with_reducible refine xThenE ?_ | with_reducible refine xThenR ?_ | with_reducible refine xThenP ?_ | with_reducible refine xBlockEq ?_ | with_reducible refine xBlockNe rfl ?_ | with_reducible refine xBlockN ?_ | with_reducible refine xBlockR ?_ | with_reducible refine xBlockP ?_ | ((with_reducible refine wl_id ?_); refine wl_storeR HM HN 3 _ _ rfl rfl _ _ rfl rfl rfl (by omega) ?_; intro w9 HM1 HN1 hb; (simp only [List.set_cons_succ, List.set_cons_zero] at HM1); clear HM HN; have HM := HM1; have HN := HN1; clear HM1 HN1; replace HB := HB.trans hb; clear hb; simp only [Act.put, List.setIfInBounds_toArray, List.set_cons_succ, List.set_cons_zero]) | go_values | go_skip | go_guarded | go_step | go_upon | go_back | (dsimp only)))
      refine ⟨HN, ?_⟩
      refine wpAnyH_done (by kernel_rfl) ?_ _
      (repeat (first | with_reducible refine xThenN ?_ | with_reducible refine xThenE ?_ | with_reducible refine xThenR ?_ | with_reducible refine xThenP ?_ | with_reducible refine xBlockEq ?_ | with_reducible refine xBlockNe rfl ?_ | with_reducible refine xBlockN ?_ | with_reducible refine xBlockR ?_ | with_reducible refine xBlockP ?_ | go_values | go_skip | go_guarded | go_step | go_upon | go_back | (dsimp only)))
      refine bodyPost_ret (res29two rfl _ _ _ _ _ _ rfl rfl (HM.get 2 rfl) (HM.get 3 rfl)) rfl ⟨?_, HB⟩
      rw [hQ.out, hR.out]
      simp
    · have b0 : (0 : Int) ≤ k := by omega
      have b1 : (k : Int) < 64 := by omega
      have e1 : ((k + 1 : Nat) : Int) - 1 = k := by omega
      have hidx : ((W : Int) - 1).toNat = W - 1 := by omega
      have c0 : (0 : Int) ≤ (W : Int) - 1 := by omega
      have c1 : (W : Int) - 1 < 64 := by omega
      have hov := bitL HN 1 R rfl (W - 1) (by omega)
      have hp := Lib.hid (Nat.pow_pos (n := W) (show 0 < 2 by omega))
      have hUl : Hid ((2 * R + (x.testBit k).toNat) % 2 ^ W < 2 ^ W) := Lib.hid (Nat.mod_lt _ hp.out)
      have hNl : Hid (2 ^ W - 1 - y % 2 ^ W < 2 ^ W) := Lib.hid (by have := hp.out; omega)
      have hRy : Hid (R < y) := Lib.hid (by rw [hR.out]; exact Nat.mod_lt _ hy0)
      have Ho := Lib.hid (dv_over (b := x.testBit k) hW0 hRy.out hy.out)
      have Hnum := Lib.hid (dv_num (x := x) (k := k))
      cases ho : R.testBit (W - 1) with
      | true =>
        have Hge : Hid (y ≤ 2 * R + (x.testBit k).toNat) := Lib.hid (Ho.out.1 ho)
        rw [ho] at hov
        clear ho
        (repeat (first | with_reducible refine xThenN ?_ | with_reducible refine xThenE ?_ | with_reducible refine xThenR ?_ | with_reducible refine xThenP ?_ | with_reducible refine xBlockEq ?_ | with_reducible refine xBlockNe rfl ?_ | with_reducible refine xBlockN ?_ | with_reducible refine xBlockR ?_ | with_reducible refine xBlockP ?_ | go_values | go_skip | go_guarded | go_step | go_upon | go_back | (dsimp only)))
        (refine wp_region_tail 6 (by kernel_rfl) (by kernel_rfl) ?_; simp only [List.take_succ_cons, List.take_zero, List.drop_succ_cons, List.drop_zero]; (repeat (first | go_big_quiet_skip | (go_big_quiet_want; first | (refine quiet_loadL HM 1 _ rfl _ rfl rfl ?_; simp only [Act.put, List.setIfInBounds_toArray, List.set_cons_succ, List.set_cons_zero]; go_big_quiet_on) | (refine quiet_loadL HN 1 _ rfl _ rfl rfl ?_; simp only [Act.put, List.setIfInBounds_toArray, List.set_cons_succ, List.set_cons_zero]; go_big_quiet_on) | (refine quiet_bitL HM 0 _ rfl k (by omega) _ rfl rfl ?_; simp only [Act.put, List.setIfInBounds_toArray, List.set_cons_succ, List.set_cons_zero]; go_big_quiet_on) | (go_big_quiet_op; first | go_big_quiet_on | (refine Exists.intro _ (And.intro (fun _ _ => rfl) ?_); go_big_quiet_on) | go_big_quiet_call (((intro hC; replace hC : Below _ _ _ := hC); first | (go_at_call 39; (with_reducible refine (up_any _ _ _ _ hW0 hW).mono ?_); (rintro e w2 ⟨rfl, hb⟩; exact ⟨rfl, hC.trans (hb.mono hC.size)⟩)) | (go_at_call 24; (with_reducible refine (not_any _ _ _ hW).mono ?_); (rintro e w2 ⟨rfl, hb⟩; exact ⟨rfl, hC.trans (hb.mono hC.size)⟩)) | (go_at_call 33; (with_reducible refine (add_ref _ _ _ _ _ hW (by assumption) (by assumption)).mono ?_); (rintro e w2 ⟨rfl, hb⟩; exact ⟨rfl, hC.trans (hb.mono hC.size)⟩)))))))); (refine wpQuiet_nil ?_; intro w8 hb; replace hb : Below _ _ _ := hb; (replace HM := HM.below hb; replace HN := HN.below hb; replace HB := HB.trans (hb.mono HB.size); clear hb)))
        (repeat (first | with_reducible refine xThenN ?_ | with_reducible refine xThenE ?_ | with_reducible refine xThenR ?_ | with_reducible refine xThenP ?_ | with_reducible refine xBlockEq ?_ | with_reducible refine xBlockNe rfl ?_ | with_reducible refine xBlockN ?_ | with_reducible refine xBlockR ?_ | with_reducible refine xBlockP ?_ | ((with_reducible refine wl_id ?_); refine wl_storeL HN 1 _ _ rfl rfl _ _ rfl rfl rfl ?_; intro w9 HN1 hb; (simp only [List.set_cons_succ, List.set_cons_zero] at HN1); clear HN; have HN := HN1; clear HN1; replace HM := HM.under hb (by simp; omega); replace HB := HB.trans (hb.mono (by omega)); clear hb; simp only [Act.put, List.setIfInBounds_toArray, List.set_cons_succ, List.set_cons_zero]) | go_values | go_skip | go_guarded | go_step | go_upon | go_back | (dsimp only)))
        (refine wp_region_tail 6 (by kernel_rfl) (by kernel_rfl) ?_; simp only [List.take_succ_cons, List.take_zero, List.drop_succ_cons, List.drop_zero]; (repeat (first | go_big_quiet_skip | (go_big_quiet_want; first | (refine quiet_loadL HM 1 _ rfl _ rfl rfl ?_; simp only [Act.put, List.setIfInBounds_toArray, List.set_cons_succ, List.set_cons_zero]; go_big_quiet_on) | (refine quiet_loadL HN 1 _ rfl _ rfl rfl ?_; simp only [Act.put, List.setIfInBounds_toArray, List.set_cons_succ, List.set_cons_zero]; go_big_quiet_on) | (refine quiet_bitL HM 0 _ rfl k (by omega) _ rfl rfl ?_; simp only [Act.put, List.setIfInBounds_toArray, List.set_cons_succ, List.set_cons_zero]; go_big_quiet_on) | (go_big_quiet_op; first | go_big_quiet_on | (refine Exists.intro _ (And.intro (fun _ _ => rfl) ?_); go_big_quiet_on) | go_big_quiet_call (((intro hC; replace hC : Below _ _ _ := hC); first | (go_at_call 39; (with_reducible refine (up_any _ _ _ _ hW0 hW).mono ?_); (rintro e w2 ⟨rfl, hb⟩; exact ⟨rfl, hC.trans (hb.mono hC.size)⟩)) | (go_at_call 24; (with_reducible refine (not_any _ _ _ hW).mono ?_); (rintro e w2 ⟨rfl, hb⟩; exact ⟨rfl, hC.trans (hb.mono hC.size)⟩)) | (go_at_call 33; (with_reducible refine (add_ref _ _ _ _ _ hW (by assumption) (by assumption)).mono ?_); (rintro e w2 ⟨rfl, hb⟩; exact ⟨rfl, hC.trans (hb.mono hC.size)⟩)))))))); (refine wpQuiet_nil ?_; intro w8 hb; replace hb : Below _ _ _ := hb; (replace HM := HM.below hb; replace HN := HN.below hb; replace HB := HB.trans (hb.mono HB.size); clear hb)))
        (repeat (first | with_reducible refine xThenN ?_ | with_reducible refine xThenE ?_ | with_reducible refine xThenR ?_ | with_reducible refine xThenP ?_ | with_reducible refine xBlockEq ?_ | with_reducible refine xBlockNe rfl ?_ | with_reducible refine xBlockN ?_ | with_reducible refine xBlockR ?_ | with_reducible refine xBlockP ?_ | ((with_reducible refine wl_id ?_); refine wl_storeL HN 1 _ _ rfl rfl _ _ rfl rfl rfl ?_; intro w9 HN1 hb; (simp only [List.set_cons_succ, List.set_cons_zero] at HN1); clear HN; have HN := HN1; clear HN1; replace HM := HM.under hb (by simp; omega); replace HB := HB.trans (hb.mono (by omega)); clear hb; simp only [Act.put, List.setIfInBounds_toArray, List.set_cons_succ, List.set_cons_zero]) | ((with_reducible refine wl_id ?_); refine wl_bitL HN 0 _ rfl k (by omega) _ rfl _ _ rfl rfl rfl ?_; intro w9 HN1 hb; (simp only [List.set_cons_succ, List.set_cons_zero] at HN1); clear HN; have HN := HN1; clear HN1; replace HM := HM.under hb (by simp; omega); replace HB := HB.trans (hb.mono (by omega)); clear hb; simp only [Act.put, List.setIfInBounds_toArray, List.set_cons_succ, List.set_cons_zero]) | go_values | go_skip | go_guarded | go_step | go_upon | go_back | (dsimp only)))
        (have h := dv_ge (A := x / 2 ^ (k + 1)) (b := x.testBit k) hy0 (by rw [← hR.out]; exact Hge.out); exact ⟨⟨k, _, _, by omega, Lib.hid (by rw [hQ.out, Hnum.out, h.1]; exact dv_set _ _), Lib.hid (by rw [Hnum.out, h.2, ← hR.out]; exact dv_sub hy.out Hge.out (by have h1 := hRy.out; have h2 := Bool.toNat_le (x.testBit k); omega)), rfl, HB, HM, HN⟩, by simp [intOf]⟩)
      | false =>
        have Hz := Lib.hid (Ho.out.2 ho)
        rw [ho] at hov
        clear ho
        rcases Nat.lt_or_ge ((2 * R + (x.testBit k).toNat) % 2 ^ W) y with hlt | hlt
        · have hd : decide ((2 * R + (x.testBit k).toNat) % 2 ^ W < y) = true := by simpa using hlt
          have Hlt := Lib.hid hlt
          clear hlt
          (repeat (first | with_reducible refine xThenN ?_ | with_reducible refine xThenE ?_ | with_reducible refine xThenR ?_ | with_reducible refine xThenP ?_ | with_reducible refine xBlockEq ?_ | with_reducible refine xBlockNe rfl ?_ | with_reducible refine xBlockN ?_ | with_reducible refine xBlockR ?_ | with_reducible refine xBlockP ?_ | go_values | go_skip | go_guarded | go_step | go_upon | go_back | (dsimp only)))
          (refine wp_region_tail 6 (by kernel_rfl) (by kernel_rfl) ?_; simp only [List.take_succ_cons, List.take_zero, List.drop_succ_cons, List.drop_zero]; (repeat (first | go_big_quiet_skip | (go_big_quiet_want; first | (refine quiet_loadL HM 1 _ rfl _ rfl rfl ?_; simp only [Act.put, List.setIfInBounds_toArray, List.set_cons_succ, List.set_cons_zero]; go_big_quiet_on) | (refine quiet_loadL HN 1 _ rfl _ rfl rfl ?_; simp only [Act.put, List.setIfInBounds_toArray, List.set_cons_succ, List.set_cons_zero]; go_big_quiet_on) | (refine quiet_bitL HM 0 _ rfl k (by omega) _ rfl rfl ?_; simp only [Act.put, List.setIfInBounds_toArray, List.set_cons_succ, List.set_cons_zero]; go_big_quiet_on) | (go_big_quiet_op; first | go_big_quiet_on | (refine Exists.intro _ (And.intro (fun _ _ => rfl) ?_); go_big_quiet_on) | go_big_quiet_call (((intro hC; replace hC : Below _ _ _ := hC); first | (go_at_call 39; (with_reducible refine (up_any _ _ _ _ hW0 hW).mono ?_); (rintro e w2 ⟨rfl, hb⟩; exact ⟨rfl, hC.trans (hb.mono hC.size)⟩)) | (go_at_call 24; (with_reducible refine (not_any _ _ _ hW).mono ?_); (rintro e w2 ⟨rfl, hb⟩; exact ⟨rfl, hC.trans (hb.mono hC.size)⟩)) | (go_at_call 33; (with_reducible refine (add_ref _ _ _ _ _ hW (by assumption) (by assumption)).mono ?_); (rintro e w2 ⟨rfl, hb⟩; exact ⟨rfl, hC.trans (hb.mono hC.size)⟩)))))))); (refine wpQuiet_nil ?_; intro w8 hb; replace hb : Below _ _ _ := hb; (replace HM := HM.below hb; replace HN := HN.below hb; replace HB := HB.trans (hb.mono HB.size); clear hb)))
          (repeat (first | with_reducible refine xThenN ?_ | with_reducible refine xThenE ?_ | with_reducible refine xThenR ?_ | with_reducible refine xThenP ?_ | with_reducible refine xBlockEq ?_ | with_reducible refine xBlockNe rfl ?_ | with_reducible refine xBlockN ?_ | with_reducible refine xBlockR ?_ | with_reducible refine xBlockP ?_ | ((with_reducible refine wl_id ?_); refine wl_storeL HN 1 _ _ rfl rfl _ _ rfl rfl rfl ?_; intro w9 HN1 hb; (simp only [List.set_cons_succ, List.set_cons_zero] at HN1); clear HN; have HN := HN1; clear HN1; replace HM := HM.under hb (by simp; omega); replace HB := HB.trans (hb.mono (by omega)); clear hb; simp only [Act.put, List.setIfInBounds_toArray, List.set_cons_succ, List.set_cons_zero]) | ((with_reducible refine wl_id ?_); refine wl_loadG HN 1 _ rfl rfl _ rfl rfl ?_; simp only [Act.put, List.setIfInBounds_toArray, List.set_cons_succ, List.set_cons_zero]) | ((with_reducible refine wl_id ?_); refine wl_loadG HM 1 _ rfl rfl _ rfl rfl ?_; simp only [Act.put, List.setIfInBounds_toArray, List.set_cons_succ, List.set_cons_zero]) | (go_at_call 38; (with_reducible refine (less_ref _ _ _ _ hW (by assumption) (by assumption)).mono ?_); rintro e w9 ⟨rfl, hb⟩; (replace HM := HM.below hb; replace HN := HN.below hb; replace HB := HB.trans (hb.mono HB.size); clear hb)) | go_values | go_skip | go_guarded | go_step | go_upon | go_back | (dsimp only)))
          have h := dv_lt (A := x / 2 ^ (k + 1)) (b := x.testBit k) hy0 (by rw [← hR.out, ← Hz.out]; exact Hlt.out)
          exact ⟨⟨k, _, _, by omega, Lib.hid (by rw [hQ.out, Hnum.out, h.1, Nat.pow_succ, Nat.mul_comm 2 (_ / _), Nat.mul_assoc, Nat.mul_comm 2]), Lib.hid (by rw [Hnum.out, h.2, ← hR.out, Hz.out]), rfl, HB, HM, HN⟩, by simp [intOf]⟩
        · have hd : decide ((2 * R + (x.testBit k).toNat) % 2 ^ W < y) = false := by simpa using hlt
          have Hge : Hid (y ≤ 2 * R + (x.testBit k).toNat) := Lib.hid (by rw [← Hz.out]; exact hlt)
          clear hlt
          (repeat (first | with_reducible refine xThenN ?_ | with_reducible refine xThenE ?_ | with_reducible refine xThenR ?_ | with_reducible refine xThenP ?_ | with_reducible refine xBlockEq ?_ | with_reducible refine xBlockNe rfl ?_ | with_reducible refine xBlockN ?_ | with_reducible refine xBlockR ?_ | with_reducible refine xBlockP ?_ | go_values | go_skip | go_guarded | go_step | go_upon | go_back | (dsimp only)))
          (refine wp_region_tail 6 (by kernel_rfl) (by kernel_rfl) ?_; simp only [List.take_succ_cons, List.take_zero, List.drop_succ_cons, List.drop_zero]; (repeat (first | go_big_quiet_skip | (go_big_quiet_want; first | (refine quiet_loadL HM 1 _ rfl _ rfl rfl ?_; simp only [Act.put, List.setIfInBounds_toArray, List.set_cons_succ, List.set_cons_zero]; go_big_quiet_on) | (refine quiet_loadL HN 1 _ rfl _ rfl rfl ?_; simp only [Act.put, List.setIfInBounds_toArray, List.set_cons_succ, List.set_cons_zero]; go_big_quiet_on) | (refine quiet_bitL HM 0 _ rfl k (by omega) _ rfl rfl ?_; simp only [Act.put, List.setIfInBounds_toArray, List.set_cons_succ, List.set_cons_zero]; go_big_quiet_on) | (go_big_quiet_op; first | go_big_quiet_on | (refine Exists.intro _ (And.intro (fun _ _ => rfl) ?_); go_big_quiet_on) | go_big_quiet_call (((intro hC; replace hC : Below _ _ _ := hC); first | (go_at_call 39; (with_reducible refine (up_any _ _ _ _ hW0 hW).mono ?_); (rintro e w2 ⟨rfl, hb⟩; exact ⟨rfl, hC.trans (hb.mono hC.size)⟩)) | (go_at_call 24; (with_reducible refine (not_any _ _ _ hW).mono ?_); (rintro e w2 ⟨rfl, hb⟩; exact ⟨rfl, hC.trans (hb.mono hC.size)⟩)) | (go_at_call 33; (with_reducible refine (add_ref _ _ _ _ _ hW (by assumption) (by assumption)).mono ?_); (rintro e w2 ⟨rfl, hb⟩; exact ⟨rfl, hC.trans (hb.mono hC.size)⟩)))))))); (refine wpQuiet_nil ?_; intro w8 hb; replace hb : Below _ _ _ := hb; (replace HM := HM.below hb; replace HN := HN.below hb; replace HB := HB.trans (hb.mono HB.size); clear hb)))
          (repeat (first | with_reducible refine xThenN ?_ | with_reducible refine xThenE ?_ | with_reducible refine xThenR ?_ | with_reducible refine xThenP ?_ | with_reducible refine xBlockEq ?_ | with_reducible refine xBlockNe rfl ?_ | with_reducible refine xBlockN ?_ | with_reducible refine xBlockR ?_ | with_reducible refine xBlockP ?_ | ((with_reducible refine wl_id ?_); refine wl_storeL HN 1 _ _ rfl rfl _ _ rfl rfl rfl ?_; intro w9 HN1 hb; (simp only [List.set_cons_succ, List.set_cons_zero] at HN1); clear HN; have HN := HN1; clear HN1; replace HM := HM.under hb (by simp; omega); replace HB := HB.trans (hb.mono (by omega)); clear hb; simp only [Act.put, List.setIfInBounds_toArray, List.set_cons_succ, List.set_cons_zero]) | ((with_reducible refine wl_id ?_); refine wl_loadG HN 1 _ rfl rfl _ rfl rfl ?_; simp only [Act.put, List.setIfInBounds_toArray, List.set_cons_succ, List.set_cons_zero]) | ((with_reducible refine wl_id ?_); refine wl_loadG HM 1 _ rfl rfl _ rfl rfl ?_; simp only [Act.put, List.setIfInBounds_toArray, List.set_cons_succ, List.set_cons_zero]) | (go_at_call 38; (with_reducible refine (less_ref _ _ _ _ hW (by assumption) (by assumption)).mono ?_); rintro e w9 ⟨rfl, hb⟩; (replace HM := HM.below hb; replace HN := HN.below hb; replace HB := HB.trans (hb.mono HB.size); clear hb)) | go_values | go_skip | go_guarded | go_step | go_upon | go_back | (dsimp only)))
          (refine wp_region_tail 6 (by kernel_rfl) (by kernel_rfl) ?_; simp only [List.take_succ_cons, List.take_zero, List.drop_succ_cons, List.drop_zero]; (repeat (first | go_big_quiet_skip | (go_big_quiet_want; first | (refine quiet_loadL HM 1 _ rfl _ rfl rfl ?_; simp only [Act.put, List.setIfInBounds_toArray, List.set_cons_succ, List.set_cons_zero]; go_big_quiet_on) | (refine quiet_loadL HN 1 _ rfl _ rfl rfl ?_; simp only [Act.put, List.setIfInBounds_toArray, List.set_cons_succ, List.set_cons_zero]; go_big_quiet_on) | (refine quiet_bitL HM 0 _ rfl k (by omega) _ rfl rfl ?_; simp only [Act.put, List.setIfInBounds_toArray, List.set_cons_succ, List.set_cons_zero]; go_big_quiet_on) | (go_big_quiet_op; first | go_big_quiet_on | (refine Exists.intro _ (And.intro (fun _ _ => rfl) ?_); go_big_quiet_on) | go_big_quiet_call (((intro hC; replace hC : Below _ _ _ := hC); first | (go_at_call 39; (with_reducible refine (up_any _ _ _ _ hW0 hW).mono ?_); (rintro e w2 ⟨rfl, hb⟩; exact ⟨rfl, hC.trans (hb.mono hC.size)⟩)) | (go_at_call 24; (with_reducible refine (not_any _ _ _ hW).mono ?_); (rintro e w2 ⟨rfl, hb⟩; exact ⟨rfl, hC.trans (hb.mono hC.size)⟩)) | (go_at_call 33; (with_reducible refine (add_ref _ _ _ _ _ hW (by assumption) (by assumption)).mono ?_); (rintro e w2 ⟨rfl, hb⟩; exact ⟨rfl, hC.trans (hb.mono hC.size)⟩)))))))); (refine wpQuiet_nil ?_; intro w8 hb; replace hb : Below _ _ _ := hb; (replace HM := HM.below hb; replace HN := HN.below hb; replace HB := HB.trans (hb.mono HB.size); clear hb)))
          (repeat (first | with_reducible refine xThenN ?_ | with_reducible refine xThenE ?_ | with_reducible refine xThenR ?_ | with_reducible refine xThenP ?_ | with_reducible refine xBlockEq ?_ | with_reducible refine xBlockNe rfl ?_ | with_reducible refine xBlockN ?_ | with_reducible refine xBlockR ?_ | with_reducible refine xBlockP ?_ | ((with_reducible refine wl_id ?_); refine wl_storeL HN 1 _ _ rfl rfl _ _ rfl rfl rfl ?_; intro w9 HN1 hb; (simp only [List.set_cons_succ, List.set_cons_zero] at HN1); clear HN; have HN := HN1; clear HN1; replace HM := HM.under hb (by simp; omega); replace HB := HB.trans (hb.mono (by omega)); clear hb; simp only [Act.put, List.setIfInBounds_toArray, List.set_cons_succ, List.set_cons_zero]) | ((with_reducible refine wl_id ?_); refine wl_bitL HN 0 _ rfl k (by omega) _ rfl _ _ rfl rfl rfl ?_; intro w9 HN1 hb; (simp only [List.set_cons_succ, List.set_cons_zero] at HN1); clear HN; have HN := HN1; clear HN1; replace HM := HM.under hb (by simp; omega); replace HB := HB.trans (hb.mono (by omega)); clear hb; simp only [Act.put, List.setIfInBounds_toArray, List.set_cons_succ, List.set_cons_zero]) | go_values | go_skip | go_guarded | go_step | go_upon | go_back | (dsimp only)))
          (have h := dv_ge (A := x / 2 ^ (k + 1)) (b := x.testBit k) hy0 (by rw [← hR.out]; exact Hge.out); exact ⟨⟨k, _, _, by omega, Lib.hid (by rw [hQ.out, Hnum.out, h.1]; exact dv_set _ _), Lib.hid (by rw [Hnum.out, h.2, ← hR.out]; exact dv_sub hy.out Hge.out (by have h1 := hRy.out; have h2 := Bool.toNat_le (x.testBit k); omega)), rfl, HB, HM, HN⟩, by simp [intOf]⟩)

end Go.Proofs.Ytafjllfmagmhbaa
