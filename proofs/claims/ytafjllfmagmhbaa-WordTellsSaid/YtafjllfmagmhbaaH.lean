import Derived.Test.YtafjllfmagmhbaaG
namespace Go.Proofs.Ytafjllfmagmhbaa
open Go.RowKit

set_option maxHeartbeats 400000 in
theorem add_any (a x y : Int) (b : Nat) (w : World) (hc : w.cell? ⟨b, 0, none⟩ = some (.int .i64 a)) :
    Calls Try.prog 20 #[.int .u64 x, .int .u64 y, .pointer (some ⟨b, 0, none⟩)] w fun e w' => e = .returned (.int .u64 (AP 8 a x y)) ∧ Below w.heap.size w w' := by
  go_enter Try.func20, Try.ntmps20
  (repeat (first | with_reducible refine xThenN ?_ | with_reducible refine xThenE ?_ | with_reducible refine xThenR ?_ | with_reducible refine xThenP ?_ | with_reducible refine xBlockEq ?_ | with_reducible refine xBlockNe rfl ?_ | with_reducible refine xBlockN ?_ | with_reducible refine xBlockR ?_ | with_reducible refine xBlockP ?_ | (go_at_call 11; with_reducible refine (apply_any _ _ _ _ _).mono ?_; rintro e w1 ⟨rfl, hb⟩) | go_values | go_skip | go_guarded | go_step | go_upon | go_back | (dsimp only)))
  go_ret
  exact ⟨rfl, hb⟩

set_option maxHeartbeats 400000 in
theorem mul_any (a x y : Int) (b : Nat) (w : World) (hc : w.cell? ⟨b, 0, none⟩ = some (.int .i64 a)) :
    Calls Try.prog 21 #[.int .u64 x, .int .u64 y, .pointer (some ⟨b, 0, none⟩)] w fun e w' => e = .returned (.int .u64 (AP 10 a x y)) ∧ Below w.heap.size w w' := by
  go_enter Try.func21, Try.ntmps21
  (repeat (first | with_reducible refine xThenN ?_ | with_reducible refine xThenE ?_ | with_reducible refine xThenR ?_ | with_reducible refine xThenP ?_ | with_reducible refine xBlockEq ?_ | with_reducible refine xBlockNe rfl ?_ | with_reducible refine xBlockN ?_ | with_reducible refine xBlockR ?_ | with_reducible refine xBlockP ?_ | (go_at_call 11; with_reducible refine (apply_any _ _ _ _ _).mono ?_; rintro e w1 ⟨rfl, hb⟩) | go_values | go_skip | go_guarded | go_step | go_upon | go_back | (dsimp only)))
  go_ret
  exact ⟨rfl, hb⟩

theorem A8 (a x y : Int) : AP 8 a x y = (x + y) % 2 ^ wid a := by
  show (x % 2 ^ wid a + y % 2 ^ wid a) % 2 ^ wid a = _
  rw [← Int.add_emod]
theorem A10 (a x y : Int) : AP 10 a x y = (x * y) % 2 ^ wid a := by
  show (x % 2 ^ wid a * (y % 2 ^ wid a)) % 2 ^ wid a = _
  rw [← Int.mul_emod]
theorem A9 (a x y : Int) : AP 9 a x y = (x - y) % 2 ^ wid a := by
  show (x % 2 ^ wid a - y % 2 ^ wid a) % 2 ^ wid a = _
  rw [← Int.sub_emod]
theorem A5 (a x y : Int) : AP 5 a x y = 2 ^ wid a - 1 - x % 2 ^ wid a := rfl

theorem ea1 (u v M : Int) : (u % M + v) % M = (u + v) % M := Int.emod_add_emod ..
theorem ea2 (u v M : Int) : (u + v % M) % M = (u + v) % M := by rw [Int.add_comm, ea1, Int.add_comm]
theorem es1 (u v M : Int) : (u % M - v) % M = (u - v) % M := by rw [Int.sub_eq_add_neg, ea1, ← Int.sub_eq_add_neg]
theorem es2 (u v M : Int) : (u - v % M) % M = (u - v) % M := by rw [Int.sub_emod, Int.emod_emod, ← Int.sub_emod]
theorem em1 (u v M : Int) : (u % M * v) % M = (u * v) % M := by rw [Int.mul_emod, Int.emod_emod, ← Int.mul_emod]
theorem em2 (u v M : Int) : (u * (v % M)) % M = (u * v) % M := by rw [Int.mul_comm, em1, Int.mul_comm]

theorem bne_f {x y : Int} (h : x = y) : (x != y) = false := by subst h; simp
theorem beq_t {x y : Int} (h : x = y) : (x == y) = true := by subst h; simp

theorem r1 (a x y : Int) : (AP 8 a x y != AP 8 a y x) = false := bne_f (by rw [A8, A8, Int.add_comm])
theorem r2 (a x y : Int) : (AP 10 a x y != AP 10 a y x) = false := bne_f (by rw [A10, A10, Int.mul_comm])
theorem r3 (a x y z : Int) : (AP 8 a (AP 8 a x y) z != AP 8 a x (AP 8 a y z)) = false := bne_f (by rw [A8, A8, A8, A8, ea1, ea2, Int.add_assoc])
theorem r4 (a x y z : Int) : (AP 10 a (AP 10 a x y) z != AP 10 a x (AP 10 a y z)) = false := bne_f (by rw [A10, A10, A10, A10, em1, em2, Int.mul_assoc])
theorem r5 (a x y z : Int) : (AP 10 a x (AP 8 a y z) != AP 8 a (AP 10 a x y) (AP 10 a x z)) = false := bne_f (by rw [A10, A8, A8, A10, A10, em2, ea1, ea2, Int.mul_add])
theorem r6 (a x y : Int) : (AP 9 a (AP 8 a x y) y != x % 2 ^ wid a) = false := bne_f (by rw [A9, A8, es1, Int.add_sub_cancel])
theorem r7 (a x y : Int) : (AP 8 a (AP 5 a x y) 1 == AP 9 a 0 x) = true := beq_t (by
  rw [A8, A9, A5, show (2 : Int) ^ wid a - 1 - x % 2 ^ wid a + 1 = 2 ^ wid a - x % 2 ^ wid a by omega, es2, Int.sub_emod, Int.emod_self, es2])
theorem r8 (a x : Int) : (AP 10 a x 1 == x % 2 ^ wid a) = true := beq_t (by rw [A10, Int.mul_one])
theorem r9 (a x : Int) : (AP 8 a x 0 == x % 2 ^ wid a) = true := beq_t (by rw [A8, Int.add_zero])

set_option maxRecDepth 100000 in
set_option maxHeartbeats 4000000 in
theorem rings_walk (a x y z : Int) (w : World) :
    Calls Try.prog 4 #[.int .i64 a, .int .u64 x, .int .u64 y, .int .u64 z] w fun e w' => e = .returned (.bool true) ∧ Below w.heap.size w w' := by
  have hw : (w.alloc (.cells #[.int .i64 a] 3)).cell? ⟨w.heap.size, 0, none⟩ = some (.int .i64 a) := by simp
  have k1 := r1 a x y
  have k2 := r2 a x y
  have k3 := r3 a x y z
  have k4 := r4 a x y z
  have k5 := r5 a x y z
  have k6 := r6 a x y
  have k7 := r7 a x y
  have k8 := r8 a x
  have k9 := r9 a x
  go_enter Try.func4, Try.ntmps4
  (repeat (first | with_reducible refine xThenN ?_ | with_reducible refine xThenE ?_ | with_reducible refine xThenR ?_ | with_reducible refine xThenP ?_ | with_reducible refine xBlockEq ?_ | with_reducible refine xBlockNe rfl ?_ | with_reducible refine xBlockN ?_ | with_reducible refine xBlockR ?_ | with_reducible refine xBlockP ?_ | go_values | go_skip | go_guarded | go_step | go_upon | go_back | (dsimp only)))
  refine (awake_any _).mono ?_; rintro e w1 ⟨rfl, hb⟩
  have HB : Below w.heap.size w w1 := ((Below.refl _ _).alloc (Nat.le_refl _) _).trans (hb.mono (by simp))
  have hc : w1.cell? ⟨w.heap.size, 0, none⟩ = some (.int .i64 a) := (hb.cell (p := ⟨w.heap.size, 0, none⟩) (by simp)).trans hw
  have hl : w.heap.size < w1.heap.size := by have := hb.size; simp at this; omega
  clear hb hw
  (repeat (first | with_reducible refine xThenN ?_ | with_reducible refine xThenE ?_ | with_reducible refine xThenR ?_ | with_reducible refine xThenP ?_ | with_reducible refine xBlockEq ?_ | with_reducible refine xBlockNe rfl ?_ | with_reducible refine xBlockN ?_ | with_reducible refine xBlockR ?_ | with_reducible refine xBlockP ?_ | (go_at_call 11; (with_reducible refine (apply_any _ _ _ _ _).mono ?_); rintro e w1 ⟨rfl, hb⟩; have hc' := (hb.cell (p := ⟨w.heap.size, 0, none⟩) hl).trans hc; have hl' := Nat.lt_of_lt_of_le hl hb.size; replace HB := HB.trans (hb.mono HB.size); clear hb hc hl; have hc := hc'; have hl := hl'; clear hc' hl') | (go_at_call 20; (with_reducible refine (add_any _ _ _ _ _ hc).mono ?_); rintro e w1 ⟨rfl, hb⟩; have hc' := (hb.cell (p := ⟨w.heap.size, 0, none⟩) hl).trans hc; have hl' := Nat.lt_of_lt_of_le hl hb.size; replace HB := HB.trans (hb.mono HB.size); clear hb hc hl; have hc := hc'; have hl := hl'; clear hc' hl') | (go_at_call 21; (with_reducible refine (mul_any _ _ _ _ _ hc).mono ?_); rintro e w1 ⟨rfl, hb⟩; have hc' := (hb.cell (p := ⟨w.heap.size, 0, none⟩) hl).trans hc; have hl' := Nat.lt_of_lt_of_le hl hb.size; replace HB := HB.trans (hb.mono HB.size); clear hb hc hl; have hc := hc'; have hl := hl'; clear hc' hl') | (go_at_call 14; (with_reducible refine (cut_any _ _ _).mono ?_); rintro e w1 ⟨rfl, rfl⟩) | (go_at_call 13; (with_reducible refine (mask_any _ _).mono ?_); rintro e w1 ⟨rfl, rfl⟩) | (go_at_call 18; (with_reducible refine (sign_any _ _ _).mono ?_); rintro e w1 ⟨rfl, rfl⟩) | go_values | go_skip | go_guarded | go_step | go_upon | go_back | (dsimp only)))
  (refine wp_region_cls (by kernel_rfl) (by kernel_rfl) ?_; (repeat (first | go_big_quiet_skip | (go_big_quiet_want; first | (refine quiet_load 3 _ rfl ⟨w.heap.size, 0, none⟩ rfl (.int .i64 a) (fun w' h => (Below.cell h hl).trans hc) (fun w' h => ld3 _ _ _ h) ?_; simp only [Act.put, List.setIfInBounds_toArray, List.set_cons_succ, List.set_cons_zero]; go_big_quiet_on) | (go_big_quiet_op; first | go_big_quiet_on | (refine Exists.intro _ (And.intro (fun _ _ => rfl) ?_); go_big_quiet_on) | go_big_quiet_call ((intro hC; replace hC : Below _ _ _ := hC; first | (go_at_call 11; (with_reducible refine (apply_any _ _ _ _ _).mono ?_); rintro e w2 ⟨rfl, hb⟩; exact ⟨rfl, hC.trans (hb.mono hC.size)⟩) | (go_at_call 20; (with_reducible refine (add_any _ _ _ _ _ ((hC.cell hl).trans hc)).mono ?_); rintro e w2 ⟨rfl, hb⟩; exact ⟨rfl, hC.trans (hb.mono hC.size)⟩) | (go_at_call 21; (with_reducible refine (mul_any _ _ _ _ _ ((hC.cell hl).trans hc)).mono ?_); rintro e w2 ⟨rfl, hb⟩; exact ⟨rfl, hC.trans (hb.mono hC.size)⟩) | (go_at_call 14; (with_reducible refine (cut_any _ _ _).mono ?_); rintro e w2 ⟨rfl, rfl⟩; exact ⟨rfl, hC⟩) | (go_at_call 13; (with_reducible refine (mask_any _ _).mono ?_); rintro e w2 ⟨rfl, rfl⟩; exact ⟨rfl, hC⟩) | (go_at_call 18; (with_reducible refine (sign_any _ _ _).mono ?_); rintro e w2 ⟨rfl, rfl⟩; exact ⟨rfl, hC⟩))))))); refine wpQuiet_nil ?_; intro w1 hb; replace hb : Below _ _ _ := hb; have hc' := (hb.cell (p := ⟨w.heap.size, 0, none⟩) hl).trans hc; have hl' := Nat.lt_of_lt_of_le hl hb.size; replace HB := HB.trans (hb.mono HB.size); clear hb hc hl; have hc := hc'; have hl := hl'; clear hc' hl')
  (repeat (first | with_reducible refine xThenN ?_ | with_reducible refine xThenE ?_ | with_reducible refine xThenR ?_ | with_reducible refine xThenP ?_ | with_reducible refine xBlockEq ?_ | with_reducible refine xBlockNe rfl ?_ | with_reducible refine xBlockN ?_ | with_reducible refine xBlockR ?_ | with_reducible refine xBlockP ?_ | (go_at_call 11; (with_reducible refine (apply_any _ _ _ _ _).mono ?_); rintro e w1 ⟨rfl, hb⟩; have hc' := (hb.cell (p := ⟨w.heap.size, 0, none⟩) hl).trans hc; have hl' := Nat.lt_of_lt_of_le hl hb.size; replace HB := HB.trans (hb.mono HB.size); clear hb hc hl; have hc := hc'; have hl := hl'; clear hc' hl') | (go_at_call 20; (with_reducible refine (add_any _ _ _ _ _ hc).mono ?_); rintro e w1 ⟨rfl, hb⟩; have hc' := (hb.cell (p := ⟨w.heap.size, 0, none⟩) hl).trans hc; have hl' := Nat.lt_of_lt_of_le hl hb.size; replace HB := HB.trans (hb.mono HB.size); clear hb hc hl; have hc := hc'; have hl := hl'; clear hc' hl') | (go_at_call 21; (with_reducible refine (mul_any _ _ _ _ _ hc).mono ?_); rintro e w1 ⟨rfl, hb⟩; have hc' := (hb.cell (p := ⟨w.heap.size, 0, none⟩) hl).trans hc; have hl' := Nat.lt_of_lt_of_le hl hb.size; replace HB := HB.trans (hb.mono HB.size); clear hb hc hl; have hc := hc'; have hl := hl'; clear hc' hl') | (go_at_call 14; (with_reducible refine (cut_any _ _ _).mono ?_); rintro e w1 ⟨rfl, rfl⟩) | (go_at_call 13; (with_reducible refine (mask_any _ _).mono ?_); rintro e w1 ⟨rfl, rfl⟩) | (go_at_call 18; (with_reducible refine (sign_any _ _ _).mono ?_); rintro e w1 ⟨rfl, rfl⟩) | go_values | go_skip | go_guarded | go_step | go_upon | go_back | (dsimp only)))
  (refine wp_region_cls (by kernel_rfl) (by kernel_rfl) ?_; (repeat (first | go_big_quiet_skip | (go_big_quiet_want; first | (refine quiet_load 3 _ rfl ⟨w.heap.size, 0, none⟩ rfl (.int .i64 a) (fun w' h => (Below.cell h hl).trans hc) (fun w' h => ld3 _ _ _ h) ?_; simp only [Act.put, List.setIfInBounds_toArray, List.set_cons_succ, List.set_cons_zero]; go_big_quiet_on) | (go_big_quiet_op; first | go_big_quiet_on | (refine Exists.intro _ (And.intro (fun _ _ => rfl) ?_); go_big_quiet_on) | go_big_quiet_call ((intro hC; replace hC : Below _ _ _ := hC; first | (go_at_call 11; (with_reducible refine (apply_any _ _ _ _ _).mono ?_); rintro e w2 ⟨rfl, hb⟩; exact ⟨rfl, hC.trans (hb.mono hC.size)⟩) | (go_at_call 20; (with_reducible refine (add_any _ _ _ _ _ ((hC.cell hl).trans hc)).mono ?_); rintro e w2 ⟨rfl, hb⟩; exact ⟨rfl, hC.trans (hb.mono hC.size)⟩) | (go_at_call 21; (with_reducible refine (mul_any _ _ _ _ _ ((hC.cell hl).trans hc)).mono ?_); rintro e w2 ⟨rfl, hb⟩; exact ⟨rfl, hC.trans (hb.mono hC.size)⟩) | (go_at_call 14; (with_reducible refine (cut_any _ _ _).mono ?_); rintro e w2 ⟨rfl, rfl⟩; exact ⟨rfl, hC⟩) | (go_at_call 13; (with_reducible refine (mask_any _ _).mono ?_); rintro e w2 ⟨rfl, rfl⟩; exact ⟨rfl, hC⟩) | (go_at_call 18; (with_reducible refine (sign_any _ _ _).mono ?_); rintro e w2 ⟨rfl, rfl⟩; exact ⟨rfl, hC⟩))))))); refine wpQuiet_nil ?_; intro w1 hb; replace hb : Below _ _ _ := hb; have hc' := (hb.cell (p := ⟨w.heap.size, 0, none⟩) hl).trans hc; have hl' := Nat.lt_of_lt_of_le hl hb.size; replace HB := HB.trans (hb.mono HB.size); clear hb hc hl; have hc := hc'; have hl := hl'; clear hc' hl')
  (repeat (first | with_reducible refine xThenN ?_ | with_reducible refine xThenE ?_ | with_reducible refine xThenR ?_ | with_reducible refine xThenP ?_ | with_reducible refine xBlockEq ?_ | with_reducible refine xBlockNe rfl ?_ | with_reducible refine xBlockN ?_ | with_reducible refine xBlockR ?_ | with_reducible refine xBlockP ?_ | go_values | go_skip | go_guarded | go_step | go_upon | go_back | (dsimp only)))
  go_ret
  exact ⟨rfl, HB⟩

end Go.Proofs.Ytafjllfmagmhbaa
