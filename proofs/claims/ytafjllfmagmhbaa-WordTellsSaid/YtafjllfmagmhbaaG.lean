import Derived.Test.YtafjllfmagmhbaaF
import Derived.Test.YtafjllfmagmhbaaK
namespace Go.Proofs.Ytafjllfmagmhbaa
open Go.RowKit

theorem ld3 (w : World) (p : Addr) (n : Int) (h : w.cell? p = some (.int .i64 n)) : (Instr.loadAt 3 (.pointer (some p))).run Try.prog w = .ok (.int .i64 n) w := by go_simp

set_option maxHeartbeats 400000 in
theorem less_any (a x y : Int) (b : Nat) (w : World) (hc : w.cell? ⟨b, 0, none⟩ = some (.int .i64 a)) :
    Calls Try.prog 22 #[.int .u64 x, .int .u64 y, .pointer (some ⟨b, 0, none⟩)] w fun e w' => e = .returned (.int .u64 (AP 20 a x y)) ∧ Below w.heap.size w w' := by
  go_enter Try.func22, Try.ntmps22
  (repeat (first | with_reducible refine xThenN ?_ | with_reducible refine xThenE ?_ | with_reducible refine xThenR ?_ | with_reducible refine xThenP ?_ | with_reducible refine xBlockEq ?_ | with_reducible refine xBlockNe rfl ?_ | with_reducible refine xBlockN ?_ | with_reducible refine xBlockR ?_ | with_reducible refine xBlockP ?_ | (go_at_call 11; (with_reducible refine (apply_any _ _ _ _ _).mono ?_); rintro e w1 ⟨rfl, hb⟩) | go_values | go_skip | go_guarded | go_step | go_upon | go_back | (dsimp only)))
  go_ret
  exact ⟨rfl, hb⟩

set_option maxHeartbeats 400000 in
theorem below_any (a x y : Int) (b : Nat) (w : World) (hc : w.cell? ⟨b, 0, none⟩ = some (.int .i64 a)) :
    Calls Try.prog 23 #[.int .u64 x, .int .u64 y, .pointer (some ⟨b, 0, none⟩)] w fun e w' => e = .returned (.int .u64 (AP 21 a x y)) ∧ Below w.heap.size w w' := by
  go_enter Try.func23, Try.ntmps23
  (repeat (first | with_reducible refine xThenN ?_ | with_reducible refine xThenE ?_ | with_reducible refine xThenR ?_ | with_reducible refine xThenP ?_ | with_reducible refine xBlockEq ?_ | with_reducible refine xBlockNe rfl ?_ | with_reducible refine xBlockN ?_ | with_reducible refine xBlockR ?_ | with_reducible refine xBlockP ?_ | (go_at_call 11; (with_reducible refine (apply_any _ _ _ _ _).mono ?_); rintro e w1 ⟨rfl, hb⟩) | go_values | go_skip | go_guarded | go_step | go_upon | go_back | (dsimp only)))
  go_ret
  exact ⟨rfl, hb⟩

theorem top_eq (a : Int) : IntKind.u64.wrap (maskI a - IntKind.u64.wrap ((maskI a).tdiv 2)) = 2 ^ (wid a - 1) := by
  have hb := wid_bd a
  have h1 : 0 ≤ maskI a ∧ maskI a < 18446744073709551616 := by
    unfold maskI
    have := pow_le64 hb.2
    have h0 : (0 : Int) < 2 ^ wid a := Int.pow_pos (by decide)
    rw [pow_nat] at *
    omega
  rw [quo_m h1.1 h1.2 (by decide), IntKind.wrap_u64]
  have e : maskI a = 2 * 2 ^ (wid a - 1) - 1 := by
    unfold maskI
    obtain ⟨V, hV⟩ : ∃ V, wid a = V + 1 := ⟨wid a - 1, by omega⟩
    rw [hV, show V + 1 - 1 = V from by omega, Int.pow_succ]; omega
  have h0 : (0 : Int) < 2 ^ (wid a - 1) := Int.pow_pos (by decide)
  rw [e] at h1 ⊢
  generalize (2 : Int) ^ (wid a - 1) = H at *
  have h2 : (2 * H - 1) / 2 = H - 1 := by omega
  rw [h2, show 2 * H - 1 - (H - 1) = H by omega]
  exact Int.emod_eq_of_lt (by omega) (by omega)

theorem lt_or_eq (c d : Int) : IntKind.u64.wrap (IntKind.u64.wrap ((if c < d then (1 : Int) else 0) + (if d < c then 1 else 0)) + (if c = d then 1 else 0)) = 1 := by
  rw [IntKind.wrap_u64, IntKind.wrap_u64]
  rcases Int.lt_trichotomy c d with h | h | h
  · rw [if_pos h, if_neg (by omega), if_neg (by omega)]; rfl
  · subst h; simp
  · rw [if_neg (by omega), if_pos h, if_neg (by omega)]; rfl

theorem sg_inj {W : Nat} (hW : 1 ≤ W) {X Y : Int} (h1 : 0 ≤ X ∧ X < 2 ^ W) (h2 : 0 ≤ Y ∧ Y < 2 ^ W) : X = Y ↔ sgI W X = sgI W Y := by
  constructor
  · rintro rfl; rfl
  · intro h
    unfold sgI at h
    rw [Int.emod_eq_of_lt h1.1 h1.2, Int.emod_eq_of_lt h2.1 h2.2] at h
    obtain ⟨V, rfl⟩ : ∃ V, W = V + 1 := ⟨W - 1, by omega⟩
    rw [show V + 1 - 1 = V from by omega] at h
    have hpc : ((2 : Int) ^ (V + 1)) = 2 * 2 ^ V := by rw [Int.pow_succ]; omega
    rw [hpc] at *
    generalize (2 : Int) ^ V = H at *
    split at h <;> split at h <;> omega

theorem orders1 (a x y : Int) : (IntKind.u64.wrap (IntKind.u64.wrap (AP 20 a x y + AP 20 a y x) + AP 19 a x y) != 1) = false := by
  have h : IntKind.u64.wrap (IntKind.u64.wrap (AP 20 a x y + AP 20 a y x) + AP 19 a x y) = 1 := lt_or_eq _ _
  rw [h]; rfl
theorem orders2 (a x y : Int) : (IntKind.u64.wrap (IntKind.u64.wrap (AP 21 a x y + AP 21 a y x) + AP 19 a x y) != 1) = false := by
  have e : AP 19 a x y = if sgI (wid a) (x % 2 ^ wid a) = sgI (wid a) (y % 2 ^ wid a) then 1 else 0 := by
    have h1 := cut_lt a x
    have h2 := cut_lt a y
    show (if x % 2 ^ wid a = y % 2 ^ wid a then (1 : Int) else 0) = _
    simp only [sg_inj (wid_bd a).1 ⟨h1.1, h1.2.1⟩ ⟨h2.1, h2.2.1⟩]
  have h : IntKind.u64.wrap (IntKind.u64.wrap (AP 21 a x y + AP 21 a y x) + AP 19 a x y) = 1 := by rw [e]; exact lt_or_eq _ _
  rw [h]; rfl

theorem orders3 (a x y : Int) : (AP 21 a x y == AP 20 a (AP 15 a x (2 ^ (wid a - 1))) (AP 15 a y (2 ^ (wid a - 1)))) = true := by
  have hb := wid_bd a
  obtain ⟨V, hV⟩ : ∃ V, wid a = V + 1 := ⟨wid a - 1, by omega⟩
  have key : ∀ z : Int, AP 15 a z (2 ^ (wid a - 1)) = sgI (wid a) (z % 2 ^ wid a) + 2 ^ (wid a - 1) := by
    intro z
    have h1 := cut_lt a z
    show (((z % 2 ^ wid a).toNat ^^^ (2 ^ (wid a - 1) % 2 ^ wid a : Int).toNat : Nat) : Int) = _
    generalize z % 2 ^ wid a = Z at *
    obtain ⟨n, rfl⟩ := Int.eq_ofNat_of_zero_le h1.1
    rw [hV] at h1 ⊢
    rw [show V + 1 - 1 = V from by omega]
    have hn : n < 2 ^ (V + 1) := by have := h1.2.1; rw [pow_nat] at this; omega
    have e : ((2 : Int) ^ V % 2 ^ (V + 1)).toNat = 2 ^ V := by
      rw [pow_nat, pow_nat, ← Int.natCast_emod, Int.toNat_natCast, Nat.mod_eq_of_lt (Nat.pow_lt_pow_right (by omega) (by omega))]
    rw [e, Int.toNat_natCast, xor_top hn]
    unfold sgI
    rw [show V + 1 - 1 = V from by omega, Int.emod_eq_of_lt h1.1 h1.2.1, pow_nat, pow_nat]
    rw [Nat.pow_succ] at *
    split <;> split <;> omega
  have h20 : AP 20 a (AP 15 a x (2 ^ (wid a - 1))) (AP 15 a y (2 ^ (wid a - 1))) = if AP 15 a x (2 ^ (wid a - 1)) < AP 15 a y (2 ^ (wid a - 1)) then 1 else 0 := by
    show (if AP 15 a x (2 ^ (wid a - 1)) % 2 ^ wid a < AP 15 a y (2 ^ (wid a - 1)) % 2 ^ wid a then (1 : Int) else 0) = _
    rw [AP_cut, AP_cut]
  have h21 : AP 21 a x y = if sgI (wid a) (x % 2 ^ wid a) < sgI (wid a) (y % 2 ^ wid a) then 1 else 0 := rfl
  rw [h20, h21, key, key]
  have : (sgI (wid a) (x % 2 ^ wid a) < sgI (wid a) (y % 2 ^ wid a)) ↔ (sgI (wid a) (x % 2 ^ wid a) + 2 ^ (wid a - 1) < sgI (wid a) (y % 2 ^ wid a) + 2 ^ (wid a - 1)) := by omega
  simp only [this, beq_self_eq_true]

theorem orders4 (a x y : Int) : ∃ p : Bool, (AP 19 a x y == 1) = p ∧ (x % 2 ^ wid a == y % 2 ^ wid a) = p := by
  have h : AP 19 a x y = if x % 2 ^ wid a = y % 2 ^ wid a then 1 else 0 := rfl
  by_cases e : x % 2 ^ wid a = y % 2 ^ wid a
  · exact ⟨true, by rw [h, if_pos e]; rfl, by simpa using e⟩
  · exact ⟨false, by rw [h, if_neg e]; rfl, by simpa using e⟩

theorem orders5 (a x y : Int) : ((AP 21 a x y == 1) = true ∧ sgI (wid a) x < sgI (wid a) y) ∨ ((AP 21 a x y == 1) = false ∧ sgI (wid a) y ≤ sgI (wid a) x) := by
  have h : AP 21 a x y = if sgI (wid a) (x % 2 ^ wid a) < sgI (wid a) (y % 2 ^ wid a) then 1 else 0 := rfl
  rw [sgI_mod, sgI_mod] at h
  by_cases e : sgI (wid a) x < sgI (wid a) y
  · exact .inl ⟨by rw [h, if_pos e]; rfl, e⟩
  · exact .inr ⟨by rw [h, if_neg e]; rfl, by omega⟩

set_option maxRecDepth 100000 in
set_option maxHeartbeats 2000000 in
theorem orders_walk (a x y : Int) (w : World) :
    Calls Try.prog 7 #[.int .i64 a, .int .u64 x, .int .u64 y] w fun e w' => e = .returned (.bool true) ∧ Below w.heap.size w w' := by
  have hw : (w.alloc (.cells #[.int .i64 a] 3)).cell? ⟨w.heap.size, 0, none⟩ = some (.int .i64 a) := by simp
  have o1 := orders1 a x y
  have o2 := orders2 a x y
  have o3 := orders3 a x y
  have ot := top_eq a
  obtain ⟨p, p1, p2⟩ := orders4 a x y
  have hq := orders5 a x y
  go_enter Try.func7, Try.ntmps7
  (repeat (first | with_reducible refine xThenN ?_ | with_reducible refine xThenE ?_ | with_reducible refine xThenR ?_ | with_reducible refine xThenP ?_ | with_reducible refine xBlockEq ?_ | with_reducible refine xBlockNe rfl ?_ | with_reducible refine xBlockN ?_ | with_reducible refine xBlockR ?_ | with_reducible refine xBlockP ?_ | go_values | go_skip | go_guarded | go_step | go_upon | go_back | (dsimp only)))
  refine (awake_any _).mono ?_; rintro e w1 ⟨rfl, hb⟩
  have HB : Below w.heap.size w w1 := ((Below.refl _ _).alloc (Nat.le_refl _) _).trans (hb.mono (by simp))
  have hc : w1.cell? ⟨w.heap.size, 0, none⟩ = some (.int .i64 a) := (hb.cell (p := ⟨w.heap.size, 0, none⟩) (by simp)).trans hw
  have hl : w.heap.size < w1.heap.size := by have := hb.size; simp at this; omega
  clear hb hw
  (repeat (first | with_reducible refine xThenN ?_ | with_reducible refine xThenE ?_ | with_reducible refine xThenR ?_ | with_reducible refine xThenP ?_ | with_reducible refine xBlockEq ?_ | with_reducible refine xBlockNe rfl ?_ | with_reducible refine xBlockN ?_ | with_reducible refine xBlockR ?_ | with_reducible refine xBlockP ?_ | (go_at_call 11; (with_reducible refine (apply_any _ _ _ _ _).mono ?_); rintro e w1 ⟨rfl, hb⟩; have hc' := (hb.cell (p := ⟨w.heap.size, 0, none⟩) hl).trans hc; have hl' := Nat.lt_of_lt_of_le hl hb.size; replace HB := HB.trans (hb.mono HB.size); clear hb hc hl; have hc := hc'; have hl := hl'; clear hc' hl') | (go_at_call 22; (with_reducible refine (less_any _ _ _ _ _ hc).mono ?_); rintro e w1 ⟨rfl, hb⟩; have hc' := (hb.cell (p := ⟨w.heap.size, 0, none⟩) hl).trans hc; have hl' := Nat.lt_of_lt_of_le hl hb.size; replace HB := HB.trans (hb.mono HB.size); clear hb hc hl; have hc := hc'; have hl := hl'; clear hc' hl') | (go_at_call 23; (with_reducible refine (below_any _ _ _ _ _ hc).mono ?_); rintro e w1 ⟨rfl, hb⟩; have hc' := (hb.cell (p := ⟨w.heap.size, 0, none⟩) hl).trans hc; have hl' := Nat.lt_of_lt_of_le hl hb.size; replace HB := HB.trans (hb.mono HB.size); clear hb hc hl; have hc := hc'; have hl := hl'; clear hc' hl') | (go_at_call 14; (with_reducible refine (cut_any _ _ _).mono ?_); rintro e w1 ⟨rfl, rfl⟩) | (go_at_call 13; (with_reducible refine (mask_any _ _).mono ?_); rintro e w1 ⟨rfl, rfl⟩) | (go_at_call 18; (with_reducible refine (sign_any _ _ _).mono ?_); rintro e w1 ⟨rfl, rfl⟩) | go_values | go_skip | go_guarded | go_step | go_upon | go_back | (dsimp only)))
  (refine wp_region_cls (by kernel_rfl) (by kernel_rfl) ?_; (repeat (first | go_big_quiet_skip | (go_big_quiet_want; first | (refine quiet_load 3 _ rfl ⟨w.heap.size, 0, none⟩ rfl (.int .i64 a) (fun w' h => (Below.cell h hl).trans hc) (fun w' h => ld3 _ _ _ h) ?_; simp only [Act.put, List.setIfInBounds_toArray, List.set_cons_succ, List.set_cons_zero]; go_big_quiet_on) | (go_big_quiet_op; first | go_big_quiet_on | (refine Exists.intro _ (And.intro (fun _ _ => rfl) ?_); go_big_quiet_on) | go_big_quiet_call ((intro hC; replace hC : Below _ _ _ := hC; first | (go_at_call 11; (with_reducible refine (apply_any _ _ _ _ _).mono ?_); rintro e w2 ⟨rfl, hb⟩; exact ⟨rfl, hC.trans (hb.mono hC.size)⟩) | (go_at_call 22; (with_reducible refine (less_any _ _ _ _ _ ((hC.cell hl).trans hc)).mono ?_); rintro e w2 ⟨rfl, hb⟩; exact ⟨rfl, hC.trans (hb.mono hC.size)⟩) | (go_at_call 23; (with_reducible refine (below_any _ _ _ _ _ ((hC.cell hl).trans hc)).mono ?_); rintro e w2 ⟨rfl, hb⟩; exact ⟨rfl, hC.trans (hb.mono hC.size)⟩) | (go_at_call 14; (with_reducible refine (cut_any _ _ _).mono ?_); rintro e w2 ⟨rfl, rfl⟩; exact ⟨rfl, hC⟩) | (go_at_call 13; (with_reducible refine (mask_any _ _).mono ?_); rintro e w2 ⟨rfl, rfl⟩; exact ⟨rfl, hC⟩) | (go_at_call 18; (with_reducible refine (sign_any _ _ _).mono ?_); rintro e w2 ⟨rfl, rfl⟩; exact ⟨rfl, hC⟩))))))); refine wpQuiet_nil ?_; intro w1 hb; replace hb : Below _ _ _ := hb; have hc' := (hb.cell (p := ⟨w.heap.size, 0, none⟩) hl).trans hc; have hl' := Nat.lt_of_lt_of_le hl hb.size; replace HB := HB.trans (hb.mono HB.size); clear hb hc hl; have hc := hc'; have hl := hl'; clear hc' hl')
  (repeat (first | with_reducible refine xThenN ?_ | with_reducible refine xThenE ?_ | with_reducible refine xThenR ?_ | with_reducible refine xThenP ?_ | with_reducible refine xBlockEq ?_ | with_reducible refine xBlockNe rfl ?_ | with_reducible refine xBlockN ?_ | with_reducible refine xBlockR ?_ | with_reducible refine xBlockP ?_ | (go_at_call 11; (with_reducible refine (apply_any _ _ _ _ _).mono ?_); rintro e w1 ⟨rfl, hb⟩; have hc' := (hb.cell (p := ⟨w.heap.size, 0, none⟩) hl).trans hc; have hl' := Nat.lt_of_lt_of_le hl hb.size; replace HB := HB.trans (hb.mono HB.size); clear hb hc hl; have hc := hc'; have hl := hl'; clear hc' hl') | (go_at_call 22; (with_reducible refine (less_any _ _ _ _ _ hc).mono ?_); rintro e w1 ⟨rfl, hb⟩; have hc' := (hb.cell (p := ⟨w.heap.size, 0, none⟩) hl).trans hc; have hl' := Nat.lt_of_lt_of_le hl hb.size; replace HB := HB.trans (hb.mono HB.size); clear hb hc hl; have hc := hc'; have hl := hl'; clear hc' hl') | (go_at_call 23; (with_reducible refine (below_any _ _ _ _ _ hc).mono ?_); rintro e w1 ⟨rfl, hb⟩; have hc' := (hb.cell (p := ⟨w.heap.size, 0, none⟩) hl).trans hc; have hl' := Nat.lt_of_lt_of_le hl hb.size; replace HB := HB.trans (hb.mono HB.size); clear hb hc hl; have hc := hc'; have hl := hl'; clear hc' hl') | (go_at_call 14; (with_reducible refine (cut_any _ _ _).mono ?_); rintro e w1 ⟨rfl, rfl⟩) | (go_at_call 13; (with_reducible refine (mask_any _ _).mono ?_); rintro e w1 ⟨rfl, rfl⟩) | (go_at_call 18; (with_reducible refine (sign_any _ _ _).mono ?_); rintro e w1 ⟨rfl, rfl⟩) | go_values | go_skip | go_guarded | go_step | go_upon | go_back | (dsimp only)))
  rcases p with _ | _ <;> rcases hq with ⟨q1, q2⟩ | ⟨q1, q2⟩
  all_goals
    (refine wp_region_cls (by kernel_rfl) (by kernel_rfl) ?_; (repeat (first | go_big_quiet_skip | (go_big_quiet_want; first | (refine quiet_load 3 _ rfl ⟨w.heap.size, 0, none⟩ rfl (.int .i64 a) (fun w' h => (Below.cell h hl).trans hc) (fun w' h => ld3 _ _ _ h) ?_; simp only [Act.put, List.setIfInBounds_toArray, List.set_cons_succ, List.set_cons_zero]; go_big_quiet_on) | (go_big_quiet_op; first | go_big_quiet_on | (refine Exists.intro _ (And.intro (fun _ _ => rfl) ?_); go_big_quiet_on) | go_big_quiet_call ((intro hC; replace hC : Below _ _ _ := hC; first | (go_at_call 11; (with_reducible refine (apply_any _ _ _ _ _).mono ?_); rintro e w2 ⟨rfl, hb⟩; exact ⟨rfl, hC.trans (hb.mono hC.size)⟩) | (go_at_call 22; (with_reducible refine (less_any _ _ _ _ _ ((hC.cell hl).trans hc)).mono ?_); rintro e w2 ⟨rfl, hb⟩; exact ⟨rfl, hC.trans (hb.mono hC.size)⟩) | (go_at_call 23; (with_reducible refine (below_any _ _ _ _ _ ((hC.cell hl).trans hc)).mono ?_); rintro e w2 ⟨rfl, hb⟩; exact ⟨rfl, hC.trans (hb.mono hC.size)⟩) | (go_at_call 14; (with_reducible refine (cut_any _ _ _).mono ?_); rintro e w2 ⟨rfl, rfl⟩; exact ⟨rfl, hC⟩) | (go_at_call 13; (with_reducible refine (mask_any _ _).mono ?_); rintro e w2 ⟨rfl, rfl⟩; exact ⟨rfl, hC⟩) | (go_at_call 18; (with_reducible refine (sign_any _ _ _).mono ?_); rintro e w2 ⟨rfl, rfl⟩; exact ⟨rfl, hC⟩))))))); refine wpQuiet_nil ?_; intro w1 hb; replace hb : Below _ _ _ := hb; have hc' := (hb.cell (p := ⟨w.heap.size, 0, none⟩) hl).trans hc; have hl' := Nat.lt_of_lt_of_le hl hb.size; replace HB := HB.trans (hb.mono HB.size); clear hb hc hl; have hc := hc'; have hl := hl'; clear hc' hl')
    (repeat (first | with_reducible refine xThenN ?_ | with_reducible refine xThenE ?_ | with_reducible refine xThenR ?_ | with_reducible refine xThenP ?_ | with_reducible refine xBlockEq ?_ | with_reducible refine xBlockNe rfl ?_ | with_reducible refine xBlockN ?_ | with_reducible refine xBlockR ?_ | with_reducible refine xBlockP ?_ | (go_at_call 11; (with_reducible refine (apply_any _ _ _ _ _).mono ?_); rintro e w1 ⟨rfl, hb⟩; have hc' := (hb.cell (p := ⟨w.heap.size, 0, none⟩) hl).trans hc; have hl' := Nat.lt_of_lt_of_le hl hb.size; replace HB := HB.trans (hb.mono HB.size); clear hb hc hl; have hc := hc'; have hl := hl'; clear hc' hl') | (go_at_call 22; (with_reducible refine (less_any _ _ _ _ _ hc).mono ?_); rintro e w1 ⟨rfl, hb⟩; have hc' := (hb.cell (p := ⟨w.heap.size, 0, none⟩) hl).trans hc; have hl' := Nat.lt_of_lt_of_le hl hb.size; replace HB := HB.trans (hb.mono HB.size); clear hb hc hl; have hc := hc'; have hl := hl'; clear hc' hl') | (go_at_call 23; (with_reducible refine (below_any _ _ _ _ _ hc).mono ?_); rintro e w1 ⟨rfl, hb⟩; have hc' := (hb.cell (p := ⟨w.heap.size, 0, none⟩) hl).trans hc; have hl' := Nat.lt_of_lt_of_le hl hb.size; replace HB := HB.trans (hb.mono HB.size); clear hb hc hl; have hc := hc'; have hl := hl'; clear hc' hl') | (go_at_call 14; (with_reducible refine (cut_any _ _ _).mono ?_); rintro e w1 ⟨rfl, rfl⟩) | (go_at_call 13; (with_reducible refine (mask_any _ _).mono ?_); rintro e w1 ⟨rfl, rfl⟩) | (go_at_call 18; (with_reducible refine (sign_any _ _ _).mono ?_); rintro e w1 ⟨rfl, rfl⟩) | go_values | go_skip | go_guarded | go_step | go_upon | go_back | (dsimp only)))
    (refine wp_region_cls (by kernel_rfl) (by kernel_rfl) ?_; (repeat (first | go_big_quiet_skip | (go_big_quiet_want; first | (refine quiet_load 3 _ rfl ⟨w.heap.size, 0, none⟩ rfl (.int .i64 a) (fun w' h => (Below.cell h hl).trans hc) (fun w' h => ld3 _ _ _ h) ?_; simp only [Act.put, List.setIfInBounds_toArray, List.set_cons_succ, List.set_cons_zero]; go_big_quiet_on) | (go_big_quiet_op; first | go_big_quiet_on | (refine Exists.intro _ (And.intro (fun _ _ => rfl) ?_); go_big_quiet_on) | go_big_quiet_call ((intro hC; replace hC : Below _ _ _ := hC; first | (go_at_call 11; (with_reducible refine (apply_any _ _ _ _ _).mono ?_); rintro e w2 ⟨rfl, hb⟩; exact ⟨rfl, hC.trans (hb.mono hC.size)⟩) | (go_at_call 22; (with_reducible refine (less_any _ _ _ _ _ ((hC.cell hl).trans hc)).mono ?_); rintro e w2 ⟨rfl, hb⟩; exact ⟨rfl, hC.trans (hb.mono hC.size)⟩) | (go_at_call 23; (with_reducible refine (below_any _ _ _ _ _ ((hC.cell hl).trans hc)).mono ?_); rintro e w2 ⟨rfl, hb⟩; exact ⟨rfl, hC.trans (hb.mono hC.size)⟩) | (go_at_call 14; (with_reducible refine (cut_any _ _ _).mono ?_); rintro e w2 ⟨rfl, rfl⟩; exact ⟨rfl, hC⟩) | (go_at_call 13; (with_reducible refine (mask_any _ _).mono ?_); rintro e w2 ⟨rfl, rfl⟩; exact ⟨rfl, hC⟩) | (go_at_call 18; (with_reducible refine (sign_any _ _ _).mono ?_); rintro e w2 ⟨rfl, rfl⟩; exact ⟨rfl, hC⟩))))))); refine wpQuiet_nil ?_; intro w1 hb; replace hb : Below _ _ _ := hb; have hc' := (hb.cell (p := ⟨w.heap.size, 0, none⟩) hl).trans hc; have hl' := Nat.lt_of_lt_of_le hl hb.size; replace HB := HB.trans (hb.mono HB.size); clear hb hc hl; have hc := hc'; have hl := hl'; clear hc' hl')
    (repeat (first | with_reducible refine xThenN ?_ | with_reducible refine xThenE ?_ | with_reducible refine xThenR ?_ | with_reducible refine xThenP ?_ | with_reducible refine xBlockEq ?_ | with_reducible refine xBlockNe rfl ?_ | with_reducible refine xBlockN ?_ | with_reducible refine xBlockR ?_ | with_reducible refine xBlockP ?_ | go_values | go_skip | go_guarded | go_step | go_upon | go_back | (dsimp only)))
    go_ret
    exact ⟨rfl, HB⟩

end Go.Proofs.Ytafjllfmagmhbaa
