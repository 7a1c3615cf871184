import Derived.Test.YtmaogkgjiplckaaML
set_option linter.unusedSimpArgs false
set_option linter.unusedVariables false
namespace Go.Proofs.Ytmaogkgjiplckaa
open Go.RowKit
/-! the law GateKnown, plain -/
structure KS (op : Int) (N : Nat) (fr : List Int) (g : G) (s : Nat → Bool) (xs ys : List Int) (r : G × List Int) (s' : Nat → Bool) : Prop where
  e : resG op g N xs ys = r
  gi : GI r.1 fr s'
  st : Step g s r.1 s'
  n : r.1.n ≤ g.n + 40000
  isl : ∀ x ∈ r.2, isL r.1.n x
  len : r.2.length = if 19 ≤ op then 1 else N
  val : ((num s' r.2 : Nat) : Int) = opI op N (num s xs) (num s ys)
theorem ks {op : Int} {N : Nat} {fr : List Int} {g : G} {s : Nat → Bool} {xs ys : List Int} (hI : GI g fr s) (hx : ∀ x ∈ xs, isL g.n x) (hy : ∀ y ∈ ys, isL g.n y) (hxn : xs.length = N) (hyn : ys.length = N) (hn1 : 1 ≤ N) (hn : N ≤ 64) (ho : okOp op) : ∃ r s', KS op N fr g s xs ys r s' := by
  obtain ⟨s', h1, h2, h3, h4, h5, h6⟩ := resG_ok hI hx hy hxn hyn hn1 hn ho
  exact ⟨_, s', rfl, h1, h2, h3, h4, h5, h6⟩
theorem bv_app (l m : List Bool) : bv (l ++ m) = bv l + 2 ^ l.length * bv m := by
  induction l with
  | nil => simp [bv]
  | cons a l ih => rw [List.cons_append, bv, ih, bv, List.length_cons, Nat.pow_succ, Nat.mul_add, Nat.mul_comm (2 ^ l.length) 2, Nat.mul_assoc]; omega
theorem bv_turn (l : List Bool) {T N : Nat} (hl : l.length = N) (hT : T < N) : bv (l.drop T ++ l.take T) = bv l / 2 ^ T ||| (bv l * 2 ^ (N - T) % 2 ^ N) := by
  rw [bv_app, bv_skip, bv_take, List.length_drop, hl]
  have hlt := bv_lt l
  rw [hl] at hlt
  have e : 2 ^ N = 2 ^ T * 2 ^ (N - T) := by rw [← Nat.pow_add]; congr 1; omega
  have e1 : bv l * 2 ^ (N - T) % 2 ^ N = 2 ^ (N - T) * (bv l % 2 ^ T) := by rw [e, Nat.mul_mod_mul_right, Nat.mul_comm]
  have h2 : bv l / 2 ^ T < 2 ^ (N - T) := Nat.div_lt_of_lt_mul (by rw [← e]; exact hlt)
  rw [e1, Nat.add_comm, Nat.two_pow_add_eq_or_of_lt h2, Nat.or_comm]
theorem constL_num {s : Nat → Bool} (h : s 1 = true) (n x : Nat) : num s (constL n x) = x % 2 ^ n := by
  unfold num
  rw [constL_lit h, bv_bits]
/-- all that the law asks of the four answers -/
theorem known_plain (op : Int) (N X C T : Nat) (hN1 : 1 ≤ N) (hN2 : N ≤ 64) (hT : T < N) (ho : okOp op) : ∃ (s : Nat → Bool) (r1 r2 r3 r4 : G × List Int) (s1 s2 s3 s4 : Nat → Bool),
    GI (addV newG N) (fromL newG.n N X) s ∧ KS op N (fromL newG.n N X) (addV newG N) s (freeL newG.n N) (constL N C) r1 s1 ∧ KS op N (fromL newG.n N X) r1.1 s1 (constL N C) (freeL newG.n N) r2 s2 ∧ KS op N (fromL newG.n N X) r2.1 s2 (freeL newG.n N) (freeL newG.n N) r3 s3 ∧
      KS op N (fromL newG.n N X) r3.1 s3 (freeL newG.n N) ((freeL newG.n N).drop T ++ (freeL newG.n N).take T) r4 s4 ∧
      ((num s4 r1.2 : Nat) : Int) = opI op N (X % 2 ^ N : Nat) (C % 2 ^ N : Nat) ∧ ((num s4 r2.2 : Nat) : Int) = opI op N (C % 2 ^ N : Nat) (X % 2 ^ N : Nat) ∧ ((num s4 r3.2 : Nat) : Int) = opI op N (X % 2 ^ N : Nat) (X % 2 ^ N : Nat) ∧
      ((num s4 r4.2 : Nat) : Int) = opI op N (X % 2 ^ N : Nat) ((X % 2 ^ N / 2 ^ T ||| (X % 2 ^ N * 2 ^ (N - T) % 2 ^ N)) : Nat) := by
  obtain ⟨s, h1, _, h3⟩ := free_many newG_ok X N
  rw [List.nil_append] at h1
  have la : ∀ a ∈ freeL newG.n N, isL (addV newG N).n a := freeL_isL _ _ _ (Nat.le_refl _)
  have ea := freeL_lit newG.n N X h3
  have lk : ∀ {g : G} {s : Nat → Bool}, GI g (fromL newG.n N X) s → ∀ a ∈ constL N C, isL g.n a := fun h => constL_isL h.pos
  have na : num s (freeL newG.n N) = X % 2 ^ N := by unfold num; rw [ea, bv_bits]
  have lt : ∀ a ∈ (freeL newG.n N).drop T ++ (freeL newG.n N).take T, a ∈ freeL newG.n N := fun a ha => by
    rcases List.mem_append.1 ha with h | h
    · exact List.mem_of_mem_drop h
    · exact List.mem_of_mem_take h
  have nt : num s ((freeL newG.n N).drop T ++ (freeL newG.n N).take T) = X % 2 ^ N / 2 ^ T ||| (X % 2 ^ N * 2 ^ (N - T) % 2 ^ N) := by
    have h := bv_turn ((freeL newG.n N).map (lit s)) (T := T) (N := N) (by rw [List.length_map, freeL_len]) hT
    unfold num at na ⊢
    rw [List.map_append, List.map_drop, List.map_take, h, na]
  have tl : ((freeL newG.n N).drop T ++ (freeL newG.n N).take T).length = N := by rw [List.length_append, List.length_drop, List.length_take, freeL_len]; omega
  obtain ⟨r1, s1, k1⟩ := ks h1 la (lk h1) (freeL_len _ _) (constL_len _ _) hN1 hN2 ho
  have la1 := fun a ha => k1.st.isL (la a ha)
  obtain ⟨r2, s2, k2⟩ := ks k1.gi (lk k1.gi) la1 (constL_len _ _) (freeL_len _ _) hN1 hN2 ho
  have la2 := fun a ha => k2.st.isL (la1 a ha)
  obtain ⟨r3, s3, k3⟩ := ks k2.gi la2 la2 (freeL_len _ _) (freeL_len _ _) hN1 hN2 ho
  have la3 := fun a ha => k3.st.isL (la2 a ha)
  obtain ⟨r4, s4, k4⟩ := ks k3.gi la3 (fun a ha => la3 a (lt a ha)) (freeL_len _ _) tl hN1 hN2 ho
  have n1 := (numS k1.st la).trans na
  have n2 := (numS k2.st la1).trans n1
  have n3 := (numS k3.st la2).trans n2
  have t3 := ((numS k3.st (fun a ha => la2 a (lt a ha))).trans ((numS k2.st (fun a ha => la1 a (lt a ha))).trans (numS k1.st (fun a ha => la a (lt a ha))))).trans nt
  have v1 := k1.val
  have v2 := k2.val
  have v3 := k3.val
  have v4 := k4.val
  rw [na, constL_num h1.one] at v1
  rw [n1, constL_num k1.gi.one] at v2
  rw [n2] at v3
  rw [n3, t3] at v4
  have w3 := numS k4.st k3.isl
  have w2 := (numS k4.st (fun a ha => k3.st.isL (k2.isl a ha))).trans (numS k3.st k2.isl)
  have w1 := (numS k4.st (fun a ha => k3.st.isL (k2.st.isL (k1.isl a ha)))).trans ((numS k3.st (fun a ha => k2.st.isL (k1.isl a ha))).trans (numS k2.st k1.isl))
  exact ⟨s, r1, r2, r3, r4, s1, s2, s3, s4, h1, k1, k2, k3, k4, by rw [w1]; exact v1, by rw [w2]; exact v2, by rw [w3]; exact v3, v4⟩

end Go.Proofs.Ytmaogkgjiplckaa

set_option linter.unusedSimpArgs false
set_option linter.unusedVariables false
namespace Go.Proofs.Ytmaogkgjiplckaa
open Go.RowKit
/-! the law GateKnown, walked (under way) -/
theorem rmaskK {N : Nat} (w : World) (hN : 1 ≤ N ∧ N ≤ 64) : Calls Try.prog 16 #[.int .i64 N] w fun e w' => e = .returned (.int .u64 ((2 ^ N - 1 : Nat) : Int)) ∧ Below w.heap.size w w' := by
  have h := rmask_any (N : Int) w
  rw [wid_in hN] at h
  exact h
theorem shl_and {N : Nat} (hN : 1 ≤ N ∧ N ≤ 64) (X j : Nat) : bits BinOp.and IntKind.u64 (IntKind.u64.wrap ((X : Int) * 2 ^ j)) ((2 ^ N - 1 : Nat) : Int) = ((X * 2 ^ j % 2 ^ N : Nat) : Int) := by
  have e : IntKind.u64.wrap ((X : Int) * 2 ^ j) = ((X * 2 ^ j % 18446744073709551616 : Nat) : Int) := by
    rw [IntKind.wrap_u64]; simp
  rw [e, mask_and hN (by omega) (by have := Nat.mod_lt (X * 2 ^ j) (show 0 < 18446744073709551616 by decide); omega), Int.toNat_natCast]
  congr 1
  have h : (2 : Nat) ^ N ∣ 18446744073709551616 := by
    have := Nat.pow_dvd_pow 2 hN.2
    simpa using this
  exact Nat.mod_mod_of_dvd _ h
theorem RowI.skip {w : World} {b o : Nat} {l : List Int} (h : RowI w b o l) (T : Nat) : RowI w b (o + T) (l.drop T) := fun i x hi => by
  rw [List.getElem?_drop] at hi
  rw [Nat.add_assoc]
  exact h _ x hi
theorem RowI.upto {w : World} {b o : Nat} {l : List Int} (h : RowI w b o l) (T : Nat) : RowI w b o (l.take T) := fun i x hi => by
  rw [List.getElem?_take] at hi
  split at hi
  · exact h i x hi
  · cases hi
theorem rap_val {op : Int} {N V : Nat} {x y : Int} (hN : 1 ≤ N ∧ N ≤ 64) (hx0 : 0 ≤ x) (hx1 : x < 18446744073709551616) (hy0 : 0 ≤ y) (hy1 : y < 18446744073709551616) (h : (V : Int) = opI op N (x.toNat % 2 ^ N : Nat) (y.toNat % 2 ^ N : Nat)) (u : World) :
    Calls Try.prog 25 #[.int .i64 op, .int .i64 N, .int .u64 x, .int .u64 y] u fun e w' => e = .returned (.int .u64 (V : Int)) ∧ Below u.heap.size u w' := by
  have k := rapply_any op (N : Int) x.toNat y.toNat u (Lib.hid (by omega)) (Lib.hid (by omega))
  have ex : ((x.toNat : Nat) : Int) = x := Int.toNat_of_nonneg hx0
  have ey : ((y.toNat : Nat) : Int) = y := Int.toNat_of_nonneg hy0
  rw [ex, ey] at k
  have e : AP op (N : Int) x y = (V : Int) := by
    unfold AP
    rw [wid_in hN, h]
    congr 1
    · rw [← ex, Int.toNat_natCast]; simp
    · rw [← ey, Int.toNat_natCast]; simp
  rw [e] at k
  exact k
set_option maxRecDepth 100000 in
set_option maxHeartbeats 8000000 in
theorem known_walk (op W x c turn : Int) (w : World) (hx0 : 0 ≤ x) (hx1 : x < 18446744073709551616) (hc0 : 0 ≤ c) (hc1 : c < 18446744073709551616) :
    Calls Try.prog 6 #[.int .i64 op, .int .i64 W, .int .u64 x, .int .u64 c, .int .i64 turn] w fun e w' => e = .returned (.bool true) ∧ Below w.heap.size w w' := by
  by_cases hlo : W < 1
  · as_aux_lemma =>
      go_enter Try.func6, Try.ntmps6
      (repeat (first | (with_reducible first | refine xA ?_ | refine xB ?_ | refine xC ?_ | refine xD ?_ | refine xH ?_ | refine xI rfl ?_ | refine xE ?_ | refine xF ?_ | refine xG ?_) | go_skip | go_guarded | (go_at_call 9; (with_reducible refine (awake_any _).mono ?_); rintro _ w0 ⟨rfl, hb0⟩; have HB : Kept (fun k => k < w.heap.size) w w0 := Kept.ofBelow hb0; clear hb0) | go_values | go_skip | go_guarded | go_step | go_upon | go_back | ((with_reducible show Oper.upon _ _ _ _ _ _); go_simp) | (dsimp only)))
      go_ret
      exact ⟨rfl, HB.toBelow (Nat.le_refl _) fun _ h => h⟩
  by_cases hhi : W > 64
  · as_aux_lemma =>
      go_enter Try.func6, Try.ntmps6
      (repeat (first | (with_reducible first | refine xA ?_ | refine xB ?_ | refine xC ?_ | refine xD ?_ | refine xH ?_ | refine xI rfl ?_ | refine xE ?_ | refine xF ?_ | refine xG ?_) | go_skip | go_guarded | (go_at_call 9; (with_reducible refine (awake_any _).mono ?_); rintro _ w0 ⟨rfl, hb0⟩; have HB : Kept (fun k => k < w.heap.size) w w0 := Kept.ofBelow hb0; clear hb0) | go_values | go_skip | go_guarded | go_step | go_upon | go_back | ((with_reducible show Oper.upon _ _ _ _ _ _); go_simp) | (dsimp only)))
      go_ret
      exact ⟨rfl, HB.toBelow (Nat.le_refl _) fun _ h => h⟩
  by_cases o1 : op < 5
  · as_aux_lemma =>
      go_enter Try.func6, Try.ntmps6
      (repeat (first | (with_reducible first | refine xA ?_ | refine xB ?_ | refine xC ?_ | refine xD ?_ | refine xH ?_ | refine xI rfl ?_ | refine xE ?_ | refine xF ?_ | refine xG ?_) | go_skip | go_guarded | (go_at_call 9; (with_reducible refine (awake_any _).mono ?_); rintro _ w0 ⟨rfl, hb0⟩; have HB : Kept (fun k => k < w.heap.size) w w0 := Kept.ofBelow hb0; clear hb0) | go_values | go_skip | go_guarded | go_step | go_upon | go_back | ((with_reducible show Oper.upon _ _ _ _ _ _); go_simp) | (dsimp only)))
      go_ret
      exact ⟨rfl, HB.toBelow (Nat.le_refl _) fun _ h => h⟩
  by_cases o2 : op > 21
  · as_aux_lemma =>
      go_enter Try.func6, Try.ntmps6
      (repeat (first | (with_reducible first | refine xA ?_ | refine xB ?_ | refine xC ?_ | refine xD ?_ | refine xH ?_ | refine xI rfl ?_ | refine xE ?_ | refine xF ?_ | refine xG ?_) | go_skip | go_guarded | (go_at_call 9; (with_reducible refine (awake_any _).mono ?_); rintro _ w0 ⟨rfl, hb0⟩; have HB : Kept (fun k => k < w.heap.size) w w0 := Kept.ofBelow hb0; clear hb0) | go_values | go_skip | go_guarded | go_step | go_upon | go_back | ((with_reducible show Oper.upon _ _ _ _ _ _); go_simp) | (dsimp only)))
      go_ret
      exact ⟨rfl, HB.toBelow (Nat.le_refl _) fun _ h => h⟩
  by_cases o3 : op = 6
  · as_aux_lemma =>
      have o3' : (op == 6) = true := by simpa using o3
      clear o3
      go_enter Try.func6, Try.ntmps6
      (repeat (first | (with_reducible first | refine xA ?_ | refine xB ?_ | refine xC ?_ | refine xD ?_ | refine xH ?_ | refine xI rfl ?_ | refine xE ?_ | refine xF ?_ | refine xG ?_) | go_skip | go_guarded | (go_at_call 9; (with_reducible refine (awake_any _).mono ?_); rintro _ w0 ⟨rfl, hb0⟩; have HB : Kept (fun k => k < w.heap.size) w w0 := Kept.ofBelow hb0; clear hb0) | go_values | go_skip | go_guarded | go_step | go_upon | go_back | ((with_reducible show Oper.upon _ _ _ _ _ _); go_simp) | (dsimp only)))
      go_ret
      exact ⟨rfl, HB.toBelow (Nat.le_refl _) fun _ h => h⟩
  have o3' : (op == 6) = false := by simpa using o3
  by_cases o4 : op = 7
  · as_aux_lemma =>
      have o4' : (op == 7) = true := by simpa using o4
      clear o3 o4
      go_enter Try.func6, Try.ntmps6
      (repeat (first | (with_reducible first | refine xA ?_ | refine xB ?_ | refine xC ?_ | refine xD ?_ | refine xH ?_ | refine xI rfl ?_ | refine xE ?_ | refine xF ?_ | refine xG ?_) | go_skip | go_guarded | (go_at_call 9; (with_reducible refine (awake_any _).mono ?_); rintro _ w0 ⟨rfl, hb0⟩; have HB : Kept (fun k => k < w.heap.size) w w0 := Kept.ofBelow hb0; clear hb0) | go_values | go_skip | go_guarded | go_step | go_upon | go_back | ((with_reducible show Oper.upon _ _ _ _ _ _); go_simp) | (dsimp only)))
      go_ret
      exact ⟨rfl, HB.toBelow (Nat.le_refl _) fun _ h => h⟩
  have o4' : (op == 7) = false := by simpa using o4
  by_cases t1 : turn < 0
  · as_aux_lemma =>
      clear o3 o4
      go_enter Try.func6, Try.ntmps6
      (repeat (first | (with_reducible first | refine xA ?_ | refine xB ?_ | refine xC ?_ | refine xD ?_ | refine xH ?_ | refine xI rfl ?_ | refine xE ?_ | refine xF ?_ | refine xG ?_) | go_skip | go_guarded | (go_at_call 9; (with_reducible refine (awake_any _).mono ?_); rintro _ w0 ⟨rfl, hb0⟩; have HB : Kept (fun k => k < w.heap.size) w w0 := Kept.ofBelow hb0; clear hb0) | go_values | go_skip | go_guarded | go_step | go_upon | go_back | ((with_reducible show Oper.upon _ _ _ _ _ _); go_simp) | (dsimp only)))
      go_ret
      exact ⟨rfl, HB.toBelow (Nat.le_refl _) fun _ h => h⟩
  by_cases t2 : turn ≥ W
  · as_aux_lemma =>
      clear o3 o4
      go_enter Try.func6, Try.ntmps6
      (repeat (first | (with_reducible first | refine xA ?_ | refine xB ?_ | refine xC ?_ | refine xD ?_ | refine xH ?_ | refine xI rfl ?_ | refine xE ?_ | refine xF ?_ | refine xG ?_) | go_skip | go_guarded | (go_at_call 9; (with_reducible refine (awake_any _).mono ?_); rintro _ w0 ⟨rfl, hb0⟩; have HB : Kept (fun k => k < w.heap.size) w w0 := Kept.ofBelow hb0; clear hb0) | go_values | go_skip | go_guarded | go_step | go_upon | go_back | ((with_reducible show Oper.upon _ _ _ _ _ _); go_simp) | (dsimp only)))
      go_ret
      exact ⟨rfl, HB.toBelow (Nat.le_refl _) fun _ h => h⟩
  have ho : okOp op := by unfold okOp; omega
  clear o3 o4
  obtain ⟨N, rfl⟩ := Int.eq_ofNat_of_zero_le (show 0 ≤ W by omega)
  obtain ⟨T, rfl⟩ := Int.eq_ofNat_of_zero_le (show 0 ≤ turn by omega)
  have hN : 1 ≤ N ∧ N ≤ 64 := by omega
  have hT : T < N := by omega
  have HN1 := Lib.hid (show newG.n + N ≤ 1048576 by show 1 + N ≤ _; omega)
  have Hmx := Lib.hid (show max 1 (min (N : Int) 64) = (N : Int) by omega)
  obtain ⟨s, r1, r2, r3, r4, s1, s2, s3, s4, hI, k1, k2, k3, k4, v1, v2, v3, v4⟩ := known_plain op N x.toNat c.toNat T hN.1 hN.2 hT ho
  have hna : (addV newG N).n = 1 + N := rfl
  have la : ∀ a ∈ freeL newG.n N, isL (addV newG N).n a := freeL_isL _ _ _ (Nat.le_refl _)
  have la1 := fun a ha => k1.st.isL (la a ha)
  have la2 := fun a ha => k2.st.isL (la1 a ha)
  have la3 := fun a ha => k3.st.isL (la2 a ha)
  have tl : ((freeL newG.n N).drop T ++ (freeL newG.n N).take T).length = N := by rw [List.length_append, List.length_drop, List.length_take, freeL_len]; omega
  have lt : ∀ a ∈ (freeL newG.n N).drop T ++ (freeL newG.n N).take T, a ∈ freeL newG.n N := fun a ha => by
    rcases List.mem_append.1 ha with h | h
    · exact List.mem_of_mem_drop h
    · exact List.mem_of_mem_take h
  have z1 := k1.n
  have z2 := k2.n
  have z3 := k3.n
  have z4 := k4.n
  have HA1 : Hid (∀ (X : Nat → Prop) (base gb : Nat) (u : World), GR X base u gb (addV newG N) → base ≤ u.heap.size → ∀ (va vb : Value), SlX X u va (freeL newG.n N) → SlX X u vb (constL N c.toNat) → Calls Try.prog 24 #[.pointer (some ⟨gb, 0, none⟩), .int .i64 op, va, vb] u (WordY X base gb u r1)) := Lib.hid (fun X base gb u hG hb va vb hA hB => by rw [← k1.e]; exact Apply_res op u hG hb va vb _ _ N hA hB (freeL_len _ _) (constL_len _ _) hN.1 hN.2 (by omega) la (constL_isL hI.pos) hI ho)
  have HA2 : Hid (∀ (X : Nat → Prop) (base gb : Nat) (u : World), GR X base u gb r1.1 → base ≤ u.heap.size → ∀ (va vb : Value), SlX X u va (constL N c.toNat) → SlX X u vb (freeL newG.n N) → Calls Try.prog 24 #[.pointer (some ⟨gb, 0, none⟩), .int .i64 op, va, vb] u (WordY X base gb u r2)) := Lib.hid (fun X base gb u hG hb va vb hA hB => by rw [← k2.e]; exact Apply_res op u hG hb va vb _ _ N hA hB (constL_len _ _) (freeL_len _ _) hN.1 hN.2 (by omega) (constL_isL k1.gi.pos) la1 k1.gi ho)
  have HA3 : Hid (∀ (X : Nat → Prop) (base gb : Nat) (u : World), GR X base u gb r2.1 → base ≤ u.heap.size → ∀ (va vb : Value), SlX X u va (freeL newG.n N) → SlX X u vb (freeL newG.n N) → Calls Try.prog 24 #[.pointer (some ⟨gb, 0, none⟩), .int .i64 op, va, vb] u (WordY X base gb u r3)) := Lib.hid (fun X base gb u hG hb va vb hA hB => by rw [← k3.e]; exact Apply_res op u hG hb va vb _ _ N hA hB (freeL_len _ _) (freeL_len _ _) hN.1 hN.2 (by omega) la2 la2 k2.gi ho)
  have HA4 : Hid (∀ (X : Nat → Prop) (base gb : Nat) (u : World), GR X base u gb r3.1 → base ≤ u.heap.size → ∀ (va vb : Value), SlX X u va (freeL newG.n N) → SlX X u vb ((freeL newG.n N).drop T ++ (freeL newG.n N).take T) → Calls Try.prog 24 #[.pointer (some ⟨gb, 0, none⟩), .int .i64 op, va, vb] u (WordY X base gb u r4)) := Lib.hid (fun X base gb u hG hb va vb hA hB => by rw [← k4.e]; exact Apply_res op u hG hb va vb _ _ N hA hB (freeL_len _ _) tl hN.1 hN.2 (by omega) la3 (fun a ha => la3 a (lt a ha)) k3.gi ho)
  have HLEN1 := Lib.hid k1.len
  have HLEN2 := Lib.hid k2.len
  have HLEN3 := Lib.hid k3.len
  have HLEN4 := Lib.hid k4.len
  have HI4 := Lib.hid k4.gi
  have HM4 := Lib.hid k4.isl
  have HM3 := Lib.hid (fun a ha => k4.st.isL (k3.isl a ha))
  have HM2 := Lib.hid (fun a ha => k4.st.isL (k3.st.isL (k2.isl a ha)))
  have HM1 := Lib.hid (fun a ha => k4.st.isL (k3.st.isL (k2.st.isL (k1.isl a ha))))
  have HN4 := Lib.hid (show r4.1.n ≤ 1048576 by omega)
  have HFN := Lib.hid (show (fromL newG.n N x.toNat).length ≤ 1000000 by rw [fromL_len]; omega)
  have hmx := mask_and hN hx0 hx1
  obtain ⟨X2, hX2⟩ : ∃ X2 : Nat, x.toNat % 2 ^ N = X2 := ⟨_, rfl⟩
  rw [hX2] at hmx v1 v2 v3 v4
  have HX2 := Lib.hid hX2
  clear hX2
  have HV1 := Lib.hid v1
  have HV2 := Lib.hid v2
  have HV3 := Lib.hid v3
  have HV4 := Lib.hid v4
  clear hI k1 k2 k3 k4 v1 v2 v3 v4 la la1 la2 la3 tl lt z1 z2 z3 z4 hna
  go_enter Try.func6, Try.ntmps6
  (repeat (first | (with_reducible first | refine xA ?_ | refine xB ?_ | refine xC ?_ | refine xD ?_ | refine xH ?_ | refine xI rfl ?_ | refine xE ?_ | refine xF ?_ | refine xG ?_) | go_skip | go_guarded | (go_at_call 9; (with_reducible refine (awake_any _).mono ?_); rintro _ w0 ⟨rfl, hb0⟩; have HB : Kept (fun k => k < w.heap.size) w w0 := Kept.ofBelow hb0; clear hb0) | (go_at_call 10; (with_reducible refine (New_any (X := fun k => k < w.heap.size) _ (fun k h => Nat.lt_of_lt_of_le h HB.size)).mono ?_); rintro _ w1 ⟨gb, rfl, hG, hb1⟩; replace HB := HB.trans (Kept.ofBelow hb1); have HBA := Lib.hid hb1.size; clear hb1) | (go_at_call 11; (with_reducible refine (free_law _ hG N x hx0 hx1 (by omega) HN1.out).mono ?_); rintro _ w2 ⟨a1, a2, c1, c2, S1, rfl, hG2, hA, hFA, hFB, hk2⟩; have HW1 := Lib.hid HB.size; have HBB := Lib.hid hk2.size; replace HB := HB.trans hk2; replace HBA := Lib.hid (Nat.le_trans HBA.out hk2.size); obtain ⟨ba, oa, hba, xba, lba, cba, hRA⟩ := hA.row (by rw [freeL_len]; omega); subst hba; clear hk2 hG) | (go_at_call 26; (with_reducible refine (WordC_any w2 _ (N : Int) c hc0 hc1 N Hmx.out).mono ?_); rintro _ w3 ⟨rfl, hK3, hb3⟩; have hG3 := hG2.owned (below_own hb3) (Nat.le_refl _) hK3.lt; have hA3 := (hA.kept (Kept.ofBelow hb3)).mono (Y := fun k => (k < w.heap.size ∨ S1 k) ∨ k = w2.heap.size) (fun _ _ h => Or.inl h); have hR3 := hRA.kept (Kept.ofBelow (X := fun _ => True) hb3) trivial; replace hFA := owns_kept hFA (Kept.ofBelow (X := fun _ => True) hb3) (fun _ _ => trivial); replace HB := HB.trans (Kept.ofBelow hb3); replace HBA := Lib.hid (Nat.le_trans HBA.out hb3.size); replace HBB := Lib.hid (Nat.le_trans HBB.out hb3.size); clear hb3 hG2 hA hRA) | go_values | go_skip | go_guarded | go_step | go_upon | go_back | ((with_reducible show Oper.upon _ _ _ _ _ _); go_simp) | (dsimp only)))
  have hkd : Kept (fun _ => True) w3 ({ w3 with drawn := w3.drawn + 1 } : World) := (Kept.refl _ w3).drew 1
  have hTN : (T : Int) ≤ (N : Int) := by omega
  have hT0 : (0 : Int) ≤ (T : Int) := by omega
  have hNc : N ≤ c1 := by rw [freeL_len] at cba; exact cba
  have hNc' : (N : Int) ≤ (c1 : Int) := by omega
  refine wp_region_held (S := fun _ => True) (by kernel_rfl) ?_
  replace hK3 := hK3.kept hkd trivial
  replace hG3 := hG3.same (w' := ({ w3 with drawn := w3.drawn + 1 } : World)) ⟨rfl, rfl, rfl, Nat.le_refl _, fun _ _ _ => rfl⟩
  replace hA3 := hA3.kept (hkd.mono fun _ _ _ => trivial)
  replace hR3 := hR3.kept hkd trivial
  replace hFA := owns_kept hFA hkd (fun _ _ => trivial)
  replace HB : Kept (fun k => k < w.heap.size) w ({ w3 with drawn := w3.drawn + 1 } : World) := HB.drew 1
  clear hkd
  replace HBA : Hid (w0.heap.size ≤ ({ w3 with drawn := w3.drawn + 1 } : World).heap.size) := Lib.hid HBA.out
  replace HBB : Hid (w1.heap.size ≤ ({ w3 with drawn := w3.drawn + 1 } : World).heap.size) := Lib.hid HBB.out
  generalize ({ w3 with drawn := w3.drawn + 1 } : World) = u0 at *
  have HSC : (fun _ : World => True) u0 := trivial
  refine wpAnyH_take (i := 1) (v := .slice (some ⟨ba, oa, none⟩) N c1) rfl (by kernel_rfl) (by kernel_rfl) (by kernel_rfl) (fun _ _ _ h => h) (Or.inl ⟨rfl, fun w _ => by go_simp⟩) HSC ?_; simp only [Act.put, List.getElem_toArray, List.getElem_cons_zero, List.getElem_cons_succ, List.setIfInBounds_toArray, List.set_cons_succ, List.set_cons_zero]
  refine wpAnyH_take (i := 2) (v := .int .i64 T) rfl (by kernel_rfl) (by kernel_rfl) (by kernel_rfl) (fun _ _ _ h => h) (Or.inl ⟨rfl, fun w _ => by go_simp⟩) HSC ?_; simp only [Act.put, List.getElem_toArray, List.getElem_cons_zero, List.getElem_cons_succ, List.setIfInBounds_toArray, List.set_cons_succ, List.set_cons_zero]
  refine wpAnyH_take (i := 5) (v := .slice (some ⟨ba, oa, none⟩) N c1) rfl (by kernel_rfl) (by kernel_rfl) (by kernel_rfl) (fun _ _ _ h => h) (Or.inl ⟨rfl, fun w _ => by go_simp⟩) HSC ?_; simp only [Act.put, List.getElem_toArray, List.getElem_cons_zero, List.getElem_cons_succ, List.setIfInBounds_toArray, List.set_cons_succ, List.set_cons_zero]
  refine wpAnyH_take (i := 6) (v := .int .i64 T) rfl (by kernel_rfl) (by kernel_rfl) (by kernel_rfl) (fun _ _ _ h => h) (Or.inl ⟨rfl, fun w _ => by go_simp⟩) HSC ?_; simp only [Act.put, List.getElem_toArray, List.getElem_cons_zero, List.getElem_cons_succ, List.setIfInBounds_toArray, List.set_cons_succ, List.set_cons_zero]
  refine wpAnyH_take (i := 7) (v := .slice (some ⟨ba, oa, none⟩) T c1) rfl (by kernel_rfl) (by kernel_rfl) (by kernel_rfl) (fun _ _ _ h => h) (Or.inl ⟨rfl, fun w _ => by go_simp; intro h; exact absurd h (by omega)⟩) HSC ?_
  simp only [Act.put, List.getElem_toArray, List.getElem_cons_zero, List.getElem_cons_succ, List.setIfInBounds_toArray, List.set_cons_succ, List.set_cons_zero]
  refine wpAnyH_take (i := 3) (v := .slice (some ⟨ba, oa + T, none⟩) (N - T) (c1 - T)) rfl (by kernel_rfl) (by kernel_rfl) (by kernel_rfl) (fun _ _ _ h => h) (Or.inl ⟨rfl, fun w _ => by go_simp; intro h; omega⟩) HSC ?_
  simp only [Act.put, List.getElem_toArray, List.getElem_cons_zero, List.getElem_cons_succ, List.setIfInBounds_toArray, List.set_cons_succ, List.set_cons_zero]
  refine wpAnyH_all (rs := [0]) (by kernel_rfl) (by simp) (fun i hi => ?_)
  obtain rfl : i = 0 := by simpa using hi
  refine wpOp_one rfl ?_
  (repeat (first | (with_reducible first | refine xA ?_ | refine xB ?_ | refine xC ?_ | refine xD ?_ | refine xH ?_ | refine xI rfl ?_ | refine xE ?_ | refine xF ?_ | refine xG ?_) | go_values | go_skip | go_guarded | go_step | go_upon | go_back | ((with_reducible show Oper.upon _ _ _ _ _ _); go_simp) | (dsimp only)))
  refine ⟨trivial, ?_⟩
  have hO0 : (u0.alloc (.cells #[] 3)).ownsRow u0.heap.size 3 1 (.slice (some ⟨u0.heap.size, 0, none⟩) 0 0) 0 (([] : List Int).map (Value.int .i64)) := World.ownsRow_lit u0 #[] 0 (Nat.le_refl _) (by decide) rfl
  have hka : Kept (fun _ => True) u0 (u0.alloc (.cells #[] 3)) := (Kept.refl _ u0).alloc _
  have hRd := (RowI.skip hR3 T).kept hka trivial
  have hRt := (RowI.upto hR3 T).kept hka trivial
  have hld : ((freeL newG.n N).drop T).length = N - T := by rw [List.length_drop, freeL_len]
  have hlt : ((freeL newG.n N).take T).length = T := by rw [List.length_take, freeL_len]; omega
  have hsz : u0.heap.size ≤ (u0.alloc (.cells #[] 3)).heap.size := hka.size
  have hba0 : ba < u0.heap.size := by have := hA3.row (by rw [freeL_len]; omega); obtain ⟨b', o', e, _, h, _⟩ := this; injection e with e; injection e with e1 _; rw [e1]; exact h
  refine wpAnyH_all (rs := [4]) (by kernel_rfl) (by simp) (fun i hi => ?_)
  obtain rfl : i = 4 := by simpa using hi
  refine wpOp_one rfl ?_
  (repeat (first | (with_reducible first | refine xA ?_ | refine xB ?_ | refine xC ?_ | refine xD ?_ | refine xH ?_ | refine xI rfl ?_ | refine xE ?_ | refine xF ?_ | refine xG ?_) | go_skip | go_guarded | ((with_reducible refine wl_id ?_); refine wl_appendI rfl _ _ rfl u0.heap.size (.slice (some ⟨u0.heap.size, 0, none⟩) 0 0) 0 [] rfl hO0 ba (oa + T) (N - T) (c1 - T) _ rfl hld hRd (by omega) hsz ?_; intro v81 w81 hO81 hg81 hl81; (try simp only [Act.put, List.setIfInBounds_toArray, List.set_cons_succ, List.set_cons_zero])) | go_values | go_skip | go_guarded | go_step | go_upon | go_back | ((with_reducible show Oper.upon _ _ _ _ _ _); go_simp) | (dsimp only)))
  refine ⟨trivial, ?_⟩
  have hb81 : Below u0.heap.size u0 w81 := ⟨hg81.os.trans hka.os, hg81.tape.trans hka.tape, hg81.output.trans hka.output, Nat.le_trans hsz hg81.size, fun k hk => (hg81.block k (Nat.lt_of_lt_of_le hk hsz) (show some k ≠ some u0.heap.size from fun e => by injection e with e; omega)).trans (hka.block k hk trivial)⟩
  have hRt1 := (RowI.upto hR3 T).kept (Kept.ofBelow (X := fun _ => True) hb81) trivial
  refine wpAnyH_all (rs := [8]) (by kernel_rfl) (by simp) (fun i hi => ?_)
  obtain rfl : i = 8 := by simpa using hi
  refine wpOp_one rfl ?_
  (repeat (first | (with_reducible first | refine xA ?_ | refine xB ?_ | refine xC ?_ | refine xD ?_ | refine xH ?_ | refine xI rfl ?_ | refine xE ?_ | refine xF ?_ | refine xG ?_) | go_skip | go_guarded | ((with_reducible refine wl_id ?_); refine wl_appendI rfl _ _ rfl u0.heap.size v81 (0 + (N - T)) _ rfl hO81 ba oa T c1 _ rfl hlt hRt1 (by omega) hb81.size ?_; intro v85 w85 hO85 hg85 hl85; (try simp only [Act.put, List.setIfInBounds_toArray, List.set_cons_succ, List.set_cons_zero])) | go_values | go_skip | go_guarded | go_step | go_upon | go_back | ((with_reducible show Oper.upon _ _ _ _ _ _); go_simp) | (dsimp only)))
  refine ⟨trivial, ?_⟩
  refine wpAnyH_all (rs := [9]) (by kernel_rfl) (by simp) (fun i hi => ?_)
  obtain rfl : i = 9 := by simpa using hi
  refine wpOp_one rfl ?_
  (repeat (first | (with_reducible first | refine xA ?_ | refine xB ?_ | refine xC ?_ | refine xD ?_ | refine xH ?_ | refine xI rfl ?_ | refine xE ?_ | refine xF ?_ | refine xG ?_) | go_values | go_skip | go_guarded | go_step | go_upon | go_back | ((with_reducible show Oper.upon _ _ _ _ _ _); go_simp) | (dsimp only)))
  refine ⟨trivial, ?_⟩
  refine wpAnyH_done (by kernel_rfl) ?_ _
  have hb85 : Below u0.heap.size u0 w85 := ⟨hg85.os.trans hb81.os, hg85.tape.trans hb81.tape, hg85.output.trans hb81.output, Nat.le_trans hb81.size hg85.size, fun k hk => (hg85.block k (Nat.lt_of_lt_of_le hk hb81.size) (fun e => by have := (hO81.lt k e.symm).1; omega)).trans (hb81.block k hk)⟩
  have hGa := turn_new hG3 hb85 hO85
  have hk85 := Kept.ofBelow (X := fun _ => True) hb85
  have hta := own_sl (l := (freeL newG.n N).drop T ++ (freeL newG.n N).take T) (X := fun k => ((k < w.heap.size ∨ S1 k) ∨ k = w2.heap.size) ∨ v85.ownBlock = some k) (by rw [List.nil_append] at hO85; exact hO85) (fun k e => .inr e)
  have hAa := (hA3.kept (hk85.mono fun _ _ _ => trivial)).mono (Y := fun k => ((k < w.heap.size ∨ S1 k) ∨ k = w2.heap.size) ∨ v85.ownBlock = some k) (fun _ _ h => .inl h)
  have hKa := (hK3.kept hk85 trivial).slX (X := fun k => ((k < w.heap.size ∨ S1 k) ∨ k = w2.heap.size) ∨ v85.ownBlock = some k) (.inl (.inr rfl))
  have hFa := owns_kept hFA hk85 (fun _ _ => trivial)
  have hFY : ∀ k, (Value.slice a2 N c2).ownBlock = some k → ((k < w.heap.size ∨ S1 k) ∨ k = w2.heap.size) ∨ v85.ownBlock = some k := fun k e => .inl (.inl (.inr (hFB k e)))
  have hXa : ∀ k, k < w.heap.size → ((k < w.heap.size ∨ S1 k) ∨ k = w2.heap.size) ∨ v85.ownBlock = some k := fun k h => .inl (.inl (.inl h))
  replace HB := HB.trans (hk85.mono fun _ _ _ => trivial)
  replace HBA := Lib.hid (Nat.le_trans HBA.out hb85.size)
  replace HBB := Lib.hid (Nat.le_trans HBB.out hb85.size)
  obtain ⟨Ya, hYa⟩ : ∃ Ya : Nat → Prop, Ya = fun k => ((k < w.heap.size ∨ S1 k) ∨ k = w2.heap.size) ∨ v85.ownBlock = some k := ⟨_, rfl⟩
  replace hGa : GR Ya w0.heap.size w85 gb (addV newG N) := hYa ▸ hGa
  replace hta : SlX Ya w85 v85 ((freeL newG.n N).drop T ++ (freeL newG.n N).take T) := hYa ▸ hta
  replace hAa : SlX Ya w85 (.slice (some ⟨ba, oa, none⟩) N c1) (freeL newG.n N) := hYa ▸ hAa
  replace hKa : SlX Ya w85 (.slice (some ⟨w2.heap.size, 0, none⟩) N N) (constL N c.toNat) := hYa ▸ hKa
  replace hFY : ∀ k, (Value.slice a2 N c2).ownBlock = some k → Ya k := hYa ▸ hFY
  replace hXa : ∀ k, k < w.heap.size → Ya k := hYa ▸ hXa
  clear hYa hb85 hk85 hO85 hg85 hl85 hO81 hg81 hl81 hb81 hRt1 hRd hRt hO0 hka hld hlt hsz hba0 hR3 hA3 hK3 hG3 hFA hFB xba lba cba HSC
  (repeat (first | (with_reducible first | refine xA ?_ | refine xB ?_ | refine xC ?_ | refine xD ?_ | refine xH ?_ | refine xI rfl ?_ | refine xE ?_ | refine xF ?_ | refine xG ?_) | go_skip | go_guarded | (go_at_call 24; (with_reducible refine (HA1.out _ _ _ _ hGa HBA.out _ _ hAa hKa).mono ?_); rintro _ wb ⟨p1, Yb, rfl, hXb, hS1, hGb, hkb⟩; have hAb := (hAa.kept hkb).mono (Y := Yb) (fun k _ h => hXb k h); have hKb := (hKa.kept hkb).mono (Y := Yb) (fun k _ h => hXb k h); have htb := (hta.kept hkb).mono (Y := Yb) (fun k _ h => hXb k h); have hS1b := hS1.mono (Y := Yb) (fun _ _ h => h.1); have hFb := owns_kept hFa hkb hFY; have hFYb := (fun k e => hXb k (hFY k e)); have hXYb := (fun k h => hXb k (hXa k h)); replace HB := HB.trans (hkb.mono fun k _ h => hXa k h); replace HBA := Lib.hid (Nat.le_trans HBA.out hkb.size); clear hAa hKa hta hS1 hFa hGa hkb) | (go_at_call 24; (with_reducible refine (HA2.out _ _ _ _ hGb HBA.out _ _ hKb hAb).mono ?_); rintro _ wc ⟨p2, Yc, rfl, hXc, hS2, hGc, hkc⟩; have hAc := (hAb.kept hkc).mono (Y := Yc) (fun k _ h => hXc k h); have htc := (htb.kept hkc).mono (Y := Yc) (fun k _ h => hXc k h); have hS1c := (hS1b.kept hkc).mono (Y := Yc) (fun k _ h => hXc k h); have hS2c := hS2.mono (Y := Yc) (fun _ _ h => h.1); have hFc := owns_kept hFb hkc hFYb; have hFYc := (fun k e => hXc k (hFYb k e)); have hXYc := (fun k h => hXc k (hXYb k h)); replace HB := HB.trans (hkc.mono fun k _ h => hXYb k h); replace HBA := Lib.hid (Nat.le_trans HBA.out hkc.size); clear hAb hKb htb hS1b hS2 hFb hGb hkc) | (go_at_call 24; (with_reducible refine (HA3.out _ _ _ _ hGc HBA.out _ _ hAc hAc).mono ?_); rintro _ wd ⟨p3, Yd, rfl, hXd, hS3, hGd, hkd⟩; have hAd := (hAc.kept hkd).mono (Y := Yd) (fun k _ h => hXd k h); have htd := (htc.kept hkd).mono (Y := Yd) (fun k _ h => hXd k h); have hS1d := (hS1c.kept hkd).mono (Y := Yd) (fun k _ h => hXd k h); have hS2d := (hS2c.kept hkd).mono (Y := Yd) (fun k _ h => hXd k h); have hS3d := hS3.mono (Y := Yd) (fun _ _ h => h.1); have hFd := owns_kept hFc hkd hFYc; have hFYd := (fun k e => hXd k (hFYc k e)); have hXYd := (fun k h => hXd k (hXYc k h)); replace HB := HB.trans (hkd.mono fun k _ h => hXYc k h); replace HBA := Lib.hid (Nat.le_trans HBA.out hkd.size); clear hAc htc hS1c hS2c hS3 hFc hGc hkd) | (go_at_call 24; (with_reducible refine (HA4.out _ _ _ _ hGd HBA.out _ _ hAd htd).mono ?_); rintro _ we ⟨p4, Ye, rfl, hXe, hS4, hGe, hke⟩; have hS1e := (hS1d.kept hke).mono (Y := Ye) (fun k _ h => hXe k h); have hS2e := (hS2d.kept hke).mono (Y := Ye) (fun k _ h => hXe k h); have hS3e := (hS3d.kept hke).mono (Y := Ye) (fun k _ h => hXe k h); have hS4e := hS4.mono (Y := Ye) (fun _ _ h => h.1); have hFe := owns_kept hFd hke hFYd; have hXYe := (fun k h => hXe k (hXYd k h)); replace HB := HB.trans (hke.mono fun k _ h => hXYd k h); replace HBA := Lib.hid (Nat.le_trans HBA.out hke.size); clear hAd htd hS1d hS2d hS3d hS4 hFd hGd hke) | (have HFe := Lib.hid (own_sl (X := fun _ => True) hFe (fun _ _ => trivial)); go_at_call 14; (with_reducible refine (told_any (Y := fun _ => True) we hGe HI4.out _ HFe.out HFN.out).mono ?_); rintro _ wf ⟨v, rfl, hv, hOf, -, hbf⟩; obtain ⟨av, cv, rfl⟩ := hv; replace HB := HB.trans (Kept.ofBelow hbf); have HTD := Lib.hid (told_sl hOf); have HS1 := Lib.hid (hS1e.kept (Kept.ofBelow hbf)); have HS2 := Lib.hid (hS2e.kept (Kept.ofBelow hbf)); have HS3 := Lib.hid (hS3e.kept (Kept.ofBelow hbf)); have HS4 := Lib.hid (hS4e.kept (Kept.ofBelow hbf)); clear hbf hOf hGe hS1e hS2e hS3e hS4e hFe) | (go_at_call 16; (with_reducible refine (rmaskK _ hN).mono ?_); rintro _ wg ⟨rfl, hbg⟩; replace HB := HB.trans (Kept.ofBelow hbg); replace HTD := Lib.hid (HTD.out.kept (Kept.ofBelow hbg)); replace HS1 := Lib.hid (HS1.out.kept (Kept.ofBelow hbg)); replace HS2 := Lib.hid (HS2.out.kept (Kept.ofBelow hbg)); replace HS3 := Lib.hid (HS3.out.kept (Kept.ofBelow hbg)); replace HS4 := Lib.hid (HS4.out.kept (Kept.ofBelow hbg)); clear hbg) | go_values | go_skip | go_guarded | go_step | go_upon | go_back | ((with_reducible show Oper.upon _ _ _ _ _ _); go_simp) | (dsimp only)))
  have hX2b : X2 < 18446744073709551616 := by have h1 := HX2.out; have h2 : x.toNat % 2 ^ N ≤ x.toNat := Nat.mod_le _ _; omega
  have hNT : (N : Int) - T = ((N - T : Nat) : Int) := by omega
  refine wp_region_held (S := fun _ => True) (by kernel_rfl) ?_
  have hkd : Kept (fun _ => True) wg ({ wg with drawn := wg.drawn + 1 } : World) := (Kept.refl _ wg).drew 1
  replace HTD := Lib.hid (HTD.out.kept hkd)
  replace HS1 := Lib.hid (HS1.out.kept (hkd.mono fun _ _ _ => trivial))
  replace HS2 := Lib.hid (HS2.out.kept (hkd.mono fun _ _ _ => trivial))
  replace HS3 := Lib.hid (HS3.out.kept (hkd.mono fun _ _ _ => trivial))
  replace HS4 := Lib.hid (HS4.out.kept (hkd.mono fun _ _ _ => trivial))
  replace HB : Kept (fun k => k < w.heap.size) w ({ wg with drawn := wg.drawn + 1 } : World) := HB.drew 1
  clear hkd
  generalize ({ wg with drawn := wg.drawn + 1 } : World) = uh at *
  have HSC : (fun _ : World => True) uh := trivial
  refine wpAnyH_take (i := 0) (v := .int .u64 X2) rfl (by kernel_rfl) (by kernel_rfl) (by kernel_rfl) (fun _ _ _ h => h) (Or.inl ⟨rfl, fun w _ => by go_simp⟩) HSC ?_; simp only [Act.put, List.getElem_toArray, List.getElem_cons_zero, List.getElem_cons_succ, List.setIfInBounds_toArray, List.set_cons_succ, List.set_cons_zero]
  refine wpAnyH_take (i := 1) (v := .int .i64 T) rfl (by kernel_rfl) (by kernel_rfl) (by kernel_rfl) (fun _ _ _ h => h) (Or.inl ⟨rfl, fun w _ => by go_simp⟩) HSC ?_; simp only [Act.put, List.getElem_toArray, List.getElem_cons_zero, List.getElem_cons_succ, List.setIfInBounds_toArray, List.set_cons_succ, List.set_cons_zero]
  refine wpAnyH_take (i := 3) (v := .int .u64 X2) rfl (by kernel_rfl) (by kernel_rfl) (by kernel_rfl) (fun _ _ _ h => h) (Or.inl ⟨rfl, fun w _ => by go_simp⟩) HSC ?_; simp only [Act.put, List.getElem_toArray, List.getElem_cons_zero, List.getElem_cons_succ, List.setIfInBounds_toArray, List.set_cons_succ, List.set_cons_zero]
  refine wpAnyH_take (i := 4) (v := .int .i64 N) rfl (by kernel_rfl) (by kernel_rfl) (by kernel_rfl) (fun _ _ _ h => h) (Or.inl ⟨rfl, fun w _ => by go_simp⟩) HSC ?_; simp only [Act.put, List.getElem_toArray, List.getElem_cons_zero, List.getElem_cons_succ, List.setIfInBounds_toArray, List.set_cons_succ, List.set_cons_zero]
  refine wpAnyH_take (i := 5) (v := .int .i64 T) rfl (by kernel_rfl) (by kernel_rfl) (by kernel_rfl) (fun _ _ _ h => h) (Or.inl ⟨rfl, fun w _ => by go_simp⟩) HSC ?_; simp only [Act.put, List.getElem_toArray, List.getElem_cons_zero, List.getElem_cons_succ, List.setIfInBounds_toArray, List.set_cons_succ, List.set_cons_zero]
  refine wpAnyH_take (i := 8) (v := .int .i64 N) rfl (by kernel_rfl) (by kernel_rfl) (by kernel_rfl) (fun _ _ _ h => h) (Or.inl ⟨rfl, fun w _ => by go_simp⟩) HSC ?_; simp only [Act.put, List.getElem_toArray, List.getElem_cons_zero, List.getElem_cons_succ, List.setIfInBounds_toArray, List.set_cons_succ, List.set_cons_zero]
  refine wpAnyH_take (i := 6) (v := .int .i64 ((N - T : Nat) : Int)) rfl (by kernel_rfl) (by kernel_rfl) (by kernel_rfl) (fun _ _ _ h => h) (Or.inl ⟨rfl, fun w _ => by have e : IntKind.i64.wrap ((N - T : Nat) : Int) = ((N - T : Nat) : Int) := IntWalk.i64_in _ ⟨by omega, by omega⟩; go_simp⟩) HSC ?_
  simp only [Act.put, List.getElem_toArray, List.getElem_cons_zero, List.getElem_cons_succ, List.setIfInBounds_toArray, List.set_cons_succ, List.set_cons_zero]
  refine wpAnyH_take (i := 2) (v := .int .u64 ((X2 / 2 ^ T : Nat) : Int)) rfl (by kernel_rfl) (by kernel_rfl) (by kernel_rfl) (fun _ _ _ h => h) (Or.inl ⟨rfl, fun w _ => by go_simp⟩) HSC ?_
  simp only [Act.put, List.getElem_toArray, List.getElem_cons_zero, List.getElem_cons_succ, List.setIfInBounds_toArray, List.set_cons_succ, List.set_cons_zero]
  refine wpAnyH_take (i := 7) (v := .int .u64 (IntKind.u64.wrap ((X2 : Int) * 2 ^ (N - T)))) rfl (by kernel_rfl) (by kernel_rfl) (by kernel_rfl) (fun _ _ _ h => h) (Or.inl ⟨rfl, fun w _ => by go_simp⟩) HSC ?_
  simp only [Act.put, List.getElem_toArray, List.getElem_cons_zero, List.getElem_cons_succ, List.setIfInBounds_toArray, List.set_cons_succ, List.set_cons_zero]
  refine wpAnyH_all (rs := [9]) (by kernel_rfl) (by simp) (fun i hi => ?_)
  obtain rfl : i = 9 := by simpa using hi
  refine wpOp_one rfl ?_
  (repeat (first | (with_reducible first | refine xA ?_ | refine xB ?_ | refine xC ?_ | refine xD ?_ | refine xH ?_ | refine xI rfl ?_ | refine xE ?_ | refine xF ?_ | refine xG ?_) | go_skip | go_guarded | (go_at_call 16; (with_reducible refine (rmaskK _ hN).mono ?_); rintro _ wg ⟨rfl, hbg⟩; replace HB := HB.trans (Kept.ofBelow hbg); replace HTD := Lib.hid (HTD.out.kept (Kept.ofBelow hbg)); replace HS1 := Lib.hid (HS1.out.kept (Kept.ofBelow hbg)); replace HS2 := Lib.hid (HS2.out.kept (Kept.ofBelow hbg)); replace HS3 := Lib.hid (HS3.out.kept (Kept.ofBelow hbg)); replace HS4 := Lib.hid (HS4.out.kept (Kept.ofBelow hbg)); clear hbg) | go_values | go_skip | go_guarded | go_step | go_upon | go_back | ((with_reducible show Oper.upon _ _ _ _ _ _); go_simp) | (dsimp only)))
  refine ⟨trivial, ?_⟩
  have hsa := shl_and hN X2 (N - T)
  refine wpAnyH_take (i := 10) (v := .int .u64 ((X2 * 2 ^ (N - T) % 2 ^ N : Nat) : Int)) rfl (by kernel_rfl) (by kernel_rfl) (by kernel_rfl) (fun _ _ _ h => h) (Or.inl ⟨rfl, fun w _ => by go_simp⟩) HSC ?_
  simp only [Act.put, List.getElem_toArray, List.getElem_cons_zero, List.getElem_cons_succ, List.setIfInBounds_toArray, List.set_cons_succ, List.set_cons_zero]
  have hor : bits BinOp.or IntKind.u64 ((X2 / 2 ^ T : Nat) : Int) ((X2 * 2 ^ (N - T) % 2 ^ N : Nat) : Int) = ((X2 / 2 ^ T ||| (X2 * 2 ^ (N - T) % 2 ^ N) : Nat) : Int) := bits_or_u64_nat _ _ (Nat.lt_of_le_of_lt (Nat.div_le_self _ _) hX2b) (Nat.lt_of_lt_of_le (Nat.mod_lt _ (Nat.pow_pos (by decide))) (pow_le64 hN.2))
  obtain ⟨TD, hTD⟩ : ∃ TD : Nat, (X2 / 2 ^ T ||| (X2 * 2 ^ (N - T) % 2 ^ N)) = TD := ⟨_, rfl⟩
  rw [hTD] at hor
  rw [hTD] at HV4
  refine wpAnyH_take (i := 11) (v := .int .u64 (TD : Int)) rfl (by kernel_rfl) (by kernel_rfl) (by kernel_rfl) (fun _ _ _ h => h) (Or.inl ⟨rfl, fun w _ => by go_simp; simpa using hor⟩) HSC ?_
  simp only [Act.put, List.getElem_toArray, List.getElem_cons_zero, List.getElem_cons_succ, List.setIfInBounds_toArray, List.set_cons_succ, List.set_cons_zero]
  refine wpAnyH_all (rs := [12]) (by kernel_rfl) (by simp) (fun i hi => ?_)
  obtain rfl : i = 12 := by simpa using hi
  refine wpOp_one rfl ?_
  (repeat (first | (with_reducible first | refine xA ?_ | refine xB ?_ | refine xC ?_ | refine xD ?_ | refine xH ?_ | refine xI rfl ?_ | refine xE ?_ | refine xF ?_ | refine xG ?_) | go_values | go_skip | go_guarded | go_step | go_upon | go_back | ((with_reducible show Oper.upon _ _ _ _ _ _); go_simp) | (dsimp only)))
  refine ⟨trivial, ?_⟩
  refine wpAnyH_done (by kernel_rfl) ?_ _
  have HLE1 := Lib.hid (show r1.2.length ≤ 64 by rw [HLEN1.out]; split <;> omega)
  have HLE2 := Lib.hid (show r2.2.length ≤ 64 by rw [HLEN2.out]; split <;> omega)
  have HLE3 := Lib.hid (show r3.2.length ≤ 64 by rw [HLEN3.out]; split <;> omega)
  have HLE4 := Lib.hid (show r4.2.length ≤ 64 by rw [HLEN4.out]; split <;> omega)
  have hXN : X2 < 2 ^ N := by rw [← HX2.out]; exact Nat.mod_lt _ (Nat.pow_pos (by decide))
  have hTDN : TD < 2 ^ N := by rw [← hTD]; exact Nat.or_lt_two_pow (Nat.lt_of_le_of_lt (Nat.div_le_self _ _) hXN) (Nat.mod_lt _ (Nat.pow_pos (by decide)))
  have hTD64 : TD < 18446744073709551616 := Nat.lt_of_lt_of_le hTDN (pow_le64 hN.2)
  have HRA1 := Lib.hid (fun u : World => rap_val (op := op) (x := x) (y := c) hN hx0 hx1 hc0 hc1 (by rw [HV1.out, HX2.out]) u)
  have HRA2 := Lib.hid (fun u : World => rap_val (op := op) (x := c) (y := x) hN hc0 hc1 hx0 hx1 (by rw [HV2.out, HX2.out]) u)
  have HRA3 := Lib.hid (fun u : World => rap_val (op := op) (x := x) (y := x) hN hx0 hx1 hx0 hx1 (by rw [HV3.out, HX2.out]) u)
  have HRA4 := Lib.hid (fun u : World => rap_val (op := op) (x := (X2 : Int)) (y := (TD : Int)) hN (by omega) (by omega) (by omega) (by omega) (by rw [HV4.out]; simp only [Int.toNat_natCast, Nat.mod_eq_of_lt hXN, Nat.mod_eq_of_lt hTDN]) u)
  have HW1 := Lib.hid (show bv (r1.2.map (lit s4)) = num s4 r1.2 from rfl)
  have HW2 := Lib.hid (show bv (r2.2.map (lit s4)) = num s4 r2.2 from rfl)
  have HW3 := Lib.hid (show bv (r3.2.map (lit s4)) = num s4 r3.2 from rfl)
  have HW4 := Lib.hid (show bv (r4.2.map (lit s4)) = num s4 r4.2 from rfl)
  clear hXN hTDN hTD64 hTD hor hsa
  generalize num s4 r1.2 = V1 at *
  generalize num s4 r2.2 = V2 at *
  generalize num s4 r3.2 = V3 at *
  generalize num s4 r4.2 = V4 at *
  (repeat (first | (with_reducible first | refine xA ?_ | refine xB ?_ | refine xC ?_ | refine xD ?_ | refine xH ?_ | refine xI rfl ?_ | refine xE ?_ | refine xF ?_ | refine xG ?_) | go_skip | go_guarded | (go_at_call 15; (with_reducible refine (Word_any _ _ _ _ s4 HTD.out _ HS1.out HM1.out HN4.out HLE1.out _ HW1).mono ?_); rintro _ wk1 ⟨rfl, rfl⟩; clear HS1) | (go_at_call 15; (with_reducible refine (Word_any _ _ _ _ s4 HTD.out _ HS2.out HM2.out HN4.out HLE2.out _ HW2).mono ?_); rintro _ wk2 ⟨rfl, rfl⟩; clear HS2) | (go_at_call 15; (with_reducible refine (Word_any _ _ _ _ s4 HTD.out _ HS3.out HM3.out HN4.out HLE3.out _ HW3).mono ?_); rintro _ wk3 ⟨rfl, rfl⟩; clear HS3) | (go_at_call 15; (with_reducible refine (Word_any _ _ _ _ s4 HTD.out _ HS4.out HM4.out HN4.out HLE4.out _ HW4).mono ?_); rintro _ wk4 ⟨rfl, rfl⟩; clear HS4) | (go_at_call 25; (with_reducible refine (HRA1.out _).mono ?_); rintro _ wl1 ⟨rfl, hbl⟩; replace HB := HB.trans (Kept.ofBelow hbl); clear hbl) | (go_at_call 25; (with_reducible refine (HRA2.out _).mono ?_); rintro _ wl2 ⟨rfl, hbl⟩; replace HB := HB.trans (Kept.ofBelow hbl); clear hbl) | (go_at_call 25; (with_reducible refine (HRA3.out _).mono ?_); rintro _ wl3 ⟨rfl, hbl⟩; replace HB := HB.trans (Kept.ofBelow hbl); clear hbl) | (go_at_call 25; (with_reducible refine (HRA4.out _).mono ?_); rintro _ wl4 ⟨rfl, hbl⟩; replace HB := HB.trans (Kept.ofBelow hbl); clear hbl) | go_values | go_skip | go_guarded | go_step | go_upon | go_back | ((with_reducible show Oper.upon _ _ _ _ _ _); go_simp) | (dsimp only)))
  go_ret
  exact ⟨rfl, HB.toBelow (Nat.le_refl _) fun _ h => h⟩

end Go.Proofs.Ytmaogkgjiplckaa

