import Derived.Test.YtmaogkgjiplckaaGF
set_option linter.unusedSimpArgs false
set_option linter.unusedVariables false
namespace Go.Proofs.Ytmaogkgjiplckaa
open Go.RowKit

set_option maxRecDepth 100000 in
theorem either_any {X : Nat → Prop} {base gb : Nat} {g : G} {fr : List Int} {s : Nat → Bool} (w : World) (hG0 : GR X base w gb g) (Hn0 : Hid (g.n < 1048576)) (hba0 : base ≤ w.heap.size) (x y : Int) (hx : Hid (isL g.n x)) (hy : Hid (isL g.n y)) (hI : Hid (GI g fr s)) (r : G × Int) (hr : Hid (either g x y = r)) :
    Calls Try.prog 83 #[.pointer (some ⟨gb, 0, none⟩), .int .i64 x, .int .i64 y] w fun e w' => e = .returned (.int .i64 r.2) ∧ GR X base w' gb r.1 ∧ Kept X w w' := by
  have bx := rng_of hx.out hG0.n1
  have by' := rng_of hy.out hG0.n1
  have Hx0 := Lib.hid hx.out.neg
  have Hy0 := Lib.hid hy.out.neg
  obtain ⟨r1, Hr1⟩ : ∃ r1, Hid (both g (-x) (-y) = r1) := ⟨_, Lib.hid rfl⟩
  have hb : -1048577 ≤ r1.2 ∧ r1.2 ≤ 1048577 := by
    obtain ⟨s1, I1, st1, le1, L1, v1⟩ := both_ok hI.out Hx0.out Hy0.out
    rw [Hr1.out] at le1 L1
    have := Hn0.out
    obtain ⟨_, l1, l2⟩ := L1
    omega
  have hR : Hid (r = (r1.1, -r1.2)) := Lib.hid (by have h1 := hr.out; have h2 := Hr1.out; unfold either at h1; rw [h2] at h1; exact h1.symm)
  go_enter Try.func83, Try.ntmps83
  (repeat (first | (with_reducible first | refine xA ?_ | refine xB ?_ | refine xC ?_ | refine xD ?_ | refine xH ?_ | refine xI rfl ?_ | refine xE ?_ | refine xF ?_ | refine xG ?_) | go_skip | go_guarded | (go_at_call 64; (with_reducible refine (both_any _ hG0 Hn0 hba0 _ _ Hx0 Hy0 r1 Hr1).mono ?_); rintro _ w1 ⟨rfl, hG1, hk1⟩) | go_values | go_skip | go_guarded | go_step | go_upon | go_back | ((with_reducible show Oper.upon _ _ _ _ _ _); go_simp) | (dsimp only)))
  go_ret
  rw [hR.out]
  exact ⟨rfl, hG1, hk1⟩

theorem Kept.trans2 {X : Nat → Prop} {a b c d : World} (h : Kept X a b) (k : Kept X b c) (l : Kept X c d) : Kept X a d := (h.trans k).trans l
set_option maxRecDepth 100000 in
theorem choice_any {X : Nat → Prop} {base gb : Nat} {g : G} {fr : List Int} {s : Nat → Bool} (w : World) (hG0 : GR X base w gb g) (hn : Hid (g.n + 3 ≤ 1048576)) (hba0 : base ≤ w.heap.size) (c x y : Int) (hc : Hid (isL g.n c)) (hx : Hid (isL g.n x)) (hy : Hid (isL g.n y)) (hI : Hid (GI g fr s)) (r : G × Int) (hr : Hid (choice g c x y = r)) :
    Calls Try.prog 75 #[.pointer (some ⟨gb, 0, none⟩), .int .i64 c, .int .i64 x, .int .i64 y] w fun e w' => e = .returned (.int .i64 r.2) ∧ GR X base w' gb r.1 ∧ Kept X w w' := by
  have bc := rng_of hc.out hG0.n1
  by_cases e : x = y
  · have hR : Hid (r = (g, x)) := Lib.hid (by have h1 := hr.out; unfold choice at h1; rw [if_pos e] at h1; exact h1.symm)
    subst e
    go_enter Try.func75, Try.ntmps75
    (repeat (first | (with_reducible first | refine xA ?_ | refine xB ?_ | refine xC ?_ | refine xD ?_ | refine xH ?_ | refine xI rfl ?_ | refine xE ?_ | refine xF ?_ | refine xG ?_) | go_values | go_skip | go_guarded | go_step | go_upon | go_back | ((with_reducible show Oper.upon _ _ _ _ _ _); go_simp) | (dsimp only)))
    go_ret
    rw [hR.out]
    exact ⟨rfl, hG0, Kept.refl _ _⟩
  have f1 : (x == y) = false := by simpa using e
  obtain ⟨r1, Hr1⟩ : ∃ r1, Hid (both g c x = r1) := ⟨_, Lib.hid rfl⟩
  obtain ⟨s1, I1, st1, le1, L1, v1⟩ := both_ok hI.out hc.out hx.out
  rw [Hr1.out] at I1 st1 le1 L1 v1
  obtain ⟨r2, Hr2⟩ : ∃ r2, Hid (both r1.1 (-c) y = r2) := ⟨_, Lib.hid rfl⟩
  obtain ⟨s2, I2, st2, le2, L2, v2⟩ := both_ok I1 (st1.isL hc.out).neg (st1.isL hy.out)
  rw [Hr2.out] at I2 st2 le2 L2 v2
  obtain ⟨r3, Hr3⟩ : ∃ r3, Hid (either r2.1 r1.2 r2.2 = r3) := ⟨_, Lib.hid rfl⟩
  have hR : Hid (r = r3) := Lib.hid (by have h1 := hr.out; unfold choice at h1; rw [if_neg e] at h1; dsimp only at h1; rw [Hr1.out, Hr2.out, Hr3.out] at h1; exact h1.symm)
  have Hn0 := Lib.hid (show g.n < 1048576 by have := hn.out; omega)
  have Hn1 := Lib.hid (show r1.1.n < 1048576 by have := hn.out; omega)
  have Hn2 := Lib.hid (show r2.1.n < 1048576 by have := hn.out; omega)
  have Hx0 := hc
  have Hy0 := hx
  have Hx1 := Lib.hid (st1.isL hc.out).neg
  have Hy1 := Lib.hid (st1.isL hy.out)
  have Hx2 := Lib.hid (st2.isL L1)
  have Hy2 := Lib.hid L2
  have HI2 := Lib.hid I2
  clear I1 st1 le1 L1 v1 I2 st2 le2 L2 v2 e hr
  go_enter Try.func75, Try.ntmps75
  (repeat (first | (with_reducible first | refine xA ?_ | refine xB ?_ | refine xC ?_ | refine xD ?_ | refine xH ?_ | refine xI rfl ?_ | refine xE ?_ | refine xF ?_ | refine xG ?_) | go_skip | go_guarded | (go_at_call 64; (with_reducible refine (both_any _ hG0 Hn0 hba0 _ _ Hx0 Hy0 r1 Hr1).mono ?_); rintro _ w1 ⟨rfl, hG1, hk1⟩) | (go_at_call 64; (with_reducible refine (both_any _ hG1 Hn1 (Nat.le_trans hba0 hk1.size) _ _ Hx1 Hy1 r2 Hr2).mono ?_); rintro _ w2 ⟨rfl, hG2, hk2⟩) | (go_at_call 83; (with_reducible refine (either_any _ hG2 Hn2 (Nat.le_trans hba0 (Nat.le_trans hk1.size hk2.size)) _ _ Hx2 Hy2 HI2 r3 Hr3).mono ?_); rintro _ w3 ⟨rfl, hG3, hk3⟩) | go_values | go_skip | go_guarded | go_step | go_upon | go_back | ((with_reducible show Oper.upon _ _ _ _ _ _); go_simp) | (dsimp only)))
  go_ret
  rw [hR.out]
  exact ⟨rfl, hG3, Kept.trans2 hk1 hk2 hk3⟩

end Go.Proofs.Ytmaogkgjiplckaa
