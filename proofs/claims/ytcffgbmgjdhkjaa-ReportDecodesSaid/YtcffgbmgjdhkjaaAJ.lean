import Derived.Test.YtcffgbmgjdhkjaaAI
set_option linter.unusedSimpArgs false
set_option linter.unusedVariables false
namespace Go.Proofs.Ytcffgbmgjdhkjaa
open Go.RowKit

theorem eqfunc_anyX (v1 v2 : Value) (ps qs : List Pr) (w : World) (hP : PresIn w v1 ps) (hQ : PresIn w v2 qs) (hps : ∀ p ∈ ps, PrOk p) (hqs : ∀ p ∈ qs, PrOk p) (hl : ps.length ≤ 1000000) (hl2 : qs.length ≤ 1000000) (r : Bool) (hr : Hid (decide (ps = qs) = r)) :
    Calls Try.prog 21 #[v1, v2, .func (Fn.func 22) #[] #[]] w fun e w' => e = .returned (.bool r) ∧ Below w.heap.size w w' := by
  rw [← hr.out]; exact eqfunc_any v1 v2 ps qs w hP hQ hps hqs hl hl2

theorem rp_dec (v e a v' e' a' : Int) (ps qs : List Pr) : decide ((⟨v, e, a, ps⟩ : Rp) = ⟨v', e', a', qs⟩) = (decide (v = v') && (decide (e = e') && (decide (a = a') && decide (ps = qs)))) := by
  rw [Bool.eq_iff_iff]
  simp

set_option maxRecDepth 100000 in
set_option maxHeartbeats 1000000 in
theorem same_any (v e a v' e' a' : Int) (ps qs : List Pr) (x y : Value) (w : World) (hP : PresIn w x ps) (hQ : PresIn w y qs) (hps : ∀ p ∈ ps, PrOk p) (hqs : ∀ p ∈ qs, PrOk p) (hl : ps.length ≤ 1000000) (hl2 : qs.length ≤ 1000000) :
    Calls Try.prog 13 #[.agg #[.int .i64 v, .int .i64 e, .int .i64 a, x], .agg #[.int .i64 v', .int .i64 e', .int .i64 a', y]] w fun en w' => en = .returned (.bool (decide ((⟨v, e, a, ps⟩ : Rp) = ⟨v', e', a', qs⟩))) ∧ Below w.heap.size w w' := by
  rw [rp_dec]
  have HP := Lib.hid hP
  have HQ := Lib.hid hQ
  have Hps := Lib.hid hps
  have Hqs := Lib.hid hqs
  obtain ⟨vs, hS1, -, -⟩ := hP
  obtain ⟨us, hS2, -, -⟩ := hQ
  obtain ⟨a1, c1, rfl⟩ := hS1.shape
  obtain ⟨a2, c2, rfl⟩ := hS2.shape
  clear hps hqs hS1 hS2
  by_cases g1 : v = v'
  rotate_left
  · have f1 : (v == v') = false := by simpa using g1
    have d1 : Hid (decide (v = v') = false) := Lib.hid (decide_eq_false g1)
    clear g1
    go_enter Try.func13, Try.ntmps13
    (repeat (first | with_reducible refine xThenN ?_ | with_reducible refine xThenE ?_ | with_reducible refine xThenR ?_ | with_reducible refine xThenP ?_ | with_reducible refine xBlockEq ?_ | with_reducible refine xBlockNe rfl ?_ | with_reducible refine xBlockN ?_ | with_reducible refine xBlockR ?_ | with_reducible refine xBlockP ?_ | go_values | go_skip | go_guarded | go_step | go_upon | go_back | (dsimp only)))
    go_ret
    exact ⟨ret_bool (by rw [d1.out]; rfl), by (repeat (first | with_reducible exact Below.refl _ _ | assumption | with_reducible refine below_drewN ?_ _ | with_reducible refine Below.drew ?_ | with_reducible refine Below.setRow ?_ ?_ _ | with_reducible refine Below.alloc ?_ ?_ _ | with_reducible refine Below.setCell ?_ ?_ _ | with_reducible exact Nat.le_refl _ | (focus (simp; done)) | (focus (simp; omega)) | omega))⟩
  have f1 : (v == v') = true := by simpa using g1
  have d1 : Hid (decide (v = v') = true) := Lib.hid (decide_eq_true g1)
  clear g1
  by_cases g2 : e = e'
  rotate_left
  · have f2 : (e == e') = false := by simpa using g2
    have d2 : Hid (decide (e = e') = false) := Lib.hid (decide_eq_false g2)
    clear g2
    go_enter Try.func13, Try.ntmps13
    (repeat (first | with_reducible refine xThenN ?_ | with_reducible refine xThenE ?_ | with_reducible refine xThenR ?_ | with_reducible refine xThenP ?_ | with_reducible refine xBlockEq ?_ | with_reducible refine xBlockNe rfl ?_ | with_reducible refine xBlockN ?_ | with_reducible refine xBlockR ?_ | with_reducible refine xBlockP ?_ | go_values | go_skip | go_guarded | go_step | go_upon | go_back | (dsimp only)))
    go_ret
    exact ⟨ret_bool (by rw [d1.out, d2.out]; rfl), by (repeat (first | with_reducible exact Below.refl _ _ | assumption | with_reducible refine below_drewN ?_ _ | with_reducible refine Below.drew ?_ | with_reducible refine Below.setRow ?_ ?_ _ | with_reducible refine Below.alloc ?_ ?_ _ | with_reducible refine Below.setCell ?_ ?_ _ | with_reducible exact Nat.le_refl _ | (focus (simp; done)) | (focus (simp; omega)) | omega))⟩
  have f2 : (e == e') = true := by simpa using g2
  have d2 : Hid (decide (e = e') = true) := Lib.hid (decide_eq_true g2)
  clear g2
  by_cases g3 : a = a'
  rotate_left
  · have f3 : (a == a') = false := by simpa using g3
    have d3 : Hid (decide (a = a') = false) := Lib.hid (decide_eq_false g3)
    clear g3
    go_enter Try.func13, Try.ntmps13
    (repeat (first | with_reducible refine xThenN ?_ | with_reducible refine xThenE ?_ | with_reducible refine xThenR ?_ | with_reducible refine xThenP ?_ | with_reducible refine xBlockEq ?_ | with_reducible refine xBlockNe rfl ?_ | with_reducible refine xBlockN ?_ | with_reducible refine xBlockR ?_ | with_reducible refine xBlockP ?_ | go_values | go_skip | go_guarded | go_step | go_upon | go_back | (dsimp only)))
    go_ret
    exact ⟨ret_bool (by rw [d1.out, d2.out, d3.out]; rfl), by (repeat (first | with_reducible exact Below.refl _ _ | assumption | with_reducible refine below_drewN ?_ _ | with_reducible refine Below.drew ?_ | with_reducible refine Below.setRow ?_ ?_ _ | with_reducible refine Below.alloc ?_ ?_ _ | with_reducible refine Below.setCell ?_ ?_ _ | with_reducible exact Nat.le_refl _ | (focus (simp; done)) | (focus (simp; omega)) | omega))⟩
  have f3 : (a == a') = true := by simpa using g3
  have d3 : Hid (decide (a = a') = true) := Lib.hid (decide_eq_true g3)
  clear g3
  obtain ⟨r, hr⟩ : ∃ r, Hid (decide (ps = qs) = r) := ⟨_, Lib.hid rfl⟩
  go_enter Try.func13, Try.ntmps13
  (repeat (first | with_reducible refine xThenN ?_ | with_reducible refine xThenE ?_ | with_reducible refine xThenR ?_ | with_reducible refine xThenP ?_ | with_reducible refine xBlockEq ?_ | with_reducible refine xBlockNe rfl ?_ | with_reducible refine xBlockN ?_ | with_reducible refine xBlockR ?_ | with_reducible refine xBlockP ?_ | (go_at_call 21; (with_reducible refine (eqfunc_anyX _ _ ps qs _ (HP.out.below (by (repeat (first | with_reducible exact Below.refl _ _ | assumption | with_reducible refine below_drewN ?_ _ | with_reducible refine Below.drew ?_ | with_reducible refine Below.setRow ?_ ?_ _ | with_reducible refine Below.alloc ?_ ?_ _ | with_reducible refine Below.setCell ?_ ?_ _ | with_reducible exact Nat.le_refl _ | (focus (simp; done)) | (focus (simp; omega)) | omega)))) (HQ.out.below (by (repeat (first | with_reducible exact Below.refl _ _ | assumption | with_reducible refine below_drewN ?_ _ | with_reducible refine Below.drew ?_ | with_reducible refine Below.setRow ?_ ?_ _ | with_reducible refine Below.alloc ?_ ?_ _ | with_reducible refine Below.setCell ?_ ?_ _ | with_reducible exact Nat.le_refl _ | (focus (simp; done)) | (focus (simp; omega)) | omega)))) Hps.out Hqs.out hl hl2 _ hr).mono ?_); rintro e w1 ⟨rfl, hb1⟩) | go_values | go_skip | go_guarded | go_step | go_upon | go_back | (dsimp only)))
  go_ret
  exact ⟨ret_bool (by rw [d1.out, d2.out, d3.out, hr.out]; rfl), Below.trans (by (repeat (first | with_reducible exact Below.refl _ _ | assumption | with_reducible refine below_drewN ?_ _ | with_reducible refine Below.drew ?_ | with_reducible refine Below.setRow ?_ ?_ _ | with_reducible refine Below.alloc ?_ ?_ _ | with_reducible refine Below.setCell ?_ ?_ _ | with_reducible exact Nat.le_refl _ | (focus (simp; done)) | (focus (simp; omega)) | omega))) (hb1.mono (by simp; omega))⟩

end Go.Proofs.Ytcffgbmgjdhkjaa
