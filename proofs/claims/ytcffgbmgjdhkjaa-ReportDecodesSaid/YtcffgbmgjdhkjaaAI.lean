import Derived.Test.YtcffgbmgjdhkjaaAH
set_option linter.unusedSimpArgs false
set_option linter.unusedVariables false
namespace Go.Proofs.Ytcffgbmgjdhkjaa
open Go.RowKit

def PrOk (p : Pr) : Prop := prLen p ∧ ByteL p.input
theorem same1_anyX (t1 t2 t3 u1 u2 u3 : Value) (p q : Pr) (w : World) (hP : PrIn w (t1, t2, t3) p) (hQ : PrIn w (u1, u2, u3) q) (hlp : prLen p) (hlq : prLen q) (hbp : ByteL p.input) (hbq : ByteL q.input) (r : Bool) (hr : Hid (decide (p = q) = r)) :
    Calls Try.prog 22 #[.agg #[t1, t2, t3], .agg #[u1, u2, u3]] w fun e w' => e = .returned (.bool r) ∧ Below w.heap.size w w' := by
  rw [← hr.out]; exact same1_any t1 t2 t3 u1 u2 u3 p q w hP hQ hlp hlq hbp hbq

/-- element k of a list of preconditions in memory -/
theorem PrIn.slices {w : World} {t : Trip} {p : Pr} (h : PrIn w t p) : ∃ a1 m1 a2 m2 a3 m3, t = (.slice a1 p.path.length m1, .slice a2 p.term.length m2, .slice a3 p.input.length m3) := by
  obtain ⟨q1, q2, q3⟩ := h
  obtain ⟨a1, m1, e1⟩ := q1.shape
  obtain ⟨a2, m2, e2⟩ := q2.shape
  obtain ⟨a3, m3, e3⟩ := q3.shape
  obtain ⟨t1, t2, t3⟩ := t
  dsimp only at e1 e2 e3
  subst e1; subst e2; subst e3
  exact ⟨a1, m1, a2, m2, a3, m3, rfl⟩

set_option maxRecDepth 100000 in
set_option maxHeartbeats 1000000 in
theorem eqfunc_any (v1 v2 : Value) (ps qs : List Pr) (w : World) (hP : PresIn w v1 ps) (hQ : PresIn w v2 qs) (hps : ∀ p ∈ ps, PrOk p) (hqs : ∀ p ∈ qs, PrOk p) (hl : ps.length ≤ 1000000) (hl2 : qs.length ≤ 1000000) :
    Calls Try.prog 21 #[v1, v2, .func (Fn.func 22) #[] #[]] w fun e w' => e = .returned (.bool (decide (ps = qs))) ∧ Below w.heap.size w w' := by
  obtain ⟨vs, hS1, hvl, hPs⟩ := hP
  obtain ⟨us, hS2, hul, hQs⟩ := hQ
  have Hvl := Lib.hid hvl
  have Hul := Lib.hid hul
  have HPs := Lib.hid hPs
  have HQs := Lib.hid hQs
  have Hps := Lib.hid hps
  have Hqs := Lib.hid hqs
  have hvb : vs.length ≤ 1000000 := by omega
  have hub : us.length ≤ 1000000 := by omega
  clear hvl hul hPs hQs hps hqs
  obtain ⟨a1, c1, rfl⟩ := hS1.shape
  obtain ⟨a2, c2, rfl⟩ := hS2.shape
  by_cases hn : vs.length = us.length
  rotate_left
  · have hne : Hid (decide (ps = qs) = false) := Lib.hid (by rw [decide_eq_false_iff_not]; rintro rfl; exact hn (Hvl.out.trans Hul.out.symm))
    have hq : (((vs.length : Int)) != (us.length : Int)) = true := by simp; omega
    clear hn
    go_enter Try.func21, Try.ntmps21
    (repeat (first | with_reducible refine xThenN ?_ | with_reducible refine xThenE ?_ | with_reducible refine xThenR ?_ | with_reducible refine xThenP ?_ | with_reducible refine xBlockEq ?_ | with_reducible refine xBlockNe rfl ?_ | with_reducible refine xBlockN ?_ | with_reducible refine xBlockR ?_ | with_reducible refine xBlockP ?_ | go_values | go_skip | go_guarded | go_step | go_upon | go_back | (dsimp only)))
    go_ret
    exact ⟨ret_bool (by rw [hne.out]), Below.refl _ _⟩
  have hq : (((vs.length : Int)) != (us.length : Int)) = false := by simp; omega
  have Hn := Lib.hid hn
  clear hn
  go_enter Try.func21, Try.ntmps21
  (repeat (first | with_reducible refine xThenN ?_ | with_reducible refine xThenE ?_ | with_reducible refine xThenR ?_ | with_reducible refine xThenP ?_ | with_reducible refine xBlockEq ?_ | with_reducible refine xBlockNe rfl ?_ | with_reducible refine xBlockN ?_ | with_reducible refine xBlockR ?_ | with_reducible refine xBlockP ?_ | go_values | go_skip | go_guarded | go_step | go_upon | go_back | (dsimp only)))
  go_loopw [7, 8, 9, 17] (fun _ _ _ i wr => ∃ (k : Nat), k ≤ vs.length ∧ i = .int .i64 k ∧ Hid (ps.take k = qs.take k) ∧ Below w.heap.size w wr) (fun _ _ _ i _ => vs.length - (intOf i).toNat)
  case atStart => exact ⟨0, by omega, rfl, Lib.hid (by simp), Below.refl _ _⟩
  case round =>
    obtain ⟨k, hk, rfl, hT, HB⟩ := hrel
    have hsz := HB.size
    rcases Nat.lt_or_ge k vs.length with hlt | hge
    · obtain ⟨t, ht⟩ : ∃ t, vs[k]? = some t := ⟨_, List.getElem?_eq_getElem hlt⟩
      obtain ⟨u, hu⟩ : ∃ t, us[k]? = some t := ⟨_, List.getElem?_eq_getElem (by rw [← Hn.out]; exact hlt)⟩
      obtain ⟨p, hp⟩ : ∃ x, ps[k]? = some x := ⟨_, List.getElem?_eq_getElem (by rw [← Hvl.out]; exact hlt)⟩
      obtain ⟨q, hq⟩ : ∃ y, qs[k]? = some y := ⟨_, List.getElem?_eq_getElem (by rw [← Hul.out, ← Hn.out]; exact hlt)⟩
      obtain ⟨a3, m3, a4, m4, a5, m5, rfl⟩ := (HPs.out k t p ht hp).slices
      obtain ⟨a6, m6, a7, m7, a8, m8, rfl⟩ := (HQs.out k u q hu hq).slices
      have Hp := Lib.hid (HPs.out k _ p ht hp)
      have Hq := Lib.hid (HQs.out k _ q hu hq)
      have hi := Lib.hid ht
      have hj := Lib.hid hu
      have HLp := Lib.hid (Hps.out p (List.mem_of_getElem? hp)).1
      have HLq := Lib.hid (Hqs.out q (List.mem_of_getElem? hq)).1
      have HBp := Lib.hid (Hps.out p (List.mem_of_getElem? hp)).2
      have HBq := Lib.hid (Hqs.out q (List.mem_of_getElem? hq)).2
      have Hx := Lib.hid hp
      have Hy := Lib.hid hq
      obtain ⟨b1, o1, rfl, R1⟩ := hS1.row (by omega)
      obtain ⟨b2, o2, rfl, R2⟩ := hS2.row (by have := Hn.out; omega)
      have k0 : (0 : Int) ≤ k := by omega
      have k1 : (k : Int) < vs.length := by omega
      have k2 : (k : Int) < us.length := by have := Hn.out; omega
      clear ht hu hp hq
      by_cases hxy : p = q
      · have hr : Hid (decide (p = q) = true) := Lib.hid (decide_eq_true hxy)
        have Hxy := Lib.hid hxy
        clear hxy
        (repeat (first | with_reducible refine xThenN ?_ | with_reducible refine xThenE ?_ | with_reducible refine xThenR ?_ | with_reducible refine xThenP ?_ | with_reducible refine xBlockEq ?_ | with_reducible refine xBlockNe rfl ?_ | with_reducible refine xBlockN ?_ | with_reducible refine xBlockR ?_ | with_reducible refine xBlockP ?_ | ((with_reducible refine wl_id ?_); refine wl_ldTr R1 (by first | exact HB | ((repeat (first | with_reducible exact Below.refl _ _ | assumption | with_reducible refine below_drewN ?_ _ | with_reducible refine Below.drew ?_ | with_reducible refine Below.setRow ?_ ?_ _ | with_reducible refine Below.alloc ?_ ?_ _ | with_reducible refine Below.setCell ?_ ?_ _ | with_reducible exact Nat.le_refl _ | (focus (simp; done)) | (focus (simp; omega)) | omega)))) k hi rfl _ rfl rfl ?_; simp only [Act.put, List.setIfInBounds_toArray, List.set_cons_succ, List.set_cons_zero]; (try dsimp only)) | ((with_reducible refine wl_id ?_); refine wl_ldTr R2 (by first | exact HB | ((repeat (first | with_reducible exact Below.refl _ _ | assumption | with_reducible refine below_drewN ?_ _ | with_reducible refine Below.drew ?_ | with_reducible refine Below.setRow ?_ ?_ _ | with_reducible refine Below.alloc ?_ ?_ _ | with_reducible refine Below.setCell ?_ ?_ _ | with_reducible exact Nat.le_refl _ | (focus (simp; done)) | (focus (simp; omega)) | omega)))) k hj rfl _ rfl rfl ?_; simp only [Act.put, List.setIfInBounds_toArray, List.set_cons_succ, List.set_cons_zero]; (try dsimp only)) | (go_at_call 22; (with_reducible refine (same1_anyX _ _ _ _ _ _ p q _ (Hp.out.below (by (repeat (first | with_reducible exact Below.refl _ _ | assumption | with_reducible refine below_drewN ?_ _ | with_reducible refine Below.drew ?_ | with_reducible refine Below.setRow ?_ ?_ _ | with_reducible refine Below.alloc ?_ ?_ _ | with_reducible refine Below.setCell ?_ ?_ _ | with_reducible exact Nat.le_refl _ | (focus (simp; done)) | (focus (simp; omega)) | omega)))) (Hq.out.below (by (repeat (first | with_reducible exact Below.refl _ _ | assumption | with_reducible refine below_drewN ?_ _ | with_reducible refine Below.drew ?_ | with_reducible refine Below.setRow ?_ ?_ _ | with_reducible refine Below.alloc ?_ ?_ _ | with_reducible refine Below.setCell ?_ ?_ _ | with_reducible exact Nat.le_refl _ | (focus (simp; done)) | (focus (simp; omega)) | omega)))) HLp.out HLq.out HBp.out HBq.out _ hr).mono ?_); rintro e w1 ⟨rfl, hb1⟩) | go_values | go_skip | go_guarded | go_step | go_upon | go_back | (dsimp only)))
        exact ⟨⟨k + 1, by omega, by go_num, Lib.hid (eq_step Hx.out Hy.out hT.out Hxy.out), HB.trans (Below.trans (by (repeat (first | with_reducible exact Below.refl _ _ | assumption | with_reducible refine below_drewN ?_ _ | with_reducible refine Below.drew ?_ | with_reducible refine Below.setRow ?_ ?_ _ | with_reducible refine Below.alloc ?_ ?_ _ | with_reducible refine Below.setCell ?_ ?_ _ | with_reducible exact Nat.le_refl _ | (focus (simp; done)) | (focus (simp; omega)) | omega))) (hb1.mono (by simp; omega)))⟩, by simp [intOf]; omega⟩
      · have hr : Hid (decide (p = q) = false) := Lib.hid (decide_eq_false hxy)
        have hne : Hid (decide (ps = qs) = false) := Lib.hid (ne_step Hx.out Hy.out hxy)
        clear hxy
        (repeat (first | with_reducible refine xThenN ?_ | with_reducible refine xThenE ?_ | with_reducible refine xThenR ?_ | with_reducible refine xThenP ?_ | with_reducible refine xBlockEq ?_ | with_reducible refine xBlockNe rfl ?_ | with_reducible refine xBlockN ?_ | with_reducible refine xBlockR ?_ | with_reducible refine xBlockP ?_ | ((with_reducible refine wl_id ?_); refine wl_ldTr R1 (by first | exact HB | ((repeat (first | with_reducible exact Below.refl _ _ | assumption | with_reducible refine below_drewN ?_ _ | with_reducible refine Below.drew ?_ | with_reducible refine Below.setRow ?_ ?_ _ | with_reducible refine Below.alloc ?_ ?_ _ | with_reducible refine Below.setCell ?_ ?_ _ | with_reducible exact Nat.le_refl _ | (focus (simp; done)) | (focus (simp; omega)) | omega)))) k hi rfl _ rfl rfl ?_; simp only [Act.put, List.setIfInBounds_toArray, List.set_cons_succ, List.set_cons_zero]; (try dsimp only)) | ((with_reducible refine wl_id ?_); refine wl_ldTr R2 (by first | exact HB | ((repeat (first | with_reducible exact Below.refl _ _ | assumption | with_reducible refine below_drewN ?_ _ | with_reducible refine Below.drew ?_ | with_reducible refine Below.setRow ?_ ?_ _ | with_reducible refine Below.alloc ?_ ?_ _ | with_reducible refine Below.setCell ?_ ?_ _ | with_reducible exact Nat.le_refl _ | (focus (simp; done)) | (focus (simp; omega)) | omega)))) k hj rfl _ rfl rfl ?_; simp only [Act.put, List.setIfInBounds_toArray, List.set_cons_succ, List.set_cons_zero]; (try dsimp only)) | (go_at_call 22; (with_reducible refine (same1_anyX _ _ _ _ _ _ p q _ (Hp.out.below (by (repeat (first | with_reducible exact Below.refl _ _ | assumption | with_reducible refine below_drewN ?_ _ | with_reducible refine Below.drew ?_ | with_reducible refine Below.setRow ?_ ?_ _ | with_reducible refine Below.alloc ?_ ?_ _ | with_reducible refine Below.setCell ?_ ?_ _ | with_reducible exact Nat.le_refl _ | (focus (simp; done)) | (focus (simp; omega)) | omega)))) (Hq.out.below (by (repeat (first | with_reducible exact Below.refl _ _ | assumption | with_reducible refine below_drewN ?_ _ | with_reducible refine Below.drew ?_ | with_reducible refine Below.setRow ?_ ?_ _ | with_reducible refine Below.alloc ?_ ?_ _ | with_reducible refine Below.setCell ?_ ?_ _ | with_reducible exact Nat.le_refl _ | (focus (simp; done)) | (focus (simp; omega)) | omega)))) HLp.out HLq.out HBp.out HBq.out _ hr).mono ?_); rintro e w1 ⟨rfl, hb1⟩) | go_values | go_skip | go_guarded | go_step | go_upon | go_back | (dsimp only)))
        go_ret
        exact ⟨ret_bool (by rw [hne.out]), HB.trans (Below.trans (by (repeat (first | with_reducible exact Below.refl _ _ | assumption | with_reducible refine below_drewN ?_ _ | with_reducible refine Below.drew ?_ | with_reducible refine Below.setRow ?_ ?_ _ | with_reducible refine Below.alloc ?_ ?_ _ | with_reducible refine Below.setCell ?_ ?_ _ | with_reducible exact Nat.le_refl _ | (focus (simp; done)) | (focus (simp; omega)) | omega))) (hb1.mono (by simp; omega)))⟩
    · (repeat (first | with_reducible refine xThenN ?_ | with_reducible refine xThenE ?_ | with_reducible refine xThenR ?_ | with_reducible refine xThenP ?_ | with_reducible refine xBlockEq ?_ | with_reducible refine xBlockNe rfl ?_ | with_reducible refine xBlockN ?_ | with_reducible refine xBlockR ?_ | with_reducible refine xBlockP ?_ | go_values | go_skip | go_guarded | go_step | go_upon | go_back | (dsimp only)))
      go_ret
      refine ⟨ret_bool ?_, HB⟩
      have := hT.out
      rw [List.take_of_length_le (by rw [← Hvl.out]; exact hge), List.take_of_length_le (by rw [← Hul.out, ← Hn.out]; exact hge)] at this
      simp [this]

end Go.Proofs.Ytcffgbmgjdhkjaa
