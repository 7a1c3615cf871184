import Derived.Test.YtcffgbmgjdhkjaaAK
set_option linter.unusedSimpArgs false
set_option linter.unusedVariables false
namespace Go.Proofs.Ytcffgbmgjdhkjaa
open Go.RowKit

theorem hne_of {ps qs : List Pr} {k : Nat} {p q : Pr} {r : Bool} (hx : ps[k]? = some p) (hy : qs[k]? = some q) (h : decide (p = q) = r) (hr : r = false) : decide (ps = qs) = false :=
  ne_step hx hy (of_decide_eq_false (h.trans hr))

theorem row3f {w : World} {b o k : Nat} {ls : List Trip} {t1 t2 t3 : Value} (h : RowAt 3 tripc w b o ls) (hi : ls[k]? = some (t1, t2, t3)) :
    w.cell? ⟨b, o + k * 3, none⟩ = some t1 ∧ w.cell? ⟨b, o + k * 3 + 1, none⟩ = some t2 ∧ w.cell? ⟨b, o + k * 3 + 2, none⟩ = some t3 := by
  have e (j : Nat) : o + k * 3 + j = o + (3 * k + j) := by omega
  refine ⟨?_, ?_, ?_⟩
  · have := h k _ hi 0 _ rfl
    rw [Nat.add_zero, Nat.mul_comm] at this
    exact this
  · rw [e]; exact h k _ hi 1 _ rfl
  · rw [e]; exact h k _ hi 2 _ rfl

set_option maxRecDepth 100000 in
set_option maxHeartbeats 4000000 in
theorem rsame_any (v e a v' e' a' : Int) (ps qs : List Pr) (x y : Value) (w : World) (hP : PresIn w x ps) (hQ : PresIn w y qs) (hps : ∀ p ∈ ps, PrOk p) (hqs : ∀ p ∈ qs, PrOk p) (hl : ps.length ≤ 1000000) (hl2 : qs.length ≤ 1000000) :
    Calls Try.prog 12 #[.agg #[.int .i64 v, .int .i64 e, .int .i64 a, x], .agg #[.int .i64 v', .int .i64 e', .int .i64 a', y]] w fun en w' => en = .returned (.bool (decide ((⟨v, e, a, ps⟩ : Rp) = ⟨v', e', a', qs⟩))) ∧ Below w.heap.size w w' := by
  rw [rp_dec]
  obtain ⟨vs, hS1, hvl, hPs⟩ := hP
  obtain ⟨us, hS2, hul, hQs⟩ := hQ
  have Hvl := Lib.hid hvl
  have Hul := Lib.hid hul
  have HPs := Lib.hid hPs
  have HQs := Lib.hid hQs
  have Hps := Lib.hid hps
  have Hqs := Lib.hid hqs
  have hvb : vs.length ≤ 1000000 := by omega
  have hub : us.length ≤ 1000000 := by omega
  clear hvl hul hPs hQs hps hqs
  obtain ⟨a1, c1, rfl⟩ := hS1.shape
  obtain ⟨a2, c2, rfl⟩ := hS2.shape
  by_cases g1 : v = v'
  rotate_left
  · have f1 : (v != v') = true := by simpa using g1
    have d1 : Hid (decide (v = v') = false) := Lib.hid (decide_eq_false g1)
    clear g1
    go_enter Try.func12, Try.ntmps12
    (repeat (first | with_reducible refine xThenN ?_ | with_reducible refine xThenE ?_ | with_reducible refine xThenR ?_ | with_reducible refine xThenP ?_ | with_reducible refine xBlockEq ?_ | with_reducible refine xBlockNe rfl ?_ | with_reducible refine xBlockN ?_ | with_reducible refine xBlockR ?_ | with_reducible refine xBlockP ?_ | go_values | go_skip | go_guarded | go_step | go_upon | go_back | (dsimp only)))
    go_ret
    exact ⟨ret_bool (by rw [d1.out]; rfl), by (repeat (first | with_reducible exact Below.refl _ _ | assumption | with_reducible refine below_drewN ?_ _ | with_reducible refine Below.drew ?_ | with_reducible refine Below.setRow ?_ ?_ _ | with_reducible refine Below.alloc ?_ ?_ _ | with_reducible refine Below.setCell ?_ ?_ _ | with_reducible exact Nat.le_refl _ | (focus (simp; done)) | (focus (simp; omega)) | omega))⟩
  have f1 : (v != v') = false := by simpa using g1
  have d1 : Hid (decide (v = v') = true) := Lib.hid (decide_eq_true g1)
  clear g1
  by_cases g2 : e = e'
  rotate_left
  · have f2 : (e != e') = true := by simpa using g2
    have d2 : Hid (decide (e = e') = false) := Lib.hid (decide_eq_false g2)
    clear g2
    go_enter Try.func12, Try.ntmps12
    (repeat (first | with_reducible refine xThenN ?_ | with_reducible refine xThenE ?_ | with_reducible refine xThenR ?_ | with_reducible refine xThenP ?_ | with_reducible refine xBlockEq ?_ | with_reducible refine xBlockNe rfl ?_ | with_reducible refine xBlockN ?_ | with_reducible refine xBlockR ?_ | with_reducible refine xBlockP ?_ | go_values | go_skip | go_guarded | go_step | go_upon | go_back | (dsimp only)))
    go_ret
    exact ⟨ret_bool (by rw [d1.out, d2.out]; rfl), by (repeat (first | with_reducible exact Below.refl _ _ | assumption | with_reducible refine below_drewN ?_ _ | with_reducible refine Below.drew ?_ | with_reducible refine Below.setRow ?_ ?_ _ | with_reducible refine Below.alloc ?_ ?_ _ | with_reducible refine Below.setCell ?_ ?_ _ | with_reducible exact Nat.le_refl _ | (focus (simp; done)) | (focus (simp; omega)) | omega))⟩
  have f2 : (e != e') = false := by simpa using g2
  have d2 : Hid (decide (e = e') = true) := Lib.hid (decide_eq_true g2)
  clear g2
  by_cases g3 : a = a'
  rotate_left
  · have f3 : (a != a') = true := by simpa using g3
    have d3 : Hid (decide (a = a') = false) := Lib.hid (decide_eq_false g3)
    clear g3
    go_enter Try.func12, Try.ntmps12
    (repeat (first | with_reducible refine xThenN ?_ | with_reducible refine xThenE ?_ | with_reducible refine xThenR ?_ | with_reducible refine xThenP ?_ | with_reducible refine xBlockEq ?_ | with_reducible refine xBlockNe rfl ?_ | with_reducible refine xBlockN ?_ | with_reducible refine xBlockR ?_ | with_reducible refine xBlockP ?_ | go_values | go_skip | go_guarded | go_step | go_upon | go_back | (dsimp only)))
    go_ret
    exact ⟨ret_bool (by rw [d1.out, d2.out, d3.out]; rfl), by (repeat (first | with_reducible exact Below.refl _ _ | assumption | with_reducible refine below_drewN ?_ _ | with_reducible refine Below.drew ?_ | with_reducible refine Below.setRow ?_ ?_ _ | with_reducible refine Below.alloc ?_ ?_ _ | with_reducible refine Below.setCell ?_ ?_ _ | with_reducible exact Nat.le_refl _ | (focus (simp; done)) | (focus (simp; omega)) | omega))⟩
  have f3 : (a != a') = false := by simpa using g3
  have d3 : Hid (decide (a = a') = true) := Lib.hid (decide_eq_true g3)
  clear g3
  by_cases hn : vs.length = us.length
  rotate_left
  · have hne : Hid (decide (ps = qs) = false) := Lib.hid (by rw [decide_eq_false_iff_not]; rintro rfl; exact hn (Hvl.out.trans Hul.out.symm))
    have hq : (((vs.length : Int)) != (us.length : Int)) = true := by simp; omega
    clear hn
    go_enter Try.func12, Try.ntmps12
    (repeat (first | with_reducible refine xThenN ?_ | with_reducible refine xThenE ?_ | with_reducible refine xThenR ?_ | with_reducible refine xThenP ?_ | with_reducible refine xBlockEq ?_ | with_reducible refine xBlockNe rfl ?_ | with_reducible refine xBlockN ?_ | with_reducible refine xBlockR ?_ | with_reducible refine xBlockP ?_ | go_values | go_skip | go_guarded | go_step | go_upon | go_back | (dsimp only)))
    go_ret
    exact ⟨ret_bool (by rw [d1.out, d2.out, d3.out, hne.out]; rfl), by (repeat (first | with_reducible exact Below.refl _ _ | assumption | with_reducible refine below_drewN ?_ _ | with_reducible refine Below.drew ?_ | with_reducible refine Below.setRow ?_ ?_ _ | with_reducible refine Below.alloc ?_ ?_ _ | with_reducible refine Below.setCell ?_ ?_ _ | with_reducible exact Nat.le_refl _ | (focus (simp; done)) | (focus (simp; omega)) | omega))⟩
  have hq : (((vs.length : Int)) != (us.length : Int)) = false := by simp; omega
  have Hn := Lib.hid hn
  clear hn
  have HX0 : (((w.alloc (.cells #[.int .i64 v, .int .i64 e, .int .i64 a, .slice a1 vs.length c1] 25)).alloc (.cells #[.int .i64 v', .int .i64 e', .int .i64 a', .slice a2 us.length c2] 25))).heap[w.heap.size]? = some (.cells #[.int .i64 v, .int .i64 e, .int .i64 a, .slice a1 vs.length c1] 25 (0, 0)) := by
    rw [Below.heap_alloc _ _ _ (by simp)]; exact heap_alloc_new w _
  have HY0 : (((w.alloc (.cells #[.int .i64 v, .int .i64 e, .int .i64 a, .slice a1 vs.length c1] 25)).alloc (.cells #[.int .i64 v', .int .i64 e', .int .i64 a', .slice a2 us.length c2] 25))).heap[w.heap.size + 1]? = some (.cells #[.int .i64 v', .int .i64 e', .int .i64 a', .slice a2 us.length c2] 25 (0, 0)) := by
    simpa using heap_alloc_new (w.alloc (.cells #[.int .i64 v, .int .i64 e, .int .i64 a, .slice a1 vs.length c1] 25)) _
  go_enter Try.func12, Try.ntmps12
  (repeat (first | with_reducible refine xThenN ?_ | with_reducible refine xThenE ?_ | with_reducible refine xThenR ?_ | with_reducible refine xThenP ?_ | with_reducible refine xBlockEq ?_ | with_reducible refine xBlockNe rfl ?_ | with_reducible refine xBlockN ?_ | with_reducible refine xBlockR ?_ | with_reducible refine xBlockP ?_ | go_values | go_skip | go_guarded | go_step | go_upon | go_back | (dsimp only)))
  go_loopw [5, 6, 7] (fun i _ _ wr => ∃ (k : Nat), k ≤ vs.length ∧ i = .int .i64 k ∧ Hid (ps.take k = qs.take k) ∧ Below w.heap.size w wr ∧ wr.heap[w.heap.size]? = some (.cells #[.int .i64 v, .int .i64 e, .int .i64 a, .slice a1 vs.length c1] 25 (0, 0)) ∧ wr.heap[w.heap.size + 1]? = some (.cells #[.int .i64 v', .int .i64 e', .int .i64 a', .slice a2 us.length c2] 25 (0, 0))) (fun i _ _ _ => vs.length - (intOf i).toNat)
  case atStart => exact ⟨0, by omega, rfl, Lib.hid (by simp), by (repeat (first | with_reducible exact Below.refl _ _ | assumption | with_reducible refine below_drewN ?_ _ | with_reducible refine Below.drew ?_ | with_reducible refine Below.setRow ?_ ?_ _ | with_reducible refine Below.alloc ?_ ?_ _ | with_reducible refine Below.setCell ?_ ?_ _ | with_reducible exact Nat.le_refl _ | (focus (simp; done)) | (focus (simp; omega)) | omega)), HX0, HY0⟩
  case round =>
    clear HX0 HY0
    obtain ⟨k, hk, rfl, hT, HB, HX, HY⟩ := hrel
    have hsz := HB.size
    obtain ⟨x0, x1, x2, x3⟩ := cells4 HX
    obtain ⟨y0, y1, y2, y3⟩ := cells4 HY
    rcases Nat.lt_or_ge k vs.length with hlt | hge
    · obtain ⟨t, ht⟩ : ∃ t, vs[k]? = some t := ⟨_, List.getElem?_eq_getElem hlt⟩
      obtain ⟨u, hu⟩ : ∃ t, us[k]? = some t := ⟨_, List.getElem?_eq_getElem (by rw [← Hn.out]; exact hlt)⟩
      obtain ⟨p, hp⟩ : ∃ x, ps[k]? = some x := ⟨_, List.getElem?_eq_getElem (by rw [← Hvl.out]; exact hlt)⟩
      obtain ⟨q, hq⟩ : ∃ y, qs[k]? = some y := ⟨_, List.getElem?_eq_getElem (by rw [← Hul.out, ← Hn.out]; exact hlt)⟩
      obtain ⟨a3, m3, a4, m4, a5, m5, rfl⟩ := (HPs.out k t p ht hp).slices
      obtain ⟨a6, m6, a7, m7, a8, m8, rfl⟩ := (HQs.out k u q hu hq).slices
      obtain ⟨pp1, pp2, pp3⟩ := HPs.out k _ p ht hp
      obtain ⟨qq1, qq2, qq3⟩ := HQs.out k _ q hu hq
      dsimp only at pp1 pp2 pp3 qq1 qq2 qq3
      obtain ⟨lp1, lp2⟩ := (Hps.out p (List.mem_of_getElem? hp)).1
      obtain ⟨lq1, lq2⟩ := (Hqs.out q (List.mem_of_getElem? hq)).1
      have HBp := Lib.hid (Hps.out p (List.mem_of_getElem? hp)).2
      have HBq := Lib.hid (Hqs.out q (List.mem_of_getElem? hq)).2
      have Hx := Lib.hid hp
      have Hy := Lib.hid hq
      obtain ⟨b1, o1, rfl, R1⟩ := hS1.row (by omega)
      obtain ⟨b2, o2, rfl, R2⟩ := hS2.row (by have := Hn.out; omega)
      obtain ⟨s0, s1, s2⟩ := row3f (R1.below HB) ht
      obtain ⟨r0, r1, r2⟩ := row3f (R2.below HB) hu
      have k0 : (0 : Int) ≤ k := by omega
      have k1 : (k : Int) < vs.length := by omega
      have k2 : (k : Int) < us.length := by have := Hn.out; omega
      clear ht hu hp hq
      have n0 := World.new_ne wr _ x3
      have n1 := World.new_ne wr _ y3
      have n2 := World.new_ne wr _ s0
      have n3 := World.new_ne wr _ s1
      have n4 := World.new_ne wr _ s2
      have n5 := World.new_ne wr _ r0
      have n6 := World.new_ne wr _ r1
      have n7 := World.new_ne wr _ r2
      obtain ⟨q1, hr1⟩ : ∃ r, Hid (decide (p.path = q.path) = r) := ⟨_, Lib.hid rfl⟩
      obtain ⟨q2, hr2⟩ : ∃ r, Hid (decide (p.term = q.term) = r) := ⟨_, Lib.hid rfl⟩
      obtain ⟨q3, hr3⟩ : ∃ r, Hid (decide (p.input = q.input) = r) := ⟨_, Lib.hid rfl⟩
      have Hdec := Lib.hid (pr_dec p q q1 q2 q3 hr1.out hr2.out hr3.out)
      obtain ⟨S1, hS1'⟩ : ∃ s, Hid (strOfNums p.input = s) := ⟨_, Lib.hid rfl⟩
      obtain ⟨S2, hS2'⟩ : ∃ s, Hid (strOfNums q.input = s) := ⟨_, Lib.hid rfl⟩
      have hqs := str_beq p.input q.input HBp.out HBq.out
      rw [hS1'.out, hS2'.out, hr3.out] at hqs
      (repeat (first | with_reducible refine xThenN ?_ | with_reducible refine xThenE ?_ | with_reducible refine xThenR ?_ | with_reducible refine xThenP ?_ | with_reducible refine xBlockEq ?_ | with_reducible refine xBlockNe rfl ?_ | with_reducible refine xBlockN ?_ | with_reducible refine xBlockR ?_ | with_reducible refine xBlockP ?_ | go_values | go_skip | go_guarded | go_step | go_upon | go_back | (dsimp only)))
      go_region_held3 (fun u => u.cell? ⟨w.heap.size, 3, none⟩ = some (.slice (some ⟨b1, o1, none⟩) vs.length c1) ∧ u.cell? ⟨w.heap.size + 1, 3, none⟩ = some (.slice (some ⟨b2, o2, none⟩) us.length c2) ∧
        u.cell? ⟨b1, o1 + k * 3, none⟩ = some (.slice a3 p.path.length m3) ∧ u.cell? ⟨b1, o1 + k * 3 + 1, none⟩ = some (.slice a4 p.term.length m4) ∧ u.cell? ⟨b1, o1 + k * 3 + 2, none⟩ = some (.slice a5 p.input.length m5) ∧
        u.cell? ⟨b2, o2 + k * 3, none⟩ = some (.slice a6 q.path.length m6) ∧ u.cell? ⟨b2, o2 + k * 3 + 1, none⟩ = some (.slice a7 q.term.length m7) ∧ u.cell? ⟨b2, o2 + k * 3 + 2, none⟩ = some (.slice a8 q.input.length m8)) (go_keep) (fail)
      all_goals
        clear n0 n1 n2 n3 n4 n5 n6 n7 s0 s1 s2 r0 r1 r2
        cases q1 with
        | false =>
          (repeat (first | with_reducible refine xThenN ?_ | with_reducible refine xThenE ?_ | with_reducible refine xThenR ?_ | with_reducible refine xThenP ?_ | with_reducible refine xBlockEq ?_ | with_reducible refine xBlockNe rfl ?_ | with_reducible refine xBlockN ?_ | with_reducible refine xBlockR ?_ | with_reducible refine xBlockP ?_ | (go_at_call 19; (with_reducible refine (ints_anyX _ _ _ _ _ ((pp1.below HB).below (by (repeat (first | with_reducible exact Below.refl _ _ | assumption | with_reducible refine below_drewN ?_ _ | with_reducible refine Below.drew ?_ | with_reducible refine Below.setRow ?_ ?_ _ | with_reducible refine Below.alloc ?_ ?_ _ | with_reducible refine Below.setCell ?_ ?_ _ | with_reducible exact Nat.le_refl _ | (focus (simp; done)) | (focus (simp; omega)) | omega)))) ((qq1.below HB).below (by (repeat (first | with_reducible exact Below.refl _ _ | assumption | with_reducible refine below_drewN ?_ _ | with_reducible refine Below.drew ?_ | with_reducible refine Below.setRow ?_ ?_ _ | with_reducible refine Below.alloc ?_ ?_ _ | with_reducible refine Below.setCell ?_ ?_ _ | with_reducible exact Nat.le_refl _ | (focus (simp; done)) | (focus (simp; omega)) | omega)))) lp1 lq1 _ hr1).mono ?_); rintro e w1 ⟨rfl, hb1⟩; have H0 := (hb1.block wr.heap.size (by simp; omega)).trans (heap_alloc2_old wr _ _); have H1 := (hb1.block (wr.heap.size + 1) (by simp)).trans (heap_alloc2_new wr _ _); have HB1 : Below w.heap.size w w1 := HB.trans (Below.trans (by (repeat (first | with_reducible exact Below.refl _ _ | assumption | with_reducible refine below_drewN ?_ _ | with_reducible refine Below.drew ?_ | with_reducible refine Below.setRow ?_ ?_ _ | with_reducible refine Below.alloc ?_ ?_ _ | with_reducible refine Below.setCell ?_ ?_ _ | with_reducible exact Nat.le_refl _ | (focus (simp; done)) | (focus (simp; omega)) | omega))) (hb1.mono (by simp; omega))); have HX1 := (hb1.block w.heap.size (by simp; have := lt_of_block HX; omega)).trans ((Below.heap_alloc _ _ _ (by simp; have := lt_of_block HX; omega)).trans ((Below.heap_alloc wr _ _ (lt_of_block HX)).trans HX)); have HY1 := (hb1.block (w.heap.size + 1) (by simp; have := lt_of_block HY; omega)).trans ((Below.heap_alloc _ _ _ (by simp; have := lt_of_block HY; omega)).trans ((Below.heap_alloc wr _ _ (lt_of_block HY)).trans HY)); obtain ⟨z0, z1, z2⟩ := cells3 H0; obtain ⟨z3, z4, z5⟩ := cells3 H1) | go_values | go_skip | go_guarded | go_step | go_upon | go_back | (dsimp only)))
          go_ret
          exact ⟨ret_bool (by rw [d1.out, d2.out, d3.out, hne_of Hx.out Hy.out Hdec.out rfl]; rfl), HB1⟩
        | true =>
          cases q2 with
          | false =>
            (repeat (first | with_reducible refine xThenN ?_ | with_reducible refine xThenE ?_ | with_reducible refine xThenR ?_ | with_reducible refine xThenP ?_ | with_reducible refine xBlockEq ?_ | with_reducible refine xBlockNe rfl ?_ | with_reducible refine xBlockN ?_ | with_reducible refine xBlockR ?_ | with_reducible refine xBlockP ?_ | (go_at_call 19; (with_reducible refine (ints_anyX _ _ _ _ _ ((pp1.below HB).below (by (repeat (first | with_reducible exact Below.refl _ _ | assumption | with_reducible refine below_drewN ?_ _ | with_reducible refine Below.drew ?_ | with_reducible refine Below.setRow ?_ ?_ _ | with_reducible refine Below.alloc ?_ ?_ _ | with_reducible refine Below.setCell ?_ ?_ _ | with_reducible exact Nat.le_refl _ | (focus (simp; done)) | (focus (simp; omega)) | omega)))) ((qq1.below HB).below (by (repeat (first | with_reducible exact Below.refl _ _ | assumption | with_reducible refine below_drewN ?_ _ | with_reducible refine Below.drew ?_ | with_reducible refine Below.setRow ?_ ?_ _ | with_reducible refine Below.alloc ?_ ?_ _ | with_reducible refine Below.setCell ?_ ?_ _ | with_reducible exact Nat.le_refl _ | (focus (simp; done)) | (focus (simp; omega)) | omega)))) lp1 lq1 _ hr1).mono ?_); rintro e w1 ⟨rfl, hb1⟩; have H0 := (hb1.block wr.heap.size (by simp; omega)).trans (heap_alloc2_old wr _ _); have H1 := (hb1.block (wr.heap.size + 1) (by simp)).trans (heap_alloc2_new wr _ _); have HB1 : Below w.heap.size w w1 := HB.trans (Below.trans (by (repeat (first | with_reducible exact Below.refl _ _ | assumption | with_reducible refine below_drewN ?_ _ | with_reducible refine Below.drew ?_ | with_reducible refine Below.setRow ?_ ?_ _ | with_reducible refine Below.alloc ?_ ?_ _ | with_reducible refine Below.setCell ?_ ?_ _ | with_reducible exact Nat.le_refl _ | (focus (simp; done)) | (focus (simp; omega)) | omega))) (hb1.mono (by simp; omega))); have HX1 := (hb1.block w.heap.size (by simp; have := lt_of_block HX; omega)).trans ((Below.heap_alloc _ _ _ (by simp; have := lt_of_block HX; omega)).trans ((Below.heap_alloc wr _ _ (lt_of_block HX)).trans HX)); have HY1 := (hb1.block (w.heap.size + 1) (by simp; have := lt_of_block HY; omega)).trans ((Below.heap_alloc _ _ _ (by simp; have := lt_of_block HY; omega)).trans ((Below.heap_alloc wr _ _ (lt_of_block HY)).trans HY)); obtain ⟨z0, z1, z2⟩ := cells3 H0; obtain ⟨z3, z4, z5⟩ := cells3 H1) | (go_at_call 20; (with_reducible refine (nsame_anyX _ _ _ _ _ (pp2.below HB1) (qq2.below HB1) lp2 lq2 _ hr2).mono ?_); rintro e w2 ⟨rfl, hb2⟩; replace H0 := (hb2.block _ (lt_of_block H0)).trans H0; replace H1 := (hb2.block _ (lt_of_block H1)).trans H1; replace HX1 := (hb2.block _ (lt_of_block HX1)).trans HX1; replace HY1 := (hb2.block _ (lt_of_block HY1)).trans HY1; replace HB1 := HB1.trans (hb2.mono HB1.size); obtain ⟨z0, z1, z2⟩ := cells3 H0; obtain ⟨z3, z4, z5⟩ := cells3 H1; have cs1 := conv_str _ _ _ (pp3.below HB1); have cs2 := conv_str _ _ _ (qq3.below HB1); (rw [hS1'.out] at cs1); (rw [hS2'.out] at cs2)) | go_values | go_skip | go_guarded | go_step | go_upon | go_back | (dsimp only)))
            go_ret
            exact ⟨ret_bool (by rw [d1.out, d2.out, d3.out, hne_of Hx.out Hy.out Hdec.out rfl]; rfl), HB1⟩
          | true =>
            cases q3 with
            | false =>
              (repeat (first | with_reducible refine xThenN ?_ | with_reducible refine xThenE ?_ | with_reducible refine xThenR ?_ | with_reducible refine xThenP ?_ | with_reducible refine xBlockEq ?_ | with_reducible refine xBlockNe rfl ?_ | with_reducible refine xBlockN ?_ | with_reducible refine xBlockR ?_ | with_reducible refine xBlockP ?_ | (go_at_call 19; (with_reducible refine (ints_anyX _ _ _ _ _ ((pp1.below HB).below (by (repeat (first | with_reducible exact Below.refl _ _ | assumption | with_reducible refine below_drewN ?_ _ | with_reducible refine Below.drew ?_ | with_reducible refine Below.setRow ?_ ?_ _ | with_reducible refine Below.alloc ?_ ?_ _ | with_reducible refine Below.setCell ?_ ?_ _ | with_reducible exact Nat.le_refl _ | (focus (simp; done)) | (focus (simp; omega)) | omega)))) ((qq1.below HB).below (by (repeat (first | with_reducible exact Below.refl _ _ | assumption | with_reducible refine below_drewN ?_ _ | with_reducible refine Below.drew ?_ | with_reducible refine Below.setRow ?_ ?_ _ | with_reducible refine Below.alloc ?_ ?_ _ | with_reducible refine Below.setCell ?_ ?_ _ | with_reducible exact Nat.le_refl _ | (focus (simp; done)) | (focus (simp; omega)) | omega)))) lp1 lq1 _ hr1).mono ?_); rintro e w1 ⟨rfl, hb1⟩; have H0 := (hb1.block wr.heap.size (by simp; omega)).trans (heap_alloc2_old wr _ _); have H1 := (hb1.block (wr.heap.size + 1) (by simp)).trans (heap_alloc2_new wr _ _); have HB1 : Below w.heap.size w w1 := HB.trans (Below.trans (by (repeat (first | with_reducible exact Below.refl _ _ | assumption | with_reducible refine below_drewN ?_ _ | with_reducible refine Below.drew ?_ | with_reducible refine Below.setRow ?_ ?_ _ | with_reducible refine Below.alloc ?_ ?_ _ | with_reducible refine Below.setCell ?_ ?_ _ | with_reducible exact Nat.le_refl _ | (focus (simp; done)) | (focus (simp; omega)) | omega))) (hb1.mono (by simp; omega))); have HX1 := (hb1.block w.heap.size (by simp; have := lt_of_block HX; omega)).trans ((Below.heap_alloc _ _ _ (by simp; have := lt_of_block HX; omega)).trans ((Below.heap_alloc wr _ _ (lt_of_block HX)).trans HX)); have HY1 := (hb1.block (w.heap.size + 1) (by simp; have := lt_of_block HY; omega)).trans ((Below.heap_alloc _ _ _ (by simp; have := lt_of_block HY; omega)).trans ((Below.heap_alloc wr _ _ (lt_of_block HY)).trans HY)); obtain ⟨z0, z1, z2⟩ := cells3 H0; obtain ⟨z3, z4, z5⟩ := cells3 H1) | (go_at_call 20; (with_reducible refine (nsame_anyX _ _ _ _ _ (pp2.below HB1) (qq2.below HB1) lp2 lq2 _ hr2).mono ?_); rintro e w2 ⟨rfl, hb2⟩; replace H0 := (hb2.block _ (lt_of_block H0)).trans H0; replace H1 := (hb2.block _ (lt_of_block H1)).trans H1; replace HX1 := (hb2.block _ (lt_of_block HX1)).trans HX1; replace HY1 := (hb2.block _ (lt_of_block HY1)).trans HY1; replace HB1 := HB1.trans (hb2.mono HB1.size); obtain ⟨z0, z1, z2⟩ := cells3 H0; obtain ⟨z3, z4, z5⟩ := cells3 H1; have cs1 := conv_str _ _ _ (pp3.below HB1); have cs2 := conv_str _ _ _ (qq3.below HB1); (rw [hS1'.out] at cs1); (rw [hS2'.out] at cs2)) | go_values | go_skip | go_guarded | go_step | go_upon | go_back | (dsimp only)))
              go_ret
              exact ⟨ret_bool (by rw [d1.out, d2.out, d3.out, hne_of Hx.out Hy.out Hdec.out rfl]; rfl), HB1⟩
            | true =>
              (repeat (first | with_reducible refine xThenN ?_ | with_reducible refine xThenE ?_ | with_reducible refine xThenR ?_ | with_reducible refine xThenP ?_ | with_reducible refine xBlockEq ?_ | with_reducible refine xBlockNe rfl ?_ | with_reducible refine xBlockN ?_ | with_reducible refine xBlockR ?_ | with_reducible refine xBlockP ?_ | (go_at_call 19; (with_reducible refine (ints_anyX _ _ _ _ _ ((pp1.below HB).below (by (repeat (first | with_reducible exact Below.refl _ _ | assumption | with_reducible refine below_drewN ?_ _ | with_reducible refine Below.drew ?_ | with_reducible refine Below.setRow ?_ ?_ _ | with_reducible refine Below.alloc ?_ ?_ _ | with_reducible refine Below.setCell ?_ ?_ _ | with_reducible exact Nat.le_refl _ | (focus (simp; done)) | (focus (simp; omega)) | omega)))) ((qq1.below HB).below (by (repeat (first | with_reducible exact Below.refl _ _ | assumption | with_reducible refine below_drewN ?_ _ | with_reducible refine Below.drew ?_ | with_reducible refine Below.setRow ?_ ?_ _ | with_reducible refine Below.alloc ?_ ?_ _ | with_reducible refine Below.setCell ?_ ?_ _ | with_reducible exact Nat.le_refl _ | (focus (simp; done)) | (focus (simp; omega)) | omega)))) lp1 lq1 _ hr1).mono ?_); rintro e w1 ⟨rfl, hb1⟩; have H0 := (hb1.block wr.heap.size (by simp; omega)).trans (heap_alloc2_old wr _ _); have H1 := (hb1.block (wr.heap.size + 1) (by simp)).trans (heap_alloc2_new wr _ _); have HB1 : Below w.heap.size w w1 := HB.trans (Below.trans (by (repeat (first | with_reducible exact Below.refl _ _ | assumption | with_reducible refine below_drewN ?_ _ | with_reducible refine Below.drew ?_ | with_reducible refine Below.setRow ?_ ?_ _ | with_reducible refine Below.alloc ?_ ?_ _ | with_reducible refine Below.setCell ?_ ?_ _ | with_reducible exact Nat.le_refl _ | (focus (simp; done)) | (focus (simp; omega)) | omega))) (hb1.mono (by simp; omega))); have HX1 := (hb1.block w.heap.size (by simp; have := lt_of_block HX; omega)).trans ((Below.heap_alloc _ _ _ (by simp; have := lt_of_block HX; omega)).trans ((Below.heap_alloc wr _ _ (lt_of_block HX)).trans HX)); have HY1 := (hb1.block (w.heap.size + 1) (by simp; have := lt_of_block HY; omega)).trans ((Below.heap_alloc _ _ _ (by simp; have := lt_of_block HY; omega)).trans ((Below.heap_alloc wr _ _ (lt_of_block HY)).trans HY)); obtain ⟨z0, z1, z2⟩ := cells3 H0; obtain ⟨z3, z4, z5⟩ := cells3 H1) | (go_at_call 20; (with_reducible refine (nsame_anyX _ _ _ _ _ (pp2.below HB1) (qq2.below HB1) lp2 lq2 _ hr2).mono ?_); rintro e w2 ⟨rfl, hb2⟩; replace H0 := (hb2.block _ (lt_of_block H0)).trans H0; replace H1 := (hb2.block _ (lt_of_block H1)).trans H1; replace HX1 := (hb2.block _ (lt_of_block HX1)).trans HX1; replace HY1 := (hb2.block _ (lt_of_block HY1)).trans HY1; replace HB1 := HB1.trans (hb2.mono HB1.size); obtain ⟨z0, z1, z2⟩ := cells3 H0; obtain ⟨z3, z4, z5⟩ := cells3 H1; have cs1 := conv_str _ _ _ (pp3.below HB1); have cs2 := conv_str _ _ _ (qq3.below HB1); (rw [hS1'.out] at cs1); (rw [hS2'.out] at cs2)) | go_values | go_skip | go_guarded | go_step | go_upon | go_back | (dsimp only)))
              exact ⟨⟨k + 1, by omega, by go_num, Lib.hid (eq_step Hx.out Hy.out hT.out (of_decide_eq_true (Hdec.out.trans rfl))), HB1, HX1, HY1⟩, by simp [intOf]; omega⟩
    · (repeat (first | with_reducible refine xThenN ?_ | with_reducible refine xThenE ?_ | with_reducible refine xThenR ?_ | with_reducible refine xThenP ?_ | with_reducible refine xBlockEq ?_ | with_reducible refine xBlockNe rfl ?_ | with_reducible refine xBlockN ?_ | with_reducible refine xBlockR ?_ | with_reducible refine xBlockP ?_ | go_values | go_skip | go_guarded | go_step | go_upon | go_back | (dsimp only)))
      go_ret
      refine ⟨ret_bool ?_, HB⟩
      have := hT.out
      rw [List.take_of_length_le (by rw [← Hvl.out]; exact hge), List.take_of_length_le (by rw [← Hul.out, ← Hn.out]; exact hge)] at this
      rw [d1.out, d2.out, d3.out]
      simp [this]

end Go.Proofs.Ytcffgbmgjdhkjaa
