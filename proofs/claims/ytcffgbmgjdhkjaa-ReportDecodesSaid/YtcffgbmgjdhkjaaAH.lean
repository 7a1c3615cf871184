import Derived.Test.YtcffgbmgjdhkjaaAG
set_option linter.unusedSimpArgs false
set_option linter.unusedVariables false
namespace Go.Proofs.Ytcffgbmgjdhkjaa
open Go.RowKit

theorem eqint_anyX (v1 v2 : Value) (l1 l2 : List Int) (w : World) (h1 : SlIs 1 i64c w v1 l1) (h2 : SlIs 1 i64c w v2 l2) (hl : l1.length ≤ 1000000) (hl2 : l2.length ≤ 1000000) (r : Bool) (hr : Hid (decide (l1 = l2) = r)) :
    Calls Try.prog 23 #[v1, v2] w fun e w' => e = .returned (.bool r) ∧ Below w.heap.size w w' := by
  rw [← hr.out]; exact eqint_any v1 v2 l1 l2 w h1 h2 hl hl2
theorem eqnode_anyX (v1 v2 : Value) (l1 l2 : List Nd) (w : World) (h1 : SlIs 6 Nd.cells w v1 l1) (h2 : SlIs 6 Nd.cells w v2 l2) (hl : l1.length ≤ 1000000) (hl2 : l2.length ≤ 1000000) (r : Bool) (hr : Hid (decide (l1 = l2) = r)) :
    Calls Try.prog 24 #[v1, v2] w fun e w' => e = .returned (.bool r) ∧ Below w.heap.size w w' := by
  rw [← hr.out]; exact eqnode_any v1 v2 l1 l2 w h1 h2 hl hl2
theorem beq_anyX (v1 v2 : Value) (l1 l2 : List Int) (w : World) (h1 : SlIs 1 u8c w v1 l1) (h2 : SlIs 1 u8c w v2 l2) (b1 : ByteL l1) (b2 : ByteL l2) (r : Bool) (hr : Hid (decide (l1 = l2) = r)) :
    Calls Try.prog 25 #[v1, v2] w fun e w' => e = .returned (.bool r) ∧ Below w.heap.size w w' := by
  rw [← hr.out]; exact beq_any v1 v2 l1 l2 w h1 h2 b1 b2

theorem pr_dec (p q : Pr) (r1 r2 r3 : Bool) (h1 : decide (p.path = q.path) = r1) (h2 : decide (p.term = q.term) = r2) (h3 : decide (p.input = q.input) = r3) : decide (p = q) = (r1 && (r2 && r3)) := by
  subst h1; subst h2; subst h3
  rw [Bool.eq_iff_iff]
  simp only [decide_eq_true_eq, Bool.and_eq_true]
  constructor
  · rintro rfl; exact ⟨rfl, rfl, rfl⟩
  · intro ⟨a, b, c⟩
    obtain ⟨p1, p2, p3⟩ := p
    obtain ⟨q1, q2, q3⟩ := q
    simp_all

def prLen (p : Pr) : Prop := p.path.length ≤ 1000000 ∧ p.term.length ≤ 1000000

set_option maxRecDepth 100000 in
set_option maxHeartbeats 1000000 in
theorem same1_any (t1 t2 t3 u1 u2 u3 : Value) (p q : Pr) (w : World) (hP : PrIn w (t1, t2, t3) p) (hQ : PrIn w (u1, u2, u3) q) (hlp : prLen p) (hlq : prLen q) (hbp : ByteL p.input) (hbq : ByteL q.input) :
    Calls Try.prog 22 #[.agg #[t1, t2, t3], .agg #[u1, u2, u3]] w fun e w' => e = .returned (.bool (decide (p = q))) ∧ Below w.heap.size w w' := by
  obtain ⟨q1, q2, q3⟩ := hP
  obtain ⟨k1, k2, k3⟩ := hQ
  obtain ⟨a1, m1, e1⟩ := q1.shape
  obtain ⟨a2, m2, e2⟩ := q2.shape
  obtain ⟨a3, m3, e3⟩ := q3.shape
  obtain ⟨b1, n1, f1⟩ := k1.shape
  obtain ⟨b2, n2, f2⟩ := k2.shape
  obtain ⟨b3, n3, f3⟩ := k3.shape
  dsimp only at e1 e2 e3 f1 f2 f3
  subst e1; subst e2; subst e3; subst f1; subst f2; subst f3
  dsimp only at q1 q2 q3 k1 k2 k3
  obtain ⟨r1, hr1⟩ : ∃ r, Hid (decide (p.path = q.path) = r) := ⟨_, Lib.hid rfl⟩
  obtain ⟨r2, hr2⟩ : ∃ r, Hid (decide (p.term = q.term) = r) := ⟨_, Lib.hid rfl⟩
  obtain ⟨r3, hr3⟩ : ∃ r, Hid (decide (p.input = q.input) = r) := ⟨_, Lib.hid rfl⟩
  rw [pr_dec p q r1 r2 r3 hr1.out hr2.out hr3.out]
  obtain ⟨hl1, hl2⟩ := hlp
  obtain ⟨hm1, hm2⟩ := hlq
  have HX : ((w.alloc (.cells #[.slice a1 p.path.length m1, .slice a2 p.term.length m2, .slice a3 p.input.length m3] 43)).alloc (.cells #[.slice b1 q.path.length n1, .slice b2 q.term.length n2, .slice b3 q.input.length n3] 43)).heap[w.heap.size]? = some (.cells #[.slice a1 p.path.length m1, .slice a2 p.term.length m2, .slice a3 p.input.length m3] 43 (0, 0)) := by
    rw [Below.heap_alloc _ _ _ (by simp)]; exact heap_alloc_new w _
  have HY : ((w.alloc (.cells #[.slice a1 p.path.length m1, .slice a2 p.term.length m2, .slice a3 p.input.length m3] 43)).alloc (.cells #[.slice b1 q.path.length n1, .slice b2 q.term.length n2, .slice b3 q.input.length n3] 43)).heap[w.heap.size + 1]? = some (.cells #[.slice b1 q.path.length n1, .slice b2 q.term.length n2, .slice b3 q.input.length n3] 43 (0, 0)) := by
    simpa using heap_alloc_new (w.alloc (.cells #[.slice a1 p.path.length m1, .slice a2 p.term.length m2, .slice a3 p.input.length m3] 43)) _
  have HB : Below w.heap.size w ((w.alloc (.cells #[.slice a1 p.path.length m1, .slice a2 p.term.length m2, .slice a3 p.input.length m3] 43)).alloc (.cells #[.slice b1 q.path.length n1, .slice b2 q.term.length n2, .slice b3 q.input.length n3] 43)) := by (repeat (first | with_reducible exact Below.refl _ _ | assumption | with_reducible refine below_drewN ?_ _ | with_reducible refine Below.drew ?_ | with_reducible refine Below.setRow ?_ ?_ _ | with_reducible refine Below.alloc ?_ ?_ _ | with_reducible refine Below.setCell ?_ ?_ _ | with_reducible exact Nat.le_refl _ | (focus (simp; done)) | (focus (simp; omega)) | omega))
  cases r1 with
  | false =>
    go_enter Try.func22, Try.ntmps22
    (repeat (first | with_reducible refine xThenN ?_ | with_reducible refine xThenE ?_ | with_reducible refine xThenR ?_ | with_reducible refine xThenP ?_ | with_reducible refine xBlockEq ?_ | with_reducible refine xBlockNe rfl ?_ | with_reducible refine xBlockN ?_ | with_reducible refine xBlockR ?_ | with_reducible refine xBlockP ?_ | (go_at_call 23; (with_reducible refine (eqint_anyX _ _ _ _ _ (q1.below HB) (k1.below HB) hl1 hm1 _ hr1).mono ?_); rintro e w1 ⟨rfl, hb1⟩; replace HX := (hb1.block _ (lt_of_block HX)).trans HX; replace HY := (hb1.block _ (lt_of_block HY)).trans HY; replace HB := HB.trans (hb1.mono HB.size); obtain ⟨x0, x1, x2⟩ := cells3 HX; obtain ⟨y0, y1, y2⟩ := cells3 HY; clear hb1) | go_values | go_skip | go_guarded | go_step | go_upon | go_back | (dsimp only)))
    go_ret
    exact ⟨rfl, HB⟩
  | true =>
    cases r2 with
    | false =>
      go_enter Try.func22, Try.ntmps22
      (repeat (first | with_reducible refine xThenN ?_ | with_reducible refine xThenE ?_ | with_reducible refine xThenR ?_ | with_reducible refine xThenP ?_ | with_reducible refine xBlockEq ?_ | with_reducible refine xBlockNe rfl ?_ | with_reducible refine xBlockN ?_ | with_reducible refine xBlockR ?_ | with_reducible refine xBlockP ?_ | (go_at_call 23; (with_reducible refine (eqint_anyX _ _ _ _ _ (q1.below HB) (k1.below HB) hl1 hm1 _ hr1).mono ?_); rintro e w1 ⟨rfl, hb1⟩; replace HX := (hb1.block _ (lt_of_block HX)).trans HX; replace HY := (hb1.block _ (lt_of_block HY)).trans HY; replace HB := HB.trans (hb1.mono HB.size); obtain ⟨x0, x1, x2⟩ := cells3 HX; obtain ⟨y0, y1, y2⟩ := cells3 HY; clear hb1) | (go_at_call 24; (with_reducible refine (eqnode_anyX _ _ _ _ _ (q2.below HB) (k2.below HB) hl2 hm2 _ hr2).mono ?_); rintro e w1 ⟨rfl, hb1⟩; replace HX := (hb1.block _ (lt_of_block HX)).trans HX; replace HY := (hb1.block _ (lt_of_block HY)).trans HY; replace HB := HB.trans (hb1.mono HB.size); obtain ⟨x0, x1, x2⟩ := cells3 HX; obtain ⟨y0, y1, y2⟩ := cells3 HY; clear hb1) | go_values | go_skip | go_guarded | go_step | go_upon | go_back | (dsimp only)))
      go_ret
      exact ⟨rfl, HB⟩
    | true =>
      cases r3 with
      | false =>
        go_enter Try.func22, Try.ntmps22
        (repeat (first | with_reducible refine xThenN ?_ | with_reducible refine xThenE ?_ | with_reducible refine xThenR ?_ | with_reducible refine xThenP ?_ | with_reducible refine xBlockEq ?_ | with_reducible refine xBlockNe rfl ?_ | with_reducible refine xBlockN ?_ | with_reducible refine xBlockR ?_ | with_reducible refine xBlockP ?_ | (go_at_call 23; (with_reducible refine (eqint_anyX _ _ _ _ _ (q1.below HB) (k1.below HB) hl1 hm1 _ hr1).mono ?_); rintro e w1 ⟨rfl, hb1⟩; replace HX := (hb1.block _ (lt_of_block HX)).trans HX; replace HY := (hb1.block _ (lt_of_block HY)).trans HY; replace HB := HB.trans (hb1.mono HB.size); obtain ⟨x0, x1, x2⟩ := cells3 HX; obtain ⟨y0, y1, y2⟩ := cells3 HY; clear hb1) | (go_at_call 24; (with_reducible refine (eqnode_anyX _ _ _ _ _ (q2.below HB) (k2.below HB) hl2 hm2 _ hr2).mono ?_); rintro e w1 ⟨rfl, hb1⟩; replace HX := (hb1.block _ (lt_of_block HX)).trans HX; replace HY := (hb1.block _ (lt_of_block HY)).trans HY; replace HB := HB.trans (hb1.mono HB.size); obtain ⟨x0, x1, x2⟩ := cells3 HX; obtain ⟨y0, y1, y2⟩ := cells3 HY; clear hb1) | (go_at_call 25; (with_reducible refine (beq_anyX _ _ _ _ _ (q3.below HB) (k3.below HB) hbp hbq _ hr3).mono ?_); rintro e w1 ⟨rfl, hb1⟩; replace HX := (hb1.block _ (lt_of_block HX)).trans HX; replace HY := (hb1.block _ (lt_of_block HY)).trans HY; replace HB := HB.trans (hb1.mono HB.size); obtain ⟨x0, x1, x2⟩ := cells3 HX; obtain ⟨y0, y1, y2⟩ := cells3 HY; clear hb1) | go_values | go_skip | go_guarded | go_step | go_upon | go_back | (dsimp only)))
        go_ret
        exact ⟨rfl, HB⟩
      | true =>
        go_enter Try.func22, Try.ntmps22
        (repeat (first | with_reducible refine xThenN ?_ | with_reducible refine xThenE ?_ | with_reducible refine xThenR ?_ | with_reducible refine xThenP ?_ | with_reducible refine xBlockEq ?_ | with_reducible refine xBlockNe rfl ?_ | with_reducible refine xBlockN ?_ | with_reducible refine xBlockR ?_ | with_reducible refine xBlockP ?_ | (go_at_call 23; (with_reducible refine (eqint_anyX _ _ _ _ _ (q1.below HB) (k1.below HB) hl1 hm1 _ hr1).mono ?_); rintro e w1 ⟨rfl, hb1⟩; replace HX := (hb1.block _ (lt_of_block HX)).trans HX; replace HY := (hb1.block _ (lt_of_block HY)).trans HY; replace HB := HB.trans (hb1.mono HB.size); obtain ⟨x0, x1, x2⟩ := cells3 HX; obtain ⟨y0, y1, y2⟩ := cells3 HY; clear hb1) | (go_at_call 24; (with_reducible refine (eqnode_anyX _ _ _ _ _ (q2.below HB) (k2.below HB) hl2 hm2 _ hr2).mono ?_); rintro e w1 ⟨rfl, hb1⟩; replace HX := (hb1.block _ (lt_of_block HX)).trans HX; replace HY := (hb1.block _ (lt_of_block HY)).trans HY; replace HB := HB.trans (hb1.mono HB.size); obtain ⟨x0, x1, x2⟩ := cells3 HX; obtain ⟨y0, y1, y2⟩ := cells3 HY; clear hb1) | (go_at_call 25; (with_reducible refine (beq_anyX _ _ _ _ _ (q3.below HB) (k3.below HB) hbp hbq _ hr3).mono ?_); rintro e w1 ⟨rfl, hb1⟩; replace HX := (hb1.block _ (lt_of_block HX)).trans HX; replace HY := (hb1.block _ (lt_of_block HY)).trans HY; replace HB := HB.trans (hb1.mono HB.size); obtain ⟨x0, x1, x2⟩ := cells3 HX; obtain ⟨y0, y1, y2⟩ := cells3 HY; clear hb1) | go_values | go_skip | go_guarded | go_step | go_upon | go_back | (dsimp only)))
        go_ret
        exact ⟨rfl, HB⟩

end Go.Proofs.Ytcffgbmgjdhkjaa
