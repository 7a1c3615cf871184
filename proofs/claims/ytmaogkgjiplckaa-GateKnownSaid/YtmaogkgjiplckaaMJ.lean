import Derived.Test.YtmaogkgjiplckaaP4
import Derived.Test.YtmaogkgjiplckaaGI
import Derived.Test.YtmaogkgjiplckaaMC
set_option linter.unusedSimpArgs false
set_option linter.unusedVariables false
namespace Go.Proofs.Ytmaogkgjiplckaa
open Go.RowKit
/-! circuits, plain -/
/-- two words and a carry: the answer's word, what is carried over -/
def sumG : G → List Int → List Int → Int → G × List Int × Int
  | g, x :: xs, y :: ys, c =>
    let h := odd g x y
    let o := odd h.1 h.2 c
    let a := both o.1 x y
    let b := both a.1 h.2 c
    let e := either b.1 a.2 b.2
    let t := sumG e.1 xs ys e.2
    (t.1, o.2 :: t.2.1, t.2.2)
  | g, _, _, c => (g, [], c)
theorem add_bits (x y c : Bool) (A B C D n : Nat) (h : A + 2 ^ n * D = B + C + (((x && y) || ((x != y) && c)).toNat)) : ((if ((x != y) != c) then 1 else 0) + 2 * A) + 2 ^ (n + 1) * D = ((if x then 1 else 0) + 2 * B) + ((if y then 1 else 0) + 2 * C) + c.toNat := by
  rw [Nat.pow_succ, Nat.mul_comm (2 ^ n) 2, Nat.mul_assoc]
  generalize 2 ^ n * D = E at *
  cases x <;> cases y <;> cases c <;> simp at h ⊢ <;> omega
theorem sum_ok {fr : List Int} : ∀ (xs ys : List Int) (g : G) (s : Nat → Bool) (c : Int), GI g fr s → isL g.n c → (∀ x ∈ xs, isL g.n x) → (∀ y ∈ ys, isL g.n y) → xs.length = ys.length →
    ∃ s', GI (sumG g xs ys c).1 fr s' ∧ Step g s (sumG g xs ys c).1 s' ∧ (sumG g xs ys c).1.n ≤ g.n + 5 * xs.length ∧ (∀ a ∈ (sumG g xs ys c).2.1, isL (sumG g xs ys c).1.n a) ∧ isL (sumG g xs ys c).1.n (sumG g xs ys c).2.2 ∧ (sumG g xs ys c).2.1.length = xs.length ∧
      bv ((sumG g xs ys c).2.1.map (lit s')) + 2 ^ xs.length * (lit s' (sumG g xs ys c).2.2).toNat = bv (xs.map (lit s)) + bv (ys.map (lit s)) + (lit s c).toNat := by
  intro xs
  induction xs with
  | nil =>
    intro ys g s c hI hc hx hy hl
    cases ys with
    | nil => exact ⟨s, hI, Step.refl _ _, by simp [sumG], by simp [sumG], hc, rfl, by simp [sumG, bv]⟩
    | cons => simp at hl
  | cons x xs ih =>
    intro ys g s c hI hc hx hy hl
    cases ys with
    | nil => simp at hl
    | cons y ys =>
      have Lx := hx x (by simp)
      have Ly := hy y (by simp)
      obtain ⟨s1, i1, t1, n1, L1, v1⟩ := odd_ok hI Lx Ly
      obtain ⟨s2, i2, t2, n2, L2, v2⟩ := odd_ok i1 L1 (t1.isL hc)
      have t12 := t1.trans t2
      obtain ⟨s3, i3, t3, n3, L3, v3⟩ := both_ok i2 (t12.isL Lx) (t12.isL Ly)
      have t13 := t12.trans t3
      have t23 := t2.trans t3
      obtain ⟨s4, i4, t4, n4, L4, v4⟩ := both_ok i3 (t23.isL L1) (t13.isL hc)
      have t14 := t13.trans t4
      obtain ⟨s5, i5, t5, n5, L5, v5⟩ := either_ok i4 (t4.isL L3) L4
      have t15 := t14.trans t5
      simp only [List.length_cons, Nat.add_right_cancel_iff] at hl
      have hxs : ∀ a ∈ xs, isL g.n a := fun a ha => hx a (by simp [ha])
      have hys : ∀ a ∈ ys, isL g.n a := fun a ha => hy a (by simp [ha])
      obtain ⟨s6, i6, t6, n6, L6, L6', len6, v6⟩ := ih ys _ s5 _ i5 L5 (fun a ha => t15.isL (hxs a ha)) (fun a ha => t15.isL (hys a ha)) hl
      have t26 := ((t3.trans t4).trans t5).trans t6
      refine ⟨s6, i6, t15.trans t6, ?_, ?_, L6', ?_, ?_⟩
      · have e : (sumG g (x :: xs) (y :: ys) c).1.n = (sumG (either (both (both (odd (odd g x y).1 (odd g x y).2 c).1 x y).1 (odd g x y).2 c).1 (both (odd (odd g x y).1 (odd g x y).2 c).1 x y).2 (both (both (odd (odd g x y).1 (odd g x y).2 c).1 x y).1 (odd g x y).2 c).2).1 xs ys (either (both (both (odd (odd g x y).1 (odd g x y).2 c).1 x y).1 (odd g x y).2 c).1 (both (odd (odd g x y).1 (odd g x y).2 c).1 x y).2 (both (both (odd (odd g x y).1 (odd g x y).2 c).1 x y).1 (odd g x y).2 c).2).2).1.n := rfl
        rw [e, List.length_cons]
        omega
      · intro a ha
        simp only [sumG, List.mem_cons] at ha
        rcases ha with rfl | ha
        · exact t26.isL L2
        · exact L6 a ha
      · simp only [sumG, List.length_cons, len6]
      · simp only [sumG, List.map_cons, bv, List.length_cons]
        rw [t26.lit L2, v2, v1, t1.lit hc]
        rw [step_map t15 hxs, step_map t15 hys, v5, t4.lit L3, v3, v4, t23.lit L1, v1, t13.lit hc, t12.lit Lx, t12.lit Ly] at v6
        exact add_bits (lit s x) (lit s y) (lit s c) _ _ _ _ xs.length v6

end Go.Proofs.Ytmaogkgjiplckaa

set_option linter.unusedSimpArgs false
set_option linter.unusedVariables false
namespace Go.Proofs.Ytmaogkgjiplckaa
open Go.RowKit
theorem sum_split {o n S : Nat} {c : Bool} (ho : o < 2 ^ n) (h : o + 2 ^ n * c.toNat = S) : o = S % 2 ^ n ∧ c = decide (2 ^ n ≤ S) := by
  subst h
  cases c
  · simp only [Bool.toNat_false, Nat.mul_zero, Nat.add_zero]
    exact ⟨(Nat.mod_eq_of_lt ho).symm, (decide_eq_false (by omega)).symm⟩
  · simp only [Bool.toNat_true, Nat.mul_one]
    exact ⟨by rw [Nat.add_mod_right]; exact (Nat.mod_eq_of_lt ho).symm, (decide_eq_true (by omega)).symm⟩
def notL (l : List Int) : List Int := l.map fun x => -x
theorem bv_not : ∀ l : List Bool, bv (l.map not) + bv l + 1 = 2 ^ l.length := by
  intro l
  induction l with
  | nil => rfl
  | cons b l ih =>
    rw [List.map_cons, bv, bv, List.length_cons, Nat.pow_succ]
    cases b <;> simp <;> omega
theorem notL_lit {n : Nat} {s : Nat → Bool} {l : List Int} (h : ∀ x ∈ l, isL n x) : (notL l).map (lit s) = (l.map (lit s)).map not := by
  unfold notL
  rw [List.map_map, List.map_map]
  exact List.map_congr_left fun x hx => lit_neg (h x hx).1
theorem notL_isL {n : Nat} {l : List Int} (h : ∀ x ∈ l, isL n x) : ∀ x ∈ notL l, isL n x := by
  intro x hx
  obtain ⟨y, hy, rfl⟩ := List.mem_map.1 hx
  exact (h y hy).neg
theorem notL_len (l : List Int) : (notL l).length = l.length := by simp [notL]

/-- a word's number -/
def num (s : Nat → Bool) (l : List Int) : Nat := bv (l.map (lit s))
theorem num_lt (s : Nat → Bool) (l : List Int) : num s l < 2 ^ l.length := by
  have := bv_lt (l.map (lit s))
  rwa [List.length_map] at this
theorem numS {g g' : G} {s s' : Nat → Bool} (h : Step g s g' s') {l : List Int} (hl : ∀ x ∈ l, isL g.n x) : num s' l = num s l := by show bv (l.map (lit s')) = bv (l.map (lit s)); rw [step_map h hl]

/-- what a word's circuit answers: the later state, the word's number -/
def NAns (g : G) (fr : List Int) (s : Nat → Bool) (k n : Nat) (r : G × List Int) (v : Nat) : Prop :=
  ∃ s', GI r.1 fr s' ∧ Step g s r.1 s' ∧ r.1.n ≤ g.n + k ∧ (∀ x ∈ r.2, isL r.1.n x) ∧ r.2.length = n ∧ num s' r.2 = v
/-- sums -/
theorem sumN_ok {g : G} {fr : List Int} {s : Nat → Bool} {xs ys : List Int} {c : Int} (hI : GI g fr s) (hc : isL g.n c) (hx : ∀ x ∈ xs, isL g.n x) (hy : ∀ y ∈ ys, isL g.n y) (hl : xs.length = ys.length) :
    ∃ s', GI (sumG g xs ys c).1 fr s' ∧ Step g s (sumG g xs ys c).1 s' ∧ (sumG g xs ys c).1.n ≤ g.n + 5 * xs.length ∧ (∀ a ∈ (sumG g xs ys c).2.1, isL (sumG g xs ys c).1.n a) ∧ isL (sumG g xs ys c).1.n (sumG g xs ys c).2.2 ∧ (sumG g xs ys c).2.1.length = xs.length ∧
      num s' (sumG g xs ys c).2.1 = (num s xs + num s ys + (lit s c).toNat) % 2 ^ xs.length ∧ lit s' (sumG g xs ys c).2.2 = decide (2 ^ xs.length ≤ num s xs + num s ys + (lit s c).toNat) := by
  obtain ⟨s', h1, h2, h3, h4, h5, h6, h7⟩ := sum_ok xs ys g s c hI hc hx hy hl
  have hlt := num_lt s' (sumG g xs ys c).2.1
  rw [h6] at hlt
  obtain ⟨e1, e2⟩ := sum_split hlt h7
  exact ⟨s', h1, h2, h3, h4, h5, h6, e1, e2⟩
theorem num_not {n : Nat} {s : Nat → Bool} {l : List Int} (h : ∀ x ∈ l, isL n x) : num s (notL l) + num s l + 1 = 2 ^ l.length := by
  unfold num
  rw [notL_lit h]
  have := bv_not (l.map (lit s))
  rwa [List.length_map] at this
/-- differences: and whether there is no borrow -/
theorem sub_ok {g : G} {fr : List Int} {s : Nat → Bool} {xs ys : List Int} (hI : GI g fr s) (hx : ∀ x ∈ xs, isL g.n x) (hy : ∀ y ∈ ys, isL g.n y) (hl : xs.length = ys.length) :
    ∃ s', GI (sumG g xs (notL ys) 1).1 fr s' ∧ Step g s (sumG g xs (notL ys) 1).1 s' ∧ (sumG g xs (notL ys) 1).1.n ≤ g.n + 5 * xs.length ∧ (∀ a ∈ (sumG g xs (notL ys) 1).2.1, isL (sumG g xs (notL ys) 1).1.n a) ∧ isL (sumG g xs (notL ys) 1).1.n (sumG g xs (notL ys) 1).2.2 ∧ (sumG g xs (notL ys) 1).2.1.length = xs.length ∧
      num s' (sumG g xs (notL ys) 1).2.1 = (num s xs + 2 ^ xs.length - num s ys) % 2 ^ xs.length ∧ lit s' (sumG g xs (notL ys) 1).2.2 = decide (num s ys ≤ num s xs) := by
  obtain ⟨s', h1, h2, h3, h4, h5, h6, h7, h8⟩ := sumN_ok hI (isL_one hI) hx (notL_isL hy) (by rw [notL_len]; exact hl)
  have hn := num_not (s := s) hy
  rw [← hl] at hn
  have h1' : (lit s 1).toNat = 1 := by rw [lit_one hI]; rfl
  have e : num s xs + num s (notL ys) + (lit s 1).toNat = num s xs + 2 ^ xs.length - num s ys := by rw [h1']; omega
  rw [e] at h7 h8
  refine ⟨s', h1, h2, h3, h4, h5, h6, h7, ?_⟩
  rw [h8]
  congr 1
  apply propext
  have := num_lt s ys
  rw [← hl] at this
  omega
def lessG (g : G) (xs ys : List Int) : G × Int := let r := sumG g xs (notL ys) 1; (r.1, -r.2.2)
theorem less_ok {g : G} {fr : List Int} {s : Nat → Bool} {xs ys : List Int} (hI : GI g fr s) (hx : ∀ x ∈ xs, isL g.n x) (hy : ∀ y ∈ ys, isL g.n y) (hl : xs.length = ys.length) : Ans g fr s (5 * xs.length) (lessG g xs ys) (decide (num s xs < num s ys)) := by
  obtain ⟨s', h1, h2, h3, h4, h5, h6, h7, h8⟩ := sub_ok hI hx hy hl
  refine ⟨s', h1, h2, h3, h5.neg, ?_⟩
  show lit s' (-(sumG g xs (notL ys) 1).2.2) = _
  rw [lit_neg h5.1, h8]
  by_cases h : num s ys ≤ num s xs
  · rw [decide_eq_true h, decide_eq_false (by omega)]; rfl
  · rw [decide_eq_false h, decide_eq_true (by omega)]; rfl
/-- are they the same? -/
def sameG : G → Int → List Int → List Int → G × Int
  | g, o, x :: xs, y :: ys => let d := odd g x y; let b := both d.1 o (-d.2); sameG b.1 b.2 xs ys
  | g, o, _, _ => (g, o)
theorem same_ok {fr : List Int} : ∀ (xs ys : List Int) (g : G) (s : Nat → Bool) (o : Int), GI g fr s → isL g.n o → (∀ x ∈ xs, isL g.n x) → (∀ y ∈ ys, isL g.n y) → xs.length = ys.length →
    Ans g fr s (2 * xs.length) (sameG g o xs ys) (lit s o && decide (xs.map (lit s) = ys.map (lit s))) := by
  intro xs
  induction xs with
  | nil =>
    intro ys g s o hI ho hx hy hl
    cases ys with
    | nil => exact ⟨s, hI, Step.refl _ _, by simp [sameG], ho, by simp [sameG]⟩
    | cons => simp at hl
  | cons x xs ih =>
    intro ys g s o hI ho hx hy hl
    cases ys with
    | nil => simp at hl
    | cons y ys =>
      have Lx := hx x (by simp)
      have Ly := hy y (by simp)
      obtain ⟨s1, i1, t1, n1, L1, v1⟩ := odd_ok hI Lx Ly
      obtain ⟨s2, i2, t2, n2, L2, v2⟩ := both_ok i1 (t1.isL ho) L1.neg
      have t12 := t1.trans t2
      simp only [List.length_cons, Nat.add_right_cancel_iff] at hl
      have hxs : ∀ a ∈ xs, isL g.n a := fun a ha => hx a (by simp [ha])
      have hys : ∀ a ∈ ys, isL g.n a := fun a ha => hy a (by simp [ha])
      obtain ⟨s3, i3, t3, n3, L3, v3⟩ := ih ys _ s2 _ i2 L2 (fun a ha => t12.isL (hxs a ha)) (fun a ha => t12.isL (hys a ha)) hl
      refine ⟨s3, i3, t12.trans t3, ?_, L3, ?_⟩
      · have e : (sameG g o (x :: xs) (y :: ys)) = sameG (both (odd g x y).1 o (-(odd g x y).2)).1 (both (odd g x y).1 o (-(odd g x y).2)).2 xs ys := rfl
        rw [e, List.length_cons]
        omega
      · have e : (sameG g o (x :: xs) (y :: ys)) = sameG (both (odd g x y).1 o (-(odd g x y).2)).1 (both (odd g x y).1 o (-(odd g x y).2)).2 xs ys := rfl
        rw [e, v3, v2, step_map t12 hxs, step_map t12 hys, t1.lit ho, lit_neg L1.1, v1, List.map_cons, List.map_cons]
        cases lit s o <;> cases lit s x <;> cases lit s y <;> simp

end Go.Proofs.Ytmaogkgjiplckaa

set_option linter.unusedSimpArgs false
set_option linter.unusedVariables false
namespace Go.Proofs.Ytmaogkgjiplckaa
open Go.RowKit
/-- words, gate by gate, beside literals that all gates have -/
theorem zipE_ok {f : G → Int → Int → G × Int} {k : Nat} {env : List Int} {v : List Bool → Bool → Bool → Bool} (fr : List Int) (hf : ∀ (g : G) (s : Nat → Bool) (x y : Int), GI g fr s → (∀ z ∈ env, isL g.n z) → isL g.n x → isL g.n y → Ans g fr s k (f g x y) (v (env.map (lit s)) (lit s x) (lit s y))) :
    ∀ (xs ys : List Int) (g : G) (s : Nat → Bool), GI g fr s → (∀ z ∈ env, isL g.n z) → (∀ x ∈ xs, isL g.n x) → (∀ y ∈ ys, isL g.n y) → xs.length = ys.length →
      WAns g fr s (k * xs.length) (zipG f g xs ys) (((xs.map (lit s)).zip (ys.map (lit s))).map fun p => v (env.map (lit s)) p.1 p.2) := by
  intro xs
  induction xs with
  | nil =>
    intro ys g s hI hc hx hy hl
    cases ys with
    | nil => exact ⟨s, hI, Step.refl _ _, by simp [zipG], by simp [zipG], rfl⟩
    | cons => simp at hl
  | cons x xs ih =>
    intro ys g s hI hc hx hy hl
    cases ys with
    | nil => simp at hl
    | cons y ys =>
      obtain ⟨s1, I1, st1, le1, L1, v1⟩ := hf g s x y hI hc (hx x (by simp)) (hy y (by simp))
      simp only [List.length_cons, Nat.add_right_cancel_iff] at hl
      have hxs : ∀ a ∈ xs, isL g.n a := fun a ha => hx a (by simp [ha])
      have hys : ∀ a ∈ ys, isL g.n a := fun a ha => hy a (by simp [ha])
      obtain ⟨s2, I2, st2, le2, L2, v2⟩ := ih ys (f g x y).1 s1 I1 (fun z hz => st1.isL (hc z hz)) (fun a ha => st1.isL (hxs a ha)) (fun a ha => st1.isL (hys a ha)) hl
      refine ⟨s2, I2, st1.trans st2, ?_, ?_, ?_⟩
      · show (zipG f (f g x y).1 xs ys).1.n ≤ g.n + k * (xs.length + 1)
        rw [Nat.mul_add]; omega
      · intro a ha
        simp only [zipG, List.mem_cons] at ha
        rcases ha with rfl | ha
        · exact st2.isL L1
        · exact L2 a ha
      · simp only [zipG, List.map_cons, List.zip_cons_cons]
        rw [st2.lit L1, v1, v2, step_map st1 hxs, step_map st1 hys, step_map st1 hc]
theorem bv_test : ∀ (l : List Bool) (i : Nat), (bv l).testBit i = l.getD i false := by
  intro l
  induction l with
  | nil => intro i; simp [bv]
  | cons b l ih =>
    intro i
    rw [bv]
    rcases i with _ | i
    · rw [Nat.testBit_zero]
      cases b <;> simp <;> omega
    · rw [Nat.testBit_succ, show ((if b = true then 1 else 0) + 2 * bv l) / 2 = bv l by cases b <;> simp <;> omega, ih]
      rfl
theorem bv_zip (f : Bool → Bool → Bool) (op : Nat → Nat → Nat) (hf : f false false = false) (ho : ∀ a b i, (op a b).testBit i = f (a.testBit i) (b.testBit i)) {ps qs : List Bool} (h : ps.length = qs.length) : bv ((ps.zip qs).map fun p => f p.1 p.2) = op (bv ps) (bv qs) := by
  refine Nat.eq_of_testBit_eq fun i => ?_
  rw [ho, bv_test, bv_test, bv_test]
  rcases Nat.lt_or_ge i ps.length with hi | hi
  · have hb : i < qs.length := by omega
    have hz : i < (ps.zip qs).length := by simp; omega
    have e : (ps.zip qs)[i]? = some (ps[i], qs[i]) := by rw [List.getElem?_eq_getElem hz, List.getElem_zip]
    simp [List.getD_eq_getElem?_getD, hi, hb, e]
  · have hb : qs.length ≤ i := by omega
    rw [List.getD_eq_getElem?_getD, List.getD_eq_getElem?_getD, List.getD_eq_getElem?_getD, List.getElem?_eq_none (by simp; omega), List.getElem?_eq_none hi, List.getElem?_eq_none hb]
    exact hf.symm
theorem bitsN_ok {g : G} {fr : List Int} {s : Nat → Bool} {xs ys : List Int} {f : G → Int → Int → G × Int} {b : Bool → Bool → Bool} {op : Nat → Nat → Nat} (hI : GI g fr s) (hx : ∀ x ∈ xs, isL g.n x) (hy : ∀ y ∈ ys, isL g.n y) (hl : xs.length = ys.length)
    (hf : ∀ (g : G) (s : Nat → Bool) (x y : Int), GI g fr s → isL g.n x → isL g.n y → Ans g fr s 1 (f g x y) (b (lit s x) (lit s y))) (hb : b false false = false) (ho : ∀ p q i, (op p q).testBit i = b (p.testBit i) (q.testBit i)) : NAns g fr s xs.length xs.length (zipG f g xs ys) (op (num s xs) (num s ys)) := by
  obtain ⟨s', h1, h2, h3, h4, h5⟩ := zipE_ok (env := []) (v := fun _ => b) (k := 1) fr (fun g s x y a _ c d => hf g s x y a c d) xs ys g s hI (by simp) hx hy hl
  refine ⟨s', h1, h2, by rw [Nat.one_mul] at h3; exact h3, h4, zipG_len f xs ys g hl, ?_⟩
  show bv _ = _
  rw [h5, bv_zip b op hb ho (by simpa using hl)]
  rfl
theorem andN_ok {g : G} {fr : List Int} {s : Nat → Bool} {xs ys : List Int} (hI : GI g fr s) (hx : ∀ x ∈ xs, isL g.n x) (hy : ∀ y ∈ ys, isL g.n y) (hl : xs.length = ys.length) : NAns g fr s xs.length xs.length (zipG both g xs ys) (num s xs &&& num s ys) :=
  bitsN_ok hI hx hy hl (fun _ _ _ _ a b c => both_ok a b c) rfl (fun p q i => Nat.testBit_and p q i)
theorem orN_ok {g : G} {fr : List Int} {s : Nat → Bool} {xs ys : List Int} (hI : GI g fr s) (hx : ∀ x ∈ xs, isL g.n x) (hy : ∀ y ∈ ys, isL g.n y) (hl : xs.length = ys.length) : NAns g fr s xs.length xs.length (zipG either g xs ys) (num s xs ||| num s ys) :=
  bitsN_ok hI hx hy hl (fun _ _ _ _ a b c => either_ok a b c) rfl (fun p q i => Nat.testBit_or p q i)
theorem xorN_ok {g : G} {fr : List Int} {s : Nat → Bool} {xs ys : List Int} (hI : GI g fr s) (hx : ∀ x ∈ xs, isL g.n x) (hy : ∀ y ∈ ys, isL g.n y) (hl : xs.length = ys.length) : NAns g fr s xs.length xs.length (zipG odd g xs ys) (num s xs ^^^ num s ys) :=
  bitsN_ok hI hx hy hl (fun _ _ _ _ a b c => odd_ok a b c) rfl (fun p q i => by rw [Nat.testBit_xor])

/-- moved up by some bits, others coming in -/
def upL (x : List Int) (k : Nat) (i : Int) : List Int := (List.replicate k i ++ x).take x.length
theorem upL_len (x : List Int) (k : Nat) (i : Int) : (upL x k i).length = x.length := by simp [upL]
theorem upL_isL {n k : Nat} {x : List Int} {i : Int} (hx : ∀ a ∈ x, isL n a) (hi : isL n i) : ∀ a ∈ upL x k i, isL n a := by
  intro a ha
  rcases List.mem_append.1 (List.mem_of_mem_take ha) with h | h
  · rw [List.eq_of_mem_replicate h]; exact hi
  · exact hx a h
theorem bv_take : ∀ (l : List Bool) (n : Nat), bv (l.take n) = bv l % 2 ^ n := by
  intro l
  induction l with
  | nil => intro n; simp [bv]
  | cons b l ih =>
    intro n
    rcases n with _ | n
    · simp [bv, Nat.mod_one]
    · rw [List.take_succ_cons, bv, bv, ih, Nat.pow_succ, Nat.mul_comm (2 ^ n) 2, Nat.mod_mul]
      cases b
      · simp
      · simp only [if_true]
        rw [show (1 + 2 * bv l) % 2 = 1 by omega, show (1 + 2 * bv l) / 2 = bv l by omega]
theorem bv_rep0 : ∀ (k : Nat) (l : List Bool), bv (List.replicate k false ++ l) = 2 ^ k * bv l := by
  intro k
  induction k with
  | zero => intro l; simp
  | succ k ih => intro l; rw [List.replicate_succ, List.cons_append, bv, ih, Nat.pow_succ]; simp; rw [Nat.mul_comm (2 ^ k) 2, Nat.mul_assoc]
theorem num_up {s : Nat → Bool} {i : Int} (x : List Int) (k : Nat) (hi : lit s i = false) : num s (upL x k i) = 2 ^ k * num s x % 2 ^ x.length := by
  unfold num upL
  rw [List.map_take, bv_take, List.map_append, List.map_replicate, hi, bv_rep0]

end Go.Proofs.Ytmaogkgjiplckaa

set_option linter.unusedSimpArgs false
set_option linter.unusedVariables false
namespace Go.Proofs.Ytmaogkgjiplckaa
open Go.RowKit
/-- each literal with one more -/
theorem withN_ok {g : G} {fr : List Int} {s : Nat → Bool} {xs : List Int} {c : Int} (hI : GI g fr s) (hx : ∀ x ∈ xs, isL g.n x) (hc : isL g.n c) : NAns g fr s xs.length xs.length (zipG (fun g x _ => both g x c) g xs xs) (if lit s c then num s xs else 0) := by
  obtain ⟨s', h1, h2, h3, h4, h5⟩ := zipE_ok (f := fun g x _ => both g x c) (env := [c]) (v := fun e p _ => p && e.getD 0 false) (k := 1) fr (fun g s x y a b d e => by
    have := both_ok a d (b c (by simp))
    simpa using this) xs xs g s hI (by intro z hz; rw [List.mem_singleton] at hz; subst hz; exact hc) hx hx rfl
  refine ⟨s', h1, h2, by rw [Nat.one_mul] at h3; exact h3, h4, zipG_len _ xs xs g rfl, ?_⟩
  show bv _ = _
  rw [h5]
  have e : ((List.map (lit s) xs).zip (List.map (lit s) xs)).map (fun p => p.1 && ([c].map (lit s)).getD 0 false) = if lit s c then xs.map (lit s) else xs.map fun _ => false := by
    have hz : ∀ l : List Bool, (l.zip l).map (fun p => p.1 && lit s c) = l.map fun b => b && lit s c := by
      intro l
      induction l with
      | nil => rfl
      | cons b l ih => simp only [List.zip_cons_cons, List.map_cons, ih]
    show ((List.map (lit s) xs).zip (List.map (lit s) xs)).map (fun p => p.1 && lit s c) = _
    rw [hz]
    cases lit s c <;> simp
  rw [e]
  cases lit s c
  · simp only [Bool.false_eq_true, if_false]
    have : ∀ l : List Int, bv (l.map fun _ => false) = 0 := by
      intro l
      induction l with
      | nil => rfl
      | cons _ l ih => simp [bv, ih]
    exact this xs
  · simp only [if_true]; rfl

/-- products: what is added for each bit -/
def prodG : G → List Int → List Int → Nat → List Int → G × List Int
  | g, out, _, _, [] => (g, out)
  | g, out, x, k, c :: ys =>
    let p := zipG (fun g x _ => both g x c) g (upL x k (-1)) (upL x k (-1))
    let t := sumG p.1 out p.2 (-1)
    prodG t.1 t.2.1 x (k + 1) ys
theorem prod_mod {o x y n k : Nat} {c : Bool} : ((o + (if c then 2 ^ k * x % 2 ^ n else 0)) % 2 ^ n + 2 ^ (k + 1) * x * y) % 2 ^ n = (o + 2 ^ k * x * ((if c then 1 else 0) + 2 * y)) % 2 ^ n := by
  rw [Nat.mod_add_mod]
  have e : 2 ^ (k + 1) * x * y = 2 ^ k * x * (2 * y) := by rw [Nat.pow_succ, Nat.mul_assoc, Nat.mul_assoc, Nat.mul_assoc, Nat.mul_left_comm 2 x y]
  rw [e, Nat.mul_add, ← Nat.add_assoc]
  cases c
  · simp
  · simp only [if_true, Nat.mul_one]
    rw [Nat.add_mod, Nat.add_mod o, Nat.mod_mod, ← Nat.add_mod o, ← Nat.add_mod]
theorem prod_ok {fr : List Int} {x : List Int} : ∀ (ys : List Int) (k : Nat) (g : G) (s : Nat → Bool) (out : List Int), GI g fr s → (∀ a ∈ x, isL g.n a) → (∀ a ∈ out, isL g.n a) → (∀ a ∈ ys, isL g.n a) → out.length = x.length →
    NAns g fr s (6 * x.length * ys.length) x.length (prodG g out x k ys) ((num s out + 2 ^ k * num s x * num s ys) % 2 ^ x.length) := by
  intro ys
  induction ys with
  | nil =>
    intro k g s out hI hx ho hy hl
    refine ⟨s, hI, Step.refl _ _, by simp [prodG], ho, hl, ?_⟩
    have := num_lt s out
    rw [hl] at this
    show num s out = _
    rw [show num s [] = 0 from rfl, Nat.mul_zero, Nat.add_zero, Nat.mod_eq_of_lt this]
  | cons c ys ih =>
    intro k g s out hI hx ho hy hl
    have Lc := hy c (by simp)
    have hys : ∀ a ∈ ys, isL g.n a := fun a ha => hy a (by simp [ha])
    obtain ⟨s1, i1, t1, n1, L1, l1, v1⟩ := withN_ok hI (upL_isL (k := k) hx (isL_no hI)) Lc
    rw [upL_len] at n1 l1
    obtain ⟨s2, i2, t2, n2, L2, -, l2, v2, -⟩ := sumN_ok i1 (isL_no i1) (fun a h => t1.isL (ho a h)) L1 (by rw [l1, hl])
    rw [hl] at n2 l2 v2
    have t12 := t1.trans t2
    obtain ⟨s3, i3, t3, n3, L3, l3, v3⟩ := ih (k + 1) _ s2 _ i2 (fun a h => t12.isL (hx a h)) L2 (fun a h => t12.isL (hys a h)) l2
    have e : prodG g out x k (c :: ys) = prodG (sumG (zipG (fun g x _ => both g x c) g (upL x k (-1)) (upL x k (-1))).1 out (zipG (fun g x _ => both g x c) g (upL x k (-1)) (upL x k (-1))).2 (-1)).1 (sumG (zipG (fun g x _ => both g x c) g (upL x k (-1)) (upL x k (-1))).1 out (zipG (fun g x _ => both g x c) g (upL x k (-1)) (upL x k (-1))).2 (-1)).2.1 x (k + 1) ys := rfl
    rw [e]
    refine ⟨s3, i3, t12.trans t3, ?_, L3, l3, ?_⟩
    · rw [List.length_cons, Nat.mul_add]; omega
    · rw [v3, v2, numS t12 hx, numS t12 hys, numS t1 ho, v1, num_up x k (lit_no hI), lit_no i1]
      simp only [Bool.toNat_false, Nat.add_zero]
      have h := prod_mod (o := num s out) (x := num s x) (y := num s ys) (n := x.length) (k := k) (c := lit s c)
      rw [h]
      rfl

end Go.Proofs.Ytmaogkgjiplckaa

set_option linter.unusedSimpArgs false
set_option linter.unusedVariables false
namespace Go.Proofs.Ytmaogkgjiplckaa
open Go.RowKit
/-- quotient and rest: the bits of x from the top -/
def divG : G → List Int → List Int → List Int → List Int → G × List Int × List Int
  | g, [], r, _, q => (g, q, r)
  | g, d :: ds, r, y, q =>
    let t := sumG g (d :: r) (notL (y ++ [-1])) 1
    let c := chooseG t.1 t.2.2 t.2.1 (d :: r)
    divG c.1 ds (c.2.take y.length) y (t.2.2 :: q)
theorem num_snoc0 (s : Nat → Bool) (y : List Int) {z : Int} (hz : lit s z = false) : num s (y ++ [z]) = num s y := by
  unfold num
  rw [List.map_append, List.map_singleton, hz]
  generalize y.map (lit s) = l
  induction l with
  | nil => rfl
  | cons b l ih => rw [List.cons_append, bv, bv, ih]
theorem num_cons (s : Nat → Bool) (d : Int) (r : List Int) : num s (d :: r) = (lit s d).toNat + 2 * num s r := by
  show (if lit s d then 1 else 0) + 2 * bv (r.map (lit s)) = _
  cases lit s d <;> rfl
/-- one step of the division, by numbers -/
def dstep (n Y : Nat) (p : Nat × Nat) (d : Bool) : Nat × Nat :=
  let N := d.toNat + 2 * p.2
  ((decide (Y ≤ N)).toNat + 2 * p.1, (if Y ≤ N then (N + 2 ^ (n + 1) - Y) % 2 ^ (n + 1) else N) % 2 ^ n)
theorem num_take (s : Nat → Bool) (l : List Int) (n : Nat) : num s (l.take n) = num s l % 2 ^ n := by
  unfold num; rw [List.map_take, bv_take]
theorem div_ok {fr : List Int} {y : List Int} : ∀ (ds : List Int) (g : G) (s : Nat → Bool) (r q : List Int), GI g fr s → (∀ a ∈ ds, isL g.n a) → (∀ a ∈ r, isL g.n a) → (∀ a ∈ y, isL g.n a) → (∀ a ∈ q, isL g.n a) → r.length = y.length →
    ∃ s', GI (divG g ds r y q).1 fr s' ∧ Step g s (divG g ds r y q).1 s' ∧ (divG g ds r y q).1.n ≤ g.n + 8 * (y.length + 1) * ds.length ∧ (∀ a ∈ (divG g ds r y q).2.1, isL (divG g ds r y q).1.n a) ∧ (∀ a ∈ (divG g ds r y q).2.2, isL (divG g ds r y q).1.n a) ∧ (divG g ds r y q).2.1.length = q.length + ds.length ∧ (divG g ds r y q).2.2.length = y.length ∧
      (num s' (divG g ds r y q).2.1, num s' (divG g ds r y q).2.2) = (ds.map (lit s)).foldl (dstep y.length (num s y)) (num s q, num s r) := by
  intro ds
  induction ds with
  | nil => intro g s r q hI hd hr hy hq hl; exact ⟨s, hI, Step.refl _ _, by simp [divG], hq, hr, by simp [divG], hl, rfl⟩
  | cons d ds ih =>
    intro g s r q hI hd hr hy hq hl
    have Ld := hd d (by simp)
    have hds : ∀ a ∈ ds, isL g.n a := fun a ha => hd a (by simp [ha])
    have hnx : ∀ a ∈ d :: r, isL g.n a := by
      intro a ha
      rcases List.mem_cons.1 ha with rfl | ha
      · exact Ld
      · exact hr a ha
    have hw : ∀ a ∈ y ++ [-1], isL g.n a := by
      intro a ha
      rcases List.mem_append.1 ha with ha | ha
      · exact hy a ha
      · rw [List.mem_singleton] at ha; subst ha; exact isL_no hI
    obtain ⟨s1, i1, t1, n1, L1, L1c, l1, v1, c1⟩ := sub_ok hI hnx hw (by simp [hl])
    have en : num s (d :: r) = (lit s d).toNat + 2 * num s r := num_cons s d r
    rw [List.length_cons, hl] at n1 l1 v1
    rw [num_snoc0 s y (lit_no hI), en] at v1 c1
    obtain ⟨s2, i2, t2, n2, L2, v2⟩ := chooseG_ok i1 L1c L1 (fun a h => t1.isL (hnx a h)) (by rw [l1, List.length_cons, hl])
    rw [l1] at n2
    have t12 := t1.trans t2
    have l2 : (chooseG (sumG g (d :: r) (notL (y ++ [-1])) 1).1 (sumG g (d :: r) (notL (y ++ [-1])) 1).2.2 (sumG g (d :: r) (notL (y ++ [-1])) 1).2.1 (d :: r)).2.length = y.length + 1 := by
      unfold chooseG
      rw [zipG_len _ _ _ _ (by rw [l1, List.length_cons, hl]), l1]
    obtain ⟨s3, i3, t3, n3, L3q, L3r, l3q, l3r, v3⟩ := ih _ s2 ((chooseG (sumG g (d :: r) (notL (y ++ [-1])) 1).1 (sumG g (d :: r) (notL (y ++ [-1])) 1).2.2 (sumG g (d :: r) (notL (y ++ [-1])) 1).2.1 (d :: r)).2.take y.length) ((sumG g (d :: r) (notL (y ++ [-1])) 1).2.2 :: q) i2 (fun a h => t12.isL (hds a h)) (fun a h => L2 a (List.mem_of_mem_take h)) (fun a h => t12.isL (hy a h)) (by
      intro a ha
      rcases List.mem_cons.1 ha with rfl | ha
      · exact t2.isL L1c
      · exact t12.isL (hq a ha)) (by rw [List.length_take, l2]; omega)
    refine ⟨s3, i3, t12.trans t3, ?_, L3q, L3r, ?_, l3r, ?_⟩
    · show (divG _ ds _ y _).1.n ≤ _
      rw [List.length_cons, Nat.mul_add]
      have n3' := n3
      omega
    · show (divG _ ds _ y _).2.1.length = _
      rw [l3q, List.length_cons, List.length_cons]; omega
    · show (num s3 (divG _ ds _ y _).2.1, num s3 (divG _ ds _ y _).2.2) = _
      rw [v3, List.map_cons, List.foldl_cons, step_map t12 hds, numS t12 hy]
      congr 1
      rw [num_cons, num_take, numS t12 hq, t2.lit L1c, c1]
      have e2 : num s2 (chooseG (sumG g (d :: r) (notL (y ++ [-1])) 1).1 (sumG g (d :: r) (notL (y ++ [-1])) 1).2.2 (sumG g (d :: r) (notL (y ++ [-1])) 1).2.1 (d :: r)).2 = if num s y ≤ (lit s d).toNat + 2 * num s r then ((lit s d).toNat + 2 * num s r + 2 ^ (y.length + 1) - num s y) % 2 ^ (y.length + 1) else (lit s d).toNat + 2 * num s r := by
        show bv _ = _
        rw [v2, c1]
        by_cases h : num s y ≤ (lit s d).toNat + 2 * num s r
        · rw [decide_eq_true h, if_pos rfl, if_pos h]; exact v1
        · rw [decide_eq_false h, if_neg (by simp), if_neg h, step_map t1 hnx]; exact en
      rw [e2]
      rfl

end Go.Proofs.Ytmaogkgjiplckaa

set_option linter.unusedSimpArgs false
set_option linter.unusedVariables false
namespace Go.Proofs.Ytmaogkgjiplckaa
open Go.RowKit
def tv (a : Nat) (bs : List Bool) : Nat := bs.foldl (fun a b => b.toNat + 2 * a) a
theorem tv_rev (l : List Bool) : tv 0 l.reverse = bv l := by
  unfold tv
  rw [List.foldl_reverse]
  induction l with
  | nil => rfl
  | cons b l ih => rw [List.foldr_cons, ih, bv]; cases b <;> rfl
theorem dstep_pos {n Y A : Nat} {b : Bool} (h0 : 0 < Y) (hY : Y < 2 ^ n) : dstep n Y (A / Y, A % Y) b = ((b.toNat + 2 * A) / Y, (b.toNat + 2 * A) % Y) := by
  have hr := Nat.mod_lt A h0
  have hA := Nat.div_add_mod A Y
  have hb : b.toNat ≤ 1 := Bool.toNat_le b
  have hp : 2 ^ (n + 1) = 2 * 2 ^ n := by rw [Nat.pow_succ]; omega
  unfold dstep
  dsimp only
  generalize hq : A / Y = q at *
  generalize hr' : A % Y = r at *
  have hN : b.toNat + 2 * A = Y * (2 * q) + (b.toNat + 2 * r) := by
    rw [← hA, Nat.mul_add, Nat.mul_left_comm 2 Y q]; omega
  rw [hN]
  by_cases h : Y ≤ b.toNat + 2 * r
  · rw [if_pos h, decide_eq_true h, hp]
    have e1 : Y * (2 * q) + (b.toNat + 2 * r) = (b.toNat + 2 * r - Y) + Y * (2 * q + 1) := by rw [Nat.mul_add, Nat.mul_one]; omega
    have hlt : b.toNat + 2 * r - Y < Y := by omega
    rw [e1, Nat.add_mul_div_left _ _ h0, Nat.add_mul_mod_self_left, Nat.div_eq_of_lt hlt, Nat.mod_eq_of_lt hlt]
    have e2 : (b.toNat + 2 * r + 2 * 2 ^ n - Y) % (2 * 2 ^ n) = b.toNat + 2 * r - Y := by
      rw [show b.toNat + 2 * r + 2 * 2 ^ n - Y = (b.toNat + 2 * r - Y) + 2 * 2 ^ n by omega, Nat.add_mod_right, Nat.mod_eq_of_lt (by omega)]
    rw [e2, Nat.mod_eq_of_lt (by omega)]
    simp; omega
  · rw [if_neg h, decide_eq_false h]
    have hlt : b.toNat + 2 * r < Y := by omega
    rw [Nat.add_comm (Y * (2 * q)), Nat.add_mul_div_left _ _ h0, Nat.add_mul_mod_self_left, Nat.div_eq_of_lt hlt, Nat.mod_eq_of_lt hlt, Nat.mod_eq_of_lt (by omega)]
    simp
theorem dfold_pos {n Y : Nat} (h0 : 0 < Y) (hY : Y < 2 ^ n) : ∀ (bs : List Bool) (A : Nat), bs.foldl (dstep n Y) (A / Y, A % Y) = (tv A bs / Y, tv A bs % Y) := by
  intro bs
  induction bs with
  | nil => intro A; rfl
  | cons b bs ih => intro A; rw [List.foldl_cons, dstep_pos h0 hY, ih]; rfl
theorem dfold_zero {n : Nat} : ∀ (bs : List Bool) (A k : Nat), bs.foldl (dstep n 0) (2 ^ k - 1, A % 2 ^ n) = (2 ^ (k + bs.length) - 1, tv A bs % 2 ^ n) := by
  intro bs
  induction bs with
  | nil => intro A k; rfl
  | cons b bs ih =>
    intro A k
    have hp := Nat.pow_pos (n := k) (show 0 < 2 by omega)
    have e : dstep n 0 (2 ^ k - 1, A % 2 ^ n) b = (2 ^ (k + 1) - 1, (b.toNat + 2 * A) % 2 ^ n) := by
      unfold dstep
      dsimp only
      rw [if_pos (Nat.zero_le _), decide_eq_true (Nat.zero_le _), Nat.sub_zero, Nat.add_mod_right, Nat.pow_succ, Nat.pow_succ, Nat.mod_mul_right_mod]
      rw [Prod.mk.injEq]
      refine ⟨by simp; omega, ?_⟩
      rw [Nat.add_mod, Nat.mul_mod, Nat.mod_mod, ← Nat.mul_mod, ← Nat.add_mod]
    rw [List.foldl_cons, e, ih, List.length_cons, show k + 1 + bs.length = k + (bs.length + 1) by omega]
    rfl
/-- the division's numbers -/
theorem divN {s : Nat → Bool} {x : List Int} {n Y : Nat} (hx : x.length = n) (hY : Y < 2 ^ n) : ((x.reverse).map (lit s)).foldl (dstep n Y) (0, 0) = if Y = 0 then (2 ^ n - 1, num s x) else (num s x / Y, num s x % Y) := by
  have ht : tv 0 ((x.reverse).map (lit s)) = num s x := by rw [List.map_reverse]; exact tv_rev _
  by_cases h : Y = 0
  · subst h
    rw [if_pos rfl]
    have := dfold_zero (n := n) ((x.reverse).map (lit s)) 0 0
    rw [ht] at this
    have hlt := num_lt s x
    rw [hx] at hlt
    rw [Nat.mod_eq_of_lt hlt] at this
    simpa [hx] using this
  · rw [if_neg h]
    have := dfold_pos (n := n) (Nat.pos_of_ne_zero h) hY ((x.reverse).map (lit s)) 0
    rw [ht] at this
    simpa using this

end Go.Proofs.Ytmaogkgjiplckaa

set_option linter.unusedSimpArgs false
set_option linter.unusedVariables false
namespace Go.Proofs.Ytmaogkgjiplckaa
open Go.RowKit
def upB (l : List Bool) (j : Nat) (b : Bool) : List Bool := (List.replicate j b ++ l).take l.length
theorem upB_len (l : List Bool) (j : Nat) (b : Bool) : (upB l j b).length = l.length := by simp [upB]
theorem upB_get (l : List Bool) (j : Nat) (b : Bool) (i : Nat) : (upB l j b)[i]? = if i < l.length then (if i < j then some b else l[i - j]?) else none := by
  unfold upB
  rw [List.getElem?_take]
  split
  · rw [List.getElem?_append, List.length_replicate]
    split
    · rename_i h; rw [List.getElem?_replicate, if_pos h]
    · rfl
  · rfl
theorem upB_add (l : List Bool) (i j : Nat) (b : Bool) : upB (upB l i b) j b = upB l (i + j) b := by
  apply List.ext_getElem?
  intro m
  rw [upB_get, upB_get, upB_len, upB_get]
  by_cases hm : m < l.length
  · rw [if_pos hm, if_pos hm]
    by_cases hj : m < j
    · rw [if_pos hj, if_pos (by omega)]
    · rw [if_neg hj, if_pos (by omega)]
      by_cases hi : m - j < i
      · rw [if_pos hi, if_pos (by omega)]
      · rw [if_neg hi, if_neg (by omega), show m - j - i = m - (i + j) by omega]
  · rw [if_neg hm, if_neg hm]
theorem upB_big (l : List Bool) {j : Nat} (b : Bool) (h : l.length ≤ j) : upB l j b = List.replicate l.length b := by
  apply List.ext_getElem?
  intro m
  rw [upB_get, List.getElem?_replicate]
  by_cases hm : m < l.length
  · rw [if_pos hm, if_pos (by omega), if_pos hm]
  · rw [if_neg hm, if_neg hm]
theorem upB_zero (l : List Bool) (b : Bool) : upB l 0 b = l := by simp [upB]
theorem upL_lit (s : Nat → Bool) (x : List Int) (j : Nat) (i : Int) : (upL x j i).map (lit s) = upB (x.map (lit s)) j (lit s i) := by
  unfold upL upB
  rw [List.map_take, List.map_append, List.map_replicate, List.length_map]
/-- moves: bit by bit of how far -/
def shiftG : G → List Int → List Int → Nat → Int → Int → G × List Int
  | g, x, [], _, far, i => chooseG g far (upL x x.length i) x
  | g, x, c :: ys, k, far, i =>
    if k < 7 ∧ 2 ^ k < x.length then
      let r := chooseG g c (upL x (2 ^ k) i) x
      shiftG r.1 r.2 ys (k + 1) far i
    else
      let e := either g far c
      shiftG e.1 x ys (k + 1) e.2 i
theorem shift_ok {fr : List Int} {i : Int} {n : Nat} (hn : n ≤ 64) : ∀ (ys : List Int) (k : Nat) (g : G) (s : Nat → Bool) (x : List Int) (far : Int), GI g fr s → x.length = n → (∀ a ∈ x, isL g.n a) → (∀ a ∈ ys, isL g.n a) → isL g.n far → isL g.n i →
    ∃ s', GI (shiftG g x ys k far i).1 fr s' ∧ Step g s (shiftG g x ys k far i).1 s' ∧ (shiftG g x ys k far i).1.n ≤ g.n + (3 * n + 1) * ys.length + 3 * n ∧ (∀ a ∈ (shiftG g x ys k far i).2, isL (shiftG g x ys k far i).1.n a) ∧ (shiftG g x ys k far i).2.length = n ∧
      (shiftG g x ys k far i).2.map (lit s') = upB (x.map (lit s)) (2 ^ k * num s ys + (if lit s far then n else 0)) (lit s i) := by
  intro ys
  induction ys with
  | nil =>
    intro k g s x far hI hl hx hy hf hi
    obtain ⟨s1, i1, t1, n1, L1, v1⟩ := chooseG_ok hI hf (upL_isL (k := x.length) hx hi) hx (upL_len _ _ _)
    rw [upL_len, hl] at n1
    refine ⟨s1, i1, t1, ?_, L1, ?_, ?_⟩
    · show (chooseG g far (upL x x.length i) x).1.n ≤ _
      simp only [List.length_nil, Nat.mul_zero, Nat.add_zero]; rw [hl]; omega
    · show (chooseG g far (upL x x.length i) x).2.length = n
      unfold chooseG; rw [zipG_len _ _ _ _ (upL_len _ _ _), upL_len, hl]
    · show (chooseG g far (upL x x.length i) x).2.map (lit s1) = _
      rw [v1, upL_lit, show num s [] = 0 from rfl, Nat.mul_zero, Nat.zero_add, hl]
      cases lit s far
      · simp [upB_zero]
      · simp
  | cons c ys ih =>
    intro k g s x far hI hl hx hy hf hi
    have Lc := hy c (by simp)
    have hys : ∀ a ∈ ys, isL g.n a := fun a ha => hy a (by simp [ha])
    by_cases hk : k < 7 ∧ 2 ^ k < x.length
    · obtain ⟨s1, i1, t1, n1, L1, v1⟩ := chooseG_ok hI Lc (upL_isL (k := 2 ^ k) hx hi) hx (upL_len _ _ _)
      rw [upL_len, hl] at n1
      have l1 : (chooseG g c (upL x (2 ^ k) i) x).2.length = n := by unfold chooseG; rw [zipG_len _ _ _ _ (upL_len _ _ _), upL_len, hl]
      obtain ⟨s2, i2, t2, n2, L2, l2, v2⟩ := ih (k + 1) _ s1 _ far i1 l1 L1 (fun a h => t1.isL (hys a h)) (t1.isL hf) (t1.isL hi)
      have e : shiftG g x (c :: ys) k far i = shiftG (chooseG g c (upL x (2 ^ k) i) x).1 (chooseG g c (upL x (2 ^ k) i) x).2 ys (k + 1) far i := by
        show (if k < 7 ∧ 2 ^ k < x.length then _ else _) = _
        rw [if_pos hk]
      rw [e]
      refine ⟨s2, i2, t1.trans t2, ?_, L2, l2, ?_⟩
      · rw [List.length_cons, Nat.mul_add]; omega
      · rw [v2, v1, numS t1 hys, t1.lit hf, t1.lit hi, num_cons, upL_lit]
        have ex : (if lit s c = true then upB (x.map (lit s)) (2 ^ k) (lit s i) else x.map (lit s)) = upB (x.map (lit s)) (2 ^ k * (lit s c).toNat) (lit s i) := by
          cases lit s c
          · simp [upB_zero]
          · simp
        rw [ex, upB_add]
        congr 1
        rw [Nat.pow_succ, Nat.mul_add, Nat.mul_assoc]; omega
    · obtain ⟨s1, i1, t1, n1, L1, v1⟩ := either_ok hI hf Lc
      obtain ⟨s2, i2, t2, n2, L2, l2, v2⟩ := ih (k + 1) _ s1 x _ i1 hl (fun a h => t1.isL (hx a h)) (fun a h => t1.isL (hys a h)) L1 (t1.isL hi)
      have e : shiftG g x (c :: ys) k far i = shiftG (either g far c).1 x ys (k + 1) (either g far c).2 i := by
        show (if k < 7 ∧ 2 ^ k < x.length then _ else _) = _
        rw [if_neg hk]
      rw [e]
      refine ⟨s2, i2, t1.trans t2, ?_, L2, l2, ?_⟩
      · rw [List.length_cons, Nat.mul_add]; omega
      · have hbig : n ≤ 2 ^ k := by
          rcases Nat.lt_or_ge k 7 with h | h
          · have : ¬ 2 ^ k < x.length := fun h' => hk ⟨h, h'⟩
            omega
          · have : 2 ^ 7 ≤ 2 ^ k := Nat.pow_le_pow_right (by decide) h
            omega
        rw [v2, v1, step_map t1 hx, numS t1 hys, t1.lit hi, num_cons]
        cases hc : lit s c
        · simp only [Bool.or_false, Bool.toNat_false, Nat.zero_add]
          congr 1
          rw [Nat.pow_succ, Nat.mul_assoc]
        · have hlx : (x.map (lit s)).length = n := by rw [List.length_map, hl]
          rw [upB_big _ _ (by rw [hlx]; simp), upB_big _ _ (by rw [hlx, Nat.mul_add, Bool.toNat_true, Nat.mul_one]; omega)]

end Go.Proofs.Ytmaogkgjiplckaa

set_option linter.unusedSimpArgs false
set_option linter.unusedVariables false
namespace Go.Proofs.Ytmaogkgjiplckaa
open Go.RowKit
theorem bv_upB0 (l : List Bool) (j : Nat) : bv (upB l j false) = 2 ^ j * bv l % 2 ^ l.length := by unfold upB; rw [bv_take, bv_rep0]
theorem bv_skip : ∀ (l : List Bool) (j : Nat), bv (l.drop j) = bv l / 2 ^ j := by
  intro l
  induction l with
  | nil => intro j; simp [bv]
  | cons b l ih =>
    intro j
    rcases j with _ | j
    · simp
    · rw [List.drop_succ_cons, ih, bv, Nat.pow_succ, Nat.mul_comm (2 ^ j) 2, ← Nat.div_div_eq_div_mul]
      have e : ((if b = true then 1 else 0) + 2 * bv l) / 2 = bv l := by cases b <;> simp <;> omega
      rw [e]
theorem rev_upB (l : List Bool) (j : Nat) (b : Bool) : (upB l.reverse j b).reverse = l.drop j ++ List.replicate (min j l.length) b := by
  unfold upB
  rw [List.reverse_take, List.reverse_append, List.reverse_reverse, List.reverse_replicate, List.length_append, List.length_replicate, List.length_reverse, Nat.add_sub_cancel, List.drop_append, List.drop_replicate]
  congr 2
  omega
theorem bv_snoc0 : ∀ (l : List Bool) (m : Nat), bv (l ++ List.replicate m false) = bv l := by
  intro l
  induction l with
  | nil =>
    intro m
    induction m with
    | zero => rfl
    | succ m ih => rw [List.nil_append] at ih ⊢; rw [List.replicate_succ]; show (if false = true then 1 else 0) + 2 * bv (List.replicate m false) = 0; rw [ih]; rfl
  | cons b l ih => intro m; rw [List.cons_append, bv, bv, ih]
/-- a word moved down -/
theorem bv_down (l : List Bool) (j : Nat) : bv ((upB l.reverse j false).reverse) = bv l / 2 ^ j := by rw [rev_upB, bv_snoc0, bv_skip]

end Go.Proofs.Ytmaogkgjiplckaa

