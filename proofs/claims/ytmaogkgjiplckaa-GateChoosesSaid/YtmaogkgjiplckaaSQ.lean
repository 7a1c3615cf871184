import Derived.Test.YtmaogkgjiplckaaSO
set_option linter.unusedSimpArgs false
set_option linter.unusedVariables false
namespace Go.Proofs.Ytmaogkgjiplckaa
open Go.RowKit
/-- two words of free variables, and a variable more -/
def gTwo (N : Nat) : G := addV (addV newG N) N
def gThree (N : Nat) : G := ⟨(gTwo N).n + 1, (gTwo N).cl, (gTwo N).an, (gTwo N).xo⟩
theorem two_plain (N X Y : Nat) : ∃ s, GI (gTwo N) (fromL newG.n N X ++ fromL (addV newG N).n N Y) s ∧ (∀ a ∈ freeL newG.n N, isL (gTwo N).n a) ∧ (∀ b ∈ freeL (addV newG N).n N, isL (gTwo N).n b) ∧ (freeL newG.n N).map (lit s) = (List.range N).map X.testBit ∧ (freeL (addV newG N).n N).map (lit s) = (List.range N).map Y.testBit := by
  obtain ⟨s1, h1, h2, h3⟩ := free_many newG_ok X N
  rw [List.nil_append] at h1
  obtain ⟨s2, h4, h5, h6⟩ := free_many h1 Y N
  have ia : ∀ a ∈ freeL newG.n N, isL (addV newG N).n a := freeL_isL _ _ _ (Nat.le_refl _)
  have ib : ∀ b ∈ freeL (addV newG N).n N, isL (gTwo N).n b := freeL_isL _ _ _ (Nat.le_refl _)
  refine ⟨s2, h4, fun a ha => h5.isL (ia a ha), ib, ?_, freeL_lit _ _ _ h6⟩
  rw [step_map h5 ia]
  exact freeL_lit _ _ _ h3
theorem chooses_plain (N X Y : Nat) (c : Bool) (z : Int) (hz : ((gTwo N).n : Int) + 1 = z) : ∃ s, GI (gThree N) (fromL newG.n N X ++ fromL (addV newG N).n N Y ++ [if c then z else -z]) s ∧ isL (gThree N).n z ∧ lit s z = c ∧ (∀ a ∈ freeL newG.n N, isL (gThree N).n a) ∧ (∀ b ∈ freeL (addV newG N).n N, isL (gThree N).n b) ∧ (freeL newG.n N).map (lit s) = (List.range N).map X.testBit ∧ (freeL (addV newG N).n N).map (lit s) = (List.range N).map Y.testBit := by
  obtain ⟨s1, h1, ia, ib, e1, e2⟩ := two_plain N X Y
  obtain ⟨s2, h4, h5, h6, h7, h8⟩ := free_ok h1 c
  rw [hz] at h4
  have ez : (free (gTwo N)).2 = z := hz
  rw [ez] at h7 h8
  exact ⟨s2, h4, h7, h8, fun a ha => h5.isL (ia a ha), fun b hb => h5.isL (ib b hb), by rw [step_map h5 ia]; exact e1, by rw [step_map h5 ib]; exact e2⟩
theorem choose_two {N X Y : Nat} {g : G} {fr : List Int} {s : Nat → Bool} {z : Int} {xs ys : List Int} (hI : GI g fr s) (hz : isL g.n z) (hx : ∀ a ∈ xs, isL g.n a) (hy : ∀ b ∈ ys, isL g.n b) (hxl : xs.length = N) (hyl : ys.length = N) (ex : xs.map (lit s) = (List.range N).map X.testBit) (ey : ys.map (lit s) = (List.range N).map Y.testBit) {r1 r2 : G × List Int} (h1 : chooseG g z xs ys = r1) (h2 : chooseG r1.1 (-z) xs ys = r2) :
    ∃ s4 s5, GI r1.1 fr s4 ∧ GI r2.1 fr s5 ∧ g.n ≤ r1.1.n ∧ r1.1.n ≤ g.n + 3 * N ∧ r1.1.n ≤ r2.1.n ∧ r2.1.n ≤ r1.1.n + 3 * N ∧ (∀ a ∈ r1.2, isL r2.1.n a) ∧ (∀ a ∈ r2.2, isL r2.1.n a) ∧ bv (r1.2.map (lit s5)) = (if lit s z then X else Y) % 2 ^ N ∧ bv (r2.2.map (lit s5)) = (if lit s z then Y else X) % 2 ^ N := by
  obtain ⟨s4, a1, a2, a3, a4, a5⟩ := chooseG_ok hI hz hx hy (by omega)
  rw [h1] at a1 a2 a3 a4 a5
  obtain ⟨s5, b1, b2, b3, b4, b5⟩ := chooseG_ok a1 (c := -z) (a2.isL hz.neg) (fun a h => a2.isL (hx a h)) (fun a h => a2.isL (hy a h)) (by omega)
  rw [h2] at b1 b2 b3 b4 b5
  refine ⟨s4, s5, a1, b1, a2.le, by rw [hxl] at a3; exact a3, b2.le, by rw [hxl] at b3; exact b3, fun a h => b2.isL (a4 a h), b4, ?_, ?_⟩
  · rw [step_map b2 a4, a5, ex, ey]
    cases lit s z <;> simp [bv_bits]
  · rw [b5, a2.lit hz.neg, lit_neg hz.1, step_map a2 hx, step_map a2 hy, ex, ey]
    cases lit s z <;> simp [bv_bits]

end Go.Proofs.Ytmaogkgjiplckaa
