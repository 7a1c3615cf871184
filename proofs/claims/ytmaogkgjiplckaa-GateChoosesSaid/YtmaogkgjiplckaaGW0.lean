import Derived.Test.YtmaogkgjiplckaaGV
set_option linter.unusedSimpArgs false
set_option linter.unusedVariables false
namespace Go.Proofs.Ytmaogkgjiplckaa
open Go.RowKit
def addV (g : G) (k : Nat) : G := ⟨g.n + k, g.cl, g.an, g.xo⟩
theorem free_many {g : G} {fr : List Int} {s : Nat → Bool} (h : GI g fr s) (x : Nat) : ∀ k, ∃ s', GI (addV g k) (fr ++ fromL g.n k x) s' ∧ Step g s (addV g k) s' ∧ ∀ i, i < k → s' (g.n + 1 + i) = x.testBit i := by
  intro k
  induction k with
  | zero => exact ⟨s, by simpa [fromL, addV] using h, ⟨Nat.le_refl _, fun _ _ => rfl⟩, fun i hi => absurd hi (by omega)⟩
  | succ k ih =>
    obtain ⟨s1, h1, h2, h3⟩ := ih
    obtain ⟨s2, h4, h5, h6, h7, h8⟩ := free_ok h1 (x.testBit k)
    refine ⟨s2, ?_, h2.trans h5, fun i hi => ?_⟩
    · rw [fromL_succ, ← List.append_assoc]
      have e : (if x.testBit k = true then ((addV g k).n + 1 : Int) else -((addV g k).n + 1 : Int)) = if x.testBit k = true then ((g.n + 1 + k : Nat) : Int) else -((g.n + 1 + k : Nat) : Int) := by
        have : ((addV g k).n : Int) + 1 = ((g.n + 1 + k : Nat) : Int) := by show ((g.n + k : Nat) : Int) + 1 = _; omega
        rw [this]
      rw [e] at h4
      exact h4
    · rcases Nat.lt_or_ge i k with hlt | hge
      · rw [h5.agree _ (by show _ ≤ g.n + k; omega)]
        exact h3 i hlt
      · obtain rfl : i = k := by omega
        have : lit s2 (free (addV g i)).2 = s2 (g.n + 1 + i) := by
          have e : (free (addV g i)).2 = ((g.n + 1 + i : Nat) : Int) := by show ((g.n + i : Nat) : Int) + 1 = _; omega
          rw [e]
          unfold lit
          rw [if_pos (by omega), Int.toNat_natCast]
        rw [← this]; exact h8
theorem freeL_lit {s : Nat → Bool} (n k x : Nat) (h : ∀ i, i < k → s (n + 1 + i) = x.testBit i) : (freeL n k).map (lit s) = (List.range k).map x.testBit := by
  unfold freeL
  rw [List.map_map]
  refine List.map_congr_left fun i hi => ?_
  rw [List.mem_range] at hi
  show lit s ((n + 1 + i : Nat) : Int) = _
  unfold lit
  rw [if_pos (by omega), Int.toNat_natCast, h i hi]
theorem freeL_isL (n k m : Nat) (h : n + k ≤ m) : ∀ x ∈ freeL n k, isL m x := by
  intro x hx
  unfold freeL at hx
  obtain ⟨i, hi, rfl⟩ := List.mem_map.1 hx
  rw [List.mem_range] at hi
  exact ⟨by omega, by omega, by omega⟩
theorem freeL_len (n k : Nat) : (freeL n k).length = k := by simp [freeL]
theorem fromL_len (n k x : Nat) : (fromL n k x).length = k := by simp [fromL]
theorem bv_bits : ∀ (w x : Nat), bv ((List.range w).map x.testBit) = x % 2 ^ w := by
  intro w
  induction w with
  | zero => intro x; simp [bv, Nat.mod_one]
  | succ w ih =>
    intro x
    rw [List.range_succ_eq_map, List.map_cons, bv, List.map_map]
    have : (List.range w).map (x.testBit ∘ Nat.succ) = (List.range w).map (x / 2).testBit := List.map_congr_left fun i _ => by show x.testBit (i + 1) = _; rw [Nat.testBit_succ]
    rw [this, ih, Nat.pow_succ, Nat.mul_comm (2 ^ w) 2, Nat.mod_mul, Nat.testBit_zero]
    rcases Nat.mod_two_eq_zero_or_one x with e | e <;> simp [e]

end Go.Proofs.Ytmaogkgjiplckaa
