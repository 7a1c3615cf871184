import Derived.Test.YtcffgbmgjdhkjaaE
set_option linter.unusedSimpArgs false
set_option linter.unusedVariables false
namespace Go.Proofs.Ytcffgbmgjdhkjaa
open Go.RowKit

theorem wide_iff {op wd a b c : Int} (h0 : 0 ≤ op) (h1 : op ≤ 24) (ha : 0 ≤ a) (hb : 0 ≤ b) : (widI op wd a b c = wd ∧ 0 ≤ wd) ↔ wideB op wd a b c = true := by
  have : op = 0 ∨ op = 1 ∨ op = 2 ∨ op = 3 ∨ op = 4 ∨ op = 5 ∨ op = 6 ∨ op = 7 ∨ op = 19 ∨ op = 20 ∨ op = 21 ∨ op = 22 ∨ op = 23 ∨ op = 24 ∨ (8 ≤ op ∧ op ≤ 18) := by omega
  rcases this with rfl | rfl | rfl | rfl | rfl | rfl | rfl | rfl | rfl | rfl | rfl | rfl | rfl | rfl | ⟨h2, h3⟩
  case inr.inr.inr.inr.inr.inr.inr.inr.inr.inr.inr.inr.inr.inr =>
    have e1 : wideB op wd a b c = (a != 0 && a == b && wd == a) := by
      have hk : ¬ kidsI op = 0 := by
        unfold kidsI
        rw [if_neg (by omega), if_neg (by omega), if_pos (by omega)]; decide
      unfold wideB
      rw [if_neg (by omega), if_neg (by omega), if_neg (by omega), if_neg (by omega), if_neg (by omega), if_neg (by omega), if_neg (by omega), if_neg hk]
    have e2 : widI op wd a b c = if a ≠ 0 ∧ a = b then a else -1 := by
      unfold widI
      rw [if_neg (by omega), if_neg (by omega), if_neg (by omega), if_neg (by omega), if_neg (by omega), if_neg (by omega), if_neg (by omega), if_neg (by omega), if_neg (by omega), if_neg (by omega), if_neg (by omega)]
    rw [e1, e2]
    simp only [Bool.and_eq_true, bne_iff_ne, beq_iff_eq]
    split <;> omega
  all_goals
    simp [widI, wideB, kidsI, leafB]
    try omega
    try (split <;> simp_all <;> omega)

theorem num_iff {op wd n a b c : Int} (hw : wideB op wd a b c = true) (hn : 0 ≤ n) (hn' : n < 18446744073709551616) : numB op wd n = !decide (mostI op wd < n) := by
  rw [Bool.eq_iff_iff]
  by_cases h0 : op = 0
  · have := wide0 (by rw [hw]; rfl) h0
    subst h0
    rcases this with rfl | rfl | rfl <;> simp [numB, mostI] <;> omega
  · simp only [numB, mostI, if_neg h0]
    split
    · simp; omega
    · split
      · simp; omega
      · simp; omega

end Go.Proofs.Ytcffgbmgjdhkjaa
