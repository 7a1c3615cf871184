import Derived.Test.YtcffgbmgjdhkjaaAN
set_option linter.unusedSimpArgs false
set_option linter.unusedVariables false
namespace Go.Proofs.Ytcffgbmgjdhkjaa
open Go.RowKit

/-! of bytes that tell a report: no beginning tells one, a byte more is left, a fault lies within, what is read is written as it was -/

/-- where a fault lies -/
def BadAt (L E p : Int) : Prop := 0 ≤ p ∧ p ≤ L ∧ (p < L ∨ E = 1)
theorem numP_bad {b : List Int} {at' n lo hi E p : Int} (h : numP b at' n lo hi = .err E p) (h0 : 0 ≤ at') (hn : 1 ≤ n) : BadAt b.length E p := by
  rcases numP_err h with ⟨rfl, rfl⟩ | ⟨rfl, rfl, h2⟩
  · exact ⟨by omega, by omega, .inr rfl⟩
  · exact ⟨h0, by omega, .inl (by omega)⟩
theorem manyP_bad {α : Type} {one : Int → PR α} {L : Int} (h1 : ∀ p x q, one p = .ok x q → 0 ≤ p → p ≤ L → 0 ≤ q ∧ q ≤ L) (h2 : ∀ p E q, one p = .err E q → 0 ≤ p → p ≤ L → BadAt L E q) :
    ∀ (n : Nat) (p E q : Int), manyP one n p = .err E q → 0 ≤ p → p ≤ L → BadAt L E q := by
  intro n
  induction n with
  | zero => intro p E q h; simp [manyP] at h
  | succ n ih =>
    intro p E q h h0 hL
    simp only [manyP] at h
    split at h
    · rename_i E' q' e1
      injection h with a1 a2
      subst a1; subst a2
      exact h2 _ _ _ e1 h0 hL
    · rename_i x q1 e1
      have k1 := h1 _ _ _ e1 h0 hL
      split at h
      · rename_i E' q' e2
        injection h with a1 a2
        subst a1; subst a2
        exact ih _ _ _ e2 k1.1 k1.2
      · cases h
theorem manyP_n2 {α : Type} {one : Int → PR α} {L : Int} (h1 : ∀ p x q, one p = .ok x q → 0 ≤ p → p ≤ L → 0 ≤ q ∧ q ≤ L) : ∀ (n : Nat) (p : Int) (xs : List α) (q : Int), manyP one n p = .ok xs q → 0 ≤ p → p ≤ L → xs.length = n ∧ 0 ≤ q ∧ q ≤ L := by
  intro n
  induction n with
  | zero => intro p xs q h h0 hL; simp only [manyP] at h; injection h with e1 e2; subst e1; subst e2; exact ⟨rfl, h0, hL⟩
  | succ n ih =>
    intro p xs q h h0 hL
    simp only [manyP] at h
    split at h
    · cases h
    · rename_i x q1 e1
      have k1 := h1 _ _ _ e1 h0 hL
      split at h
      · cases h
      · rename_i ys q2 e2
        injection h with e3 e4
        subst e3; subst e4
        have k2 := ih _ _ _ e2 k1.1 k1.2
        exact ⟨by simp [k2.1], k2.2⟩
theorem pathP_n {b : List Int} (hb : ByteL b) (p x q : Int) (h : pathP b p = .ok x q) (h0 : 0 ≤ p) (_ : p ≤ b.length) : 0 ≤ q ∧ q ≤ b.length := by
  have := numP_n hb h h0 (by decide)
  omega
theorem nodeP_bad {b : List Int} (hb : ByteL b) {p E q : Int} (h : nodeP b p = .err E q) (h0 : 0 ≤ p) : BadAt b.length E q := by
  unfold nodeP at h
  split at h
  · rename_i e0; injection h with a1 a2; subst a1; subst a2; exact numP_bad e0 h0 (by decide)
  rename_i x0 p0 e0
  have k0 := numP_n hb e0 h0 (by decide)
  split at h
  · rename_i e1; injection h with a1 a2; subst a1; subst a2; exact numP_bad e1 k0.1 (by decide)
  rename_i x1 p1 e1
  have k1 := numP_n hb e1 k0.1 (by decide)
  split at h
  · rename_i e2; injection h with a1 a2; subst a1; subst a2; exact numP_bad e2 k1.1 (by decide)
  rename_i x2 p2 e2
  have k2 := numP_n hb e2 k1.1 (by decide)
  split at h
  · rename_i e3; injection h with a1 a2; subst a1; subst a2; exact numP_bad e3 k2.1 (by decide)
  rename_i x3 p3 e3
  have k3 := numP_n hb e3 k2.1 (by decide)
  split at h
  · rename_i e4; injection h with a1 a2; subst a1; subst a2; exact numP_bad e4 k3.1 (by decide)
  rename_i x4 p4 e4
  have k4 := numP_n hb e4 k3.1 (by decide)
  split at h
  · rename_i e5; injection h with a1 a2; subst a1; subst a2; exact numP_bad e5 k4.1 (by decide)
  · cases h
theorem preP_bad {b : List Int} (hb : ByteL b) {p E q : Int} (h : preP b p = .err E q) (h0 : 0 ≤ p) : BadAt b.length E q := by
  unfold preP at h
  split at h
  · rename_i e0; injection h with a1 a2; subst a1; subst a2; exact numP_bad e0 h0 (by decide)
  rename_i n p0 e0
  have k0 := numP_n hb e0 h0 (by decide)
  split at h
  · rename_i e1; injection h with a1 a2; subst a1; subst a2
    exact manyP_bad (pathP_n hb) (fun p E q h h0 _ => numP_bad h h0 (by decide)) _ _ _ _ e1 k0.1 k0.2.1
  rename_i path p1 e1
  have k1 := manyP_n (L := b.length) (fun p x q h h0 => by have := numP_n hb h h0 (by decide); omega) _ _ _ _ e1 k0.1 k0.2.1
  split at h
  · rename_i e2; injection h with a1 a2; subst a1; subst a2; exact numP_bad e2 k1.2.1 (by decide)
  rename_i m p2 e2
  have k2 := numP_n hb e2 k1.2.1 (by decide)
  have j2 := (numP_ok hb e2 k1.2.1 (by decide)).1
  split at h
  · rename_i e3; injection h with a1 a2; subst a1; subst a2
    exact manyP_bad (fun p x q h h0 _ => nodeP_n hb h h0) (fun p E q h h0 _ => nodeP_bad hb h h0) _ _ _ _ e3 k2.1 k2.2.1
  rename_i term p3 e3
  have k3 := manyP_n (L := b.length) (fun p x q h h0 => nodeP_n hb h h0) _ _ _ _ e3 k2.1 k2.2.1
  split at h
  · injection h with a1 a2; subst a1; subst a2; exact ⟨k1.2.1, by omega, .inl (by omega)⟩
  split at h
  · rename_i e4; injection h with a1 a2; subst a1; subst a2; exact numP_bad e4 k3.2.1 (by decide)
  split at h
  · injection h with a1 a2; subst a1; subst a2; exact ⟨by omega, by omega, .inr rfl⟩
  · cases h
theorem readP_bad {b : List Int} (hb : ByteL b) {E q : Int} (h : readP b = .err E q) : BadAt b.length E q := by
  unfold readP at h
  split at h
  · injection h with a1 a2; subst a1; subst a2; exact ⟨by omega, by omega, .inr rfl⟩
  split at h
  · injection h with a1 a2; subst a1; subst a2; exact ⟨by omega, by omega, .inl (by omega)⟩
  split at h
  · rename_i e0; injection h with a1 a2; subst a1; subst a2; exact numP_bad e0 (by decide) (by decide)
  rename_i v p0 e0
  have k0 := numP_n hb e0 (by decide) (by decide)
  split at h
  · rename_i e1; injection h with a1 a2; subst a1; subst a2; exact numP_bad e1 k0.1 (by decide)
  rename_i e p1 e1
  have k1 := numP_n hb e1 k0.1 (by decide)
  split at h
  · rename_i e2; injection h with a1 a2; subst a1; subst a2; exact numP_bad e2 k1.1 (by decide)
  rename_i a p2 e2
  have k2 := numP_n hb e2 k1.1 (by decide)
  split at h
  · rename_i e3; injection h with a1 a2; subst a1; subst a2; exact numP_bad e3 k2.1 (by decide)
  rename_i n p3 e3
  have k3 := numP_n hb e3 k2.1 (by decide)
  split at h
  · rename_i e4; injection h with a1 a2; subst a1; subst a2
    exact manyP_bad (fun p x q h h0 h1 => preP_n hb h h0 h1) (fun p E q h h0 _ => preP_bad hb h h0) _ _ _ _ e4 k3.1 k3.2.1
  rename_i ps p4 e4
  have k4 := (manyP_n2 (L := b.length) (fun p x q h h0 h1 => preP_n hb h h0 h1) _ _ _ _ e4 k3.1 k3.2.1).2
  split at h
  · rename_i hlt; injection h with a1 a2; subst a1; subst a2; exact ⟨k4.1, k4.2, .inl hlt⟩
  · cases h

/-! longer bytes, and shorter -/
theorem SubB_ext {c r : List Int} {a n : Nat} (h : a + n ≤ c.length) : SubB (c ++ r) a n = SubB c a n := by
  unfold SubB
  rw [List.drop_append_of_le_length (by omega), List.take_append_of_le_length (by rw [List.length_drop]; omega)]
theorem numP_ext {c r : List Int} {at' n lo hi x p : Int} (h : numP c at' n lo hi = .ok x p) (h0 : 0 ≤ at') (hn : 0 ≤ n) : numP (c ++ r) at' n lo hi = .ok x p := by
  unfold numP at h ⊢
  split at h
  · cases h
  rename_i g
  rw [SubB_ext (by omega), if_neg (by rw [List.length_append]; omega)]
  exact h
theorem numP_cut {c r : List Int} {at' n lo hi x p : Int} (h : numP (c ++ r) at' n lo hi = .ok x p) (h0 : 0 ≤ at') (hn : 0 ≤ n) : (p ≤ c.length ∧ numP c at' n lo hi = .ok x p) ∨ numP c at' n lo hi = .err 1 c.length := by
  unfold numP at h ⊢
  by_cases g : (c.length : Int) - at' < n
  · right; rw [if_pos g]
  · left
    rw [if_neg (by rw [List.length_append]; omega), SubB_ext (by omega)] at h
    rw [if_neg g]
    refine ⟨?_, h⟩
    split at h
    · cases h
    · injection h with h1 h2; omega
theorem manyP_ext {α : Type} {one two : Int → PR α} (H : ∀ p x q, one p = .ok x q → 0 ≤ p → two p = .ok x q ∧ 0 ≤ q) : ∀ (n : Nat) (p : Int) (xs : List α) (q : Int), manyP one n p = .ok xs q → 0 ≤ p → manyP two n p = .ok xs q := by
  intro n
  induction n with
  | zero => intro p xs q h _; simpa only [manyP] using h
  | succ n ih =>
    intro p xs q h h0
    simp only [manyP] at h ⊢
    split at h
    · cases h
    · rename_i x q1 e1
      obtain ⟨k1, k2⟩ := H _ _ _ e1 h0
      split at h
      · cases h
      · rename_i ys q2 e2
        rw [k1]; dsimp only
        rw [ih _ _ _ e2 k2]; exact h
theorem manyP_ext2 {α : Type} {one two : Int → PR α} {L : Int} (H : ∀ p x q, one p = .ok x q → 0 ≤ p → p ≤ L → two p = .ok x q ∧ 0 ≤ q ∧ q ≤ L) : ∀ (n : Nat) (p : Int) (xs : List α) (q : Int), manyP one n p = .ok xs q → 0 ≤ p → p ≤ L → manyP two n p = .ok xs q := by
  intro n
  induction n with
  | zero => intro p xs q h _ _; simpa only [manyP] using h
  | succ n ih =>
    intro p xs q h h0 hL
    simp only [manyP] at h ⊢
    split at h
    · cases h
    · rename_i x q1 e1
      obtain ⟨k1, k2, k3⟩ := H _ _ _ e1 h0 hL
      split at h
      · cases h
      · rename_i ys q2 e2
        rw [k1]; dsimp only
        rw [ih _ _ _ e2 k2 k3]; exact h
theorem manyP_cut {α : Type} {one two : Int → PR α} {L : Int} (H : ∀ p x q, one p = .ok x q → 0 ≤ p → p ≤ L → 0 ≤ q ∧ ((q ≤ L ∧ two p = .ok x q) ∨ two p = .err 1 L)) : ∀ (n : Nat) (p : Int) (xs : List α) (q : Int), manyP one n p = .ok xs q → 0 ≤ p → p ≤ L → (q ≤ L ∧ manyP two n p = .ok xs q) ∨ manyP two n p = .err 1 L := by
  intro n
  induction n with
  | zero => intro p xs q h _ hL; simp only [manyP] at h ⊢; injection h with e1 e2; subst e1; subst e2; exact .inl ⟨hL, rfl⟩
  | succ n ih =>
    intro p xs q h h0 hL
    simp only [manyP] at h ⊢
    split at h
    · cases h
    · rename_i x q1 e1
      split at h
      · cases h
      · rename_i ys q2 e2
        injection h with e3 e4
        subst e3; subst e4
        obtain ⟨k0, ⟨k1, k2⟩ | k2⟩ := H _ _ _ e1 h0 hL
        · rw [k2]; dsimp only
          rcases ih _ _ _ e2 k0 k1 with ⟨k3, k4⟩ | k4
          · rw [k4]; exact .inl ⟨k3, rfl⟩
          · rw [k4]; exact .inr rfl
        · rw [k2]; exact .inr rfl
theorem nodeP_ext {c r : List Int} (hb : ByteL c) {p : Int} {x : Nd} {q : Int} (h : nodeP c p = .ok x q) (h0 : 0 ≤ p) : nodeP (c ++ r) p = .ok x q := by
  unfold nodeP at h ⊢
  split at h
  · cases h
  rename_i x0 p0 e0
  have k0 := numP_n hb e0 h0 (by decide)
  rw [numP_ext e0 h0 (by decide)]; dsimp only
  split at h
  · cases h
  rename_i x1 p1 e1
  have k1 := numP_n hb e1 k0.1 (by decide)
  rw [numP_ext e1 k0.1 (by decide)]; dsimp only
  split at h
  · cases h
  rename_i x2 p2 e2
  have k2 := numP_n hb e2 k1.1 (by decide)
  rw [numP_ext e2 k1.1 (by decide)]; dsimp only
  split at h
  · cases h
  rename_i x3 p3 e3
  have k3 := numP_n hb e3 k2.1 (by decide)
  rw [numP_ext e3 k2.1 (by decide)]; dsimp only
  split at h
  · cases h
  rename_i x4 p4 e4
  have k4 := numP_n hb e4 k3.1 (by decide)
  rw [numP_ext e4 k3.1 (by decide)]; dsimp only
  split at h
  · cases h
  rename_i x5 p5 e5
  rw [numP_ext e5 k4.1 (by decide)]
  exact h
theorem preP_ext {c r : List Int} (hb : ByteL c) {p : Int} {x : Pr} {q : Int} (h : preP c p = .ok x q) (h0 : 0 ≤ p) : preP (c ++ r) p = .ok x q := by
  unfold preP at h ⊢
  split at h
  · cases h
  rename_i n p0 e0
  have k0 := numP_n hb e0 h0 (by decide)
  rw [numP_ext e0 h0 (by decide)]; dsimp only
  split at h
  · cases h
  rename_i path p1 e1
  have k1 := manyP_n (L := c.length) (fun p x q h h0 => by have := numP_n hb h h0 (by decide); omega) _ _ _ _ e1 k0.1 k0.2.1
  rw [manyP_ext (two := pathP (c ++ r)) (fun p x q h h0 => ⟨numP_ext h h0 (by decide), (numP_n hb h h0 (by decide)).1⟩) _ _ _ _ e1 k0.1]; dsimp only
  split at h
  · cases h
  rename_i m p2 e2
  have k2 := numP_n hb e2 k1.2.1 (by decide)
  rw [numP_ext e2 k1.2.1 (by decide)]; dsimp only
  split at h
  · cases h
  rename_i term p3 e3
  have k3 := manyP_n (L := c.length) (fun p x q h h0 => nodeP_n hb h h0) _ _ _ _ e3 k2.1 k2.2.1
  rw [manyP_ext (two := nodeP (c ++ r)) (fun p x q h h0 => ⟨nodeP_ext hb h h0, (nodeP_n hb h h0).1⟩) _ _ _ _ e3 k2.1]; dsimp only
  split at h
  · cases h
  rename_i hq
  rw [if_neg hq]
  split at h
  · cases h
  rename_i l p4 e4
  have k4 := numP_n hb e4 k3.2.1 (by decide)
  rw [numP_ext e4 k3.2.1 (by decide)]; dsimp only
  split at h
  · cases h
  rename_i hl
  rw [if_neg (by rw [List.length_append]; omega), SubB_ext (by omega)]
  exact h
theorem ok_le {b : List Int} (hb : ByteL b) {r : Rp} {q : Int} (h : readP b = .ok r q) : q = b.length := by
  unfold readP at h
  split at h
  · cases h
  split at h
  · cases h
  split at h
  · cases h
  rename_i v p0 e0
  have k0 := numP_n hb e0 (by decide) (by decide)
  split at h
  · cases h
  rename_i e p1 e1
  have k1 := numP_n hb e1 k0.1 (by decide)
  split at h
  · cases h
  rename_i a p2 e2
  have k2 := numP_n hb e2 k1.1 (by decide)
  split at h
  · cases h
  rename_i n p3 e3
  have k3 := numP_n hb e3 k2.1 (by decide)
  split at h
  · cases h
  rename_i ps p4 e4
  have k4 := (manyP_n2 (L := b.length) (fun p x q h h0 h1 => preP_n hb h h0 h1) _ _ _ _ e4 k3.1 k3.2.1).2
  split at h
  · cases h
  · injection h with h1 h2; omega
/-- a byte more is left -/
theorem read_more {b : List Int} (hb : ByteL b) {r : Rp} {q : Int} (h : readP b = .ok r q) (m : Int) : readP (b ++ [m]) = .err 6 b.length := by
  have hq := ok_le hb h
  unfold readP at h ⊢
  have hl : ((b ++ [m]).length : Int) = b.length + 1 := by simp
  split at h
  · cases h
  rename_i g0
  rw [if_neg (by rw [List.length_append]; omega), SubB_ext (by omega)]
  split at h
  · cases h
  rename_i g1
  rw [if_neg g1]
  split at h
  · cases h
  rename_i v p0 e0
  have k0 := numP_n hb e0 (by decide) (by decide)
  rw [numP_ext e0 (by decide) (by decide)]; dsimp only
  split at h
  · cases h
  rename_i e p1 e1
  have k1 := numP_n hb e1 k0.1 (by decide)
  rw [numP_ext e1 k0.1 (by decide)]; dsimp only
  split at h
  · cases h
  rename_i a p2 e2
  have k2 := numP_n hb e2 k1.1 (by decide)
  rw [numP_ext e2 k1.1 (by decide)]; dsimp only
  split at h
  · cases h
  rename_i n p3 e3
  have k3 := numP_n hb e3 k2.1 (by decide)
  rw [numP_ext e3 k2.1 (by decide)]; dsimp only
  split at h
  · cases h
  rename_i ps p4 e4
  rw [manyP_ext2 (two := preP (b ++ [m])) (L := b.length) (fun p x q h h0 h1 => ⟨preP_ext hb h h0, preP_n hb h h0 h1⟩) _ _ _ _ e4 k3.1 k3.2.1]; dsimp only
  split at h
  · cases h
  · injection h with h1 h2
    rw [if_pos (by omega), h2, hq]
theorem nodeP_cut {c r : List Int} (hb : ByteL (c ++ r)) {p : Int} {x : Nd} {q : Int} (h : nodeP (c ++ r) p = .ok x q) (h0 : 0 ≤ p) : (q ≤ c.length ∧ nodeP c p = .ok x q) ∨ nodeP c p = .err 1 c.length := by
  unfold nodeP at h ⊢
  split at h
  · cases h
  rename_i x0 p0 e0
  have k0 := numP_n hb e0 h0 (by decide)
  rcases numP_cut e0 h0 (by decide) with ⟨l0, f0⟩ | f0
  rotate_left
  · rw [f0]; exact .inr rfl
  rw [f0]; dsimp only
  split at h
  · cases h
  rename_i x1 p1 e1
  have k1 := numP_n hb e1 k0.1 (by decide)
  rcases numP_cut e1 k0.1 (by decide) with ⟨l1, f1⟩ | f1
  rotate_left
  · rw [f1]; exact .inr rfl
  rw [f1]; dsimp only
  split at h
  · cases h
  rename_i x2 p2 e2
  have k2 := numP_n hb e2 k1.1 (by decide)
  rcases numP_cut e2 k1.1 (by decide) with ⟨l2, f2⟩ | f2
  rotate_left
  · rw [f2]; exact .inr rfl
  rw [f2]; dsimp only
  split at h
  · cases h
  rename_i x3 p3 e3
  have k3 := numP_n hb e3 k2.1 (by decide)
  rcases numP_cut e3 k2.1 (by decide) with ⟨l3, f3⟩ | f3
  rotate_left
  · rw [f3]; exact .inr rfl
  rw [f3]; dsimp only
  split at h
  · cases h
  rename_i x4 p4 e4
  have k4 := numP_n hb e4 k3.1 (by decide)
  rcases numP_cut e4 k3.1 (by decide) with ⟨l4, f4⟩ | f4
  rotate_left
  · rw [f4]; exact .inr rfl
  rw [f4]; dsimp only
  split at h
  · cases h
  rename_i x5 p5 e5
  rcases numP_cut e5 k4.1 (by decide) with ⟨l5, f5⟩ | f5
  rotate_left
  · rw [f5]; exact .inr rfl
  rw [f5]; dsimp only
  injection h with h1 h2
  subst h1; subst h2
  exact .inl ⟨l5, rfl⟩
theorem preP_cut {c r : List Int} (hb : ByteL (c ++ r)) {p : Int} {x : Pr} {q : Int} (h : preP (c ++ r) p = .ok x q) (h0 : 0 ≤ p) : (q ≤ c.length ∧ preP c p = .ok x q) ∨ preP c p = .err 1 c.length := by
  unfold preP at h ⊢
  split at h
  · cases h
  rename_i n p0 e0
  have k0 := numP_n hb e0 h0 (by decide)
  rcases numP_cut e0 h0 (by decide) with ⟨l0, f0⟩ | f0
  rotate_left
  · rw [f0]; exact .inr rfl
  rw [f0]; dsimp only
  split at h
  · cases h
  rename_i path p1 e1
  have k1 := manyP_n (L := (c ++ r).length) (fun p x q h h0 => by have := numP_n hb h h0 (by decide); omega) _ _ _ _ e1 k0.1 k0.2.1
  rcases manyP_cut (two := pathP c) (L := c.length) (fun p x q h h0 _ => ⟨(numP_n hb h h0 (by decide)).1, numP_cut h h0 (by decide)⟩) _ _ _ _ e1 k0.1 l0 with ⟨l1, f1⟩ | f1
  rotate_left
  · rw [f1]; exact .inr rfl
  rw [f1]; dsimp only
  split at h
  · cases h
  rename_i m p2 e2
  have k2 := numP_n hb e2 k1.2.1 (by decide)
  rcases numP_cut e2 k1.2.1 (by decide) with ⟨l2, f2⟩ | f2
  rotate_left
  · rw [f2]; exact .inr rfl
  rw [f2]; dsimp only
  split at h
  · cases h
  rename_i term p3 e3
  have k3 := manyP_n (L := (c ++ r).length) (fun p x q h h0 => nodeP_n hb h h0) _ _ _ _ e3 k2.1 k2.2.1
  rcases manyP_cut (two := nodeP c) (L := c.length) (fun p x q h h0 _ => ⟨(nodeP_n hb h h0).1, nodeP_cut hb h h0⟩) _ _ _ _ e3 k2.1 l2 with ⟨l3, f3⟩ | f3
  rotate_left
  · rw [f3]; exact .inr rfl
  rw [f3]; dsimp only
  split at h
  · cases h
  rename_i hq
  rw [if_neg hq]
  split at h
  · cases h
  rename_i l p4 e4
  have k4 := numP_n hb e4 k3.2.1 (by decide)
  rcases numP_cut e4 k3.2.1 (by decide) with ⟨l4, f4⟩ | f4
  rotate_left
  · rw [f4]; exact .inr rfl
  rw [f4]; dsimp only
  split at h
  · cases h
  rename_i hl
  by_cases g : (c.length : Int) - p4 < l
  · rw [if_pos g]; exact .inr rfl
  · rw [SubB_ext (by omega)] at h
    rw [if_neg g]
    injection h with h1 h2
    subst h1; subst h2
    exact .inl ⟨by omega, rfl⟩
/-- no beginning tells a report -/
theorem read_cut {c r : List Int} (hr : r ≠ []) (hb : ByteL (c ++ r)) {x : Rp} {q : Int} (h : readP (c ++ r) = .ok x q) : readP c = .err 1 c.length := by
  have hq := ok_le hb h
  have hlen : (c.length : Int) < (c ++ r).length := by
    have := List.length_pos_iff.2 hr
    rw [List.length_append]; omega
  unfold readP at h ⊢
  split at h
  · cases h
  rename_i g0
  split at h
  · cases h
  rename_i g1
  by_cases g : (c.length : Int) < 4
  · rw [if_pos (by omega)]
  rw [SubB_ext (by omega)] at g1
  rw [if_neg (by omega), if_neg g1]
  split at h
  · cases h
  rename_i v p0 e0
  have k0 := numP_n hb e0 (by decide) (by decide)
  rcases numP_cut e0 (by decide) (by decide) with ⟨l0, f0⟩ | f0
  rotate_left
  · rw [f0]
  rw [f0]; dsimp only
  split at h
  · cases h
  rename_i e p1 e1
  have k1 := numP_n hb e1 k0.1 (by decide)
  rcases numP_cut e1 k0.1 (by decide) with ⟨l1, f1⟩ | f1
  rotate_left
  · rw [f1]
  rw [f1]; dsimp only
  split at h
  · cases h
  rename_i a p2 e2
  have k2 := numP_n hb e2 k1.1 (by decide)
  rcases numP_cut e2 k1.1 (by decide) with ⟨l2, f2⟩ | f2
  rotate_left
  · rw [f2]
  rw [f2]; dsimp only
  split at h
  · cases h
  rename_i n p3 e3
  have k3 := numP_n hb e3 k2.1 (by decide)
  rcases numP_cut e3 k2.1 (by decide) with ⟨l3, f3⟩ | f3
  rotate_left
  · rw [f3]
  rw [f3]; dsimp only
  split at h
  · cases h
  rename_i ps p4 e4
  rcases manyP_cut (two := preP c) (L := c.length) (fun p x q h h0 h1 => ⟨(preP_n hb h h0 (by omega)).1, preP_cut hb h h0⟩) _ _ _ _ e4 k3.1 l3 with ⟨l4, f4⟩ | f4
  rotate_left
  · rw [f4]
  split at h
  · cases h
  · injection h with h1 h2; omega

end Go.Proofs.Ytcffgbmgjdhkjaa
