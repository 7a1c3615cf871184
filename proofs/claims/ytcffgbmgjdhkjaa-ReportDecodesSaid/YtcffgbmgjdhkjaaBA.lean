import Derived.Test.YtcffgbmgjdhkjaaAZ
set_option linter.unusedSimpArgs false
set_option linter.unusedVariables false
namespace Go.Proofs.Ytcffgbmgjdhkjaa
open Go.RowKit

/-! what is read is written as it was: of any bytes -/
theorem beI_beV' : ∀ (n : Nat) (l : List Int), l.length = n → ByteL l → beI (beV l) n = l := by
  intro n
  induction n with
  | zero => intro l hl _; rw [List.length_eq_zero_iff.1 hl]; rfl
  | succ n ih =>
    intro l hl h
    have hne : l ≠ [] := by intro e; subst e; simp at hl
    obtain ⟨l', c, rfl⟩ : ∃ l' c, l = l' ++ [c] := ⟨l.dropLast, l.getLast hne, (List.dropLast_concat_getLast hne).symm⟩
    have hc := h c (by simp)
    have ih := ih l' (by simpa using hl) (fun x hx => h x (by simp [hx]))
    rw [beV_snoc, beI]
    rw [show (beV l' * 256 + c) / 256 = beV l' by omega, show (beV l' * 256 + c) % 256 = c by omega, ih]
theorem beI_beV (l : List Int) (h : ByteL l) : beI (beV l) l.length = l := beI_beV' _ l rfl h
theorem SubB_add (b : List Int) (a m n : Nat) : SubB b a (m + n) = SubB b a m ++ SubB b (a + m) n := by
  unfold SubB
  rw [List.take_add, List.drop_drop]
theorem SubB_zero (b : List Int) (a : Nat) : SubB b a 0 = [] := by simp [SubB]
theorem SubB_all (b : List Int) : SubB b 0 b.length = b := by simp [SubB]

theorem numP_enc {b : List Int} (hb : ByteL b) {p x q lo hi : Int} {n : Nat} (h : numP b p n lo hi = .ok x q) (h0 : 0 ≤ p) : q = p + n ∧ q ≤ b.length ∧ SubB b p.toNat n = beI x n ∧ lo ≤ x ∧ x ≤ hi ∧ 0 ≤ x := by
  obtain ⟨h1, h2, h3, h4, h5, _, h6⟩ := numP_ok hb h h0 (by omega)
  rw [Int.toNat_natCast] at h6
  refine ⟨h1, h2, ?_, h3, h4, h5⟩
  have hl : (SubB b p.toNat n).length = n := SubB_len (by omega)
  have := beI_beV (SubB b p.toNat n) (SubB_byte hb)
  rw [hl] at this
  rw [h6, this]

theorem nodeP_enc {b : List Int} (hb : ByteL b) {p q : Int} {d : Nd} (h : nodeP b p = .ok d q) (h0 : 0 ≤ p) : q = p + (nodeB d).length ∧ q ≤ b.length ∧ SubB b p.toNat (nodeB d).length = nodeB d := by
  rw [nodeB_len]
  unfold nodeP at h
  split at h
  · cases h
  rename_i x0 p0 e0
  have k0 := numP_enc (n := 1) hb e0 h0
  split at h
  · cases h
  rename_i x1 p1 e1
  have k1 := numP_enc (n := 1) hb e1 (by omega)
  split at h
  · cases h
  rename_i x2 p2 e2
  have k2 := numP_enc (n := 8) hb e2 (by omega)
  split at h
  · cases h
  rename_i x3 p3 e3
  have k3 := numP_enc (n := 3) hb e3 (by omega)
  split at h
  · cases h
  rename_i x4 p4 e4
  have k4 := numP_enc (n := 3) hb e4 (by omega)
  split at h
  · cases h
  rename_i x5 p5 e5
  have k5 := numP_enc (n := 3) hb e5 (by omega)
  injection h with h1 h2
  subst h1; subst h2
  refine ⟨by omega, by omega, ?_⟩
  rw [show (19 : Nat) = 1 + (1 + (8 + (3 + (3 + 3)))) from rfl]
  rw [SubB_add, SubB_add, SubB_add, SubB_add, SubB_add]
  rw [show p.toNat + 1 = p0.toNat by omega, show p0.toNat + 1 = p1.toNat by omega, show p1.toNat + 8 = p2.toNat by omega, show p2.toNat + 3 = p3.toNat by omega, show p3.toNat + 3 = p4.toNat by omega]
  rw [k0.2.2.1, k1.2.2.1, k2.2.2.1, k3.2.2.1, k4.2.2.1, k5.2.2.1]
  rfl

theorem manyP_enc {α : Type} {one : Int → PR α} {enc : α → List Int} {b : List Int} (H : ∀ p x q, one p = .ok x q → 0 ≤ p → q = p + (enc x).length ∧ q ≤ b.length ∧ SubB b p.toNat (enc x).length = enc x) :
    ∀ (n : Nat) (p : Int) (xs : List α) (q : Int), manyP one n p = .ok xs q → 0 ≤ p → p ≤ b.length → xs.length = n ∧ q = p + (xs.flatMap enc).length ∧ q ≤ b.length ∧ SubB b p.toNat (xs.flatMap enc).length = xs.flatMap enc := by
  intro n
  induction n with
  | zero =>
    intro p xs q h h0 hL
    simp only [manyP] at h
    injection h with e1 e2
    subst e1; subst e2
    exact ⟨rfl, by simp, hL, by simp [SubB]⟩
  | succ n ih =>
    intro p xs q h h0 hL
    simp only [manyP] at h
    split at h
    · cases h
    · rename_i x q1 e1
      have k1 := H _ _ _ e1 h0
      split at h
      · cases h
      · rename_i ys q2 e2
        injection h with e3 e4
        subst e3; subst e4
        have k2 := ih _ _ _ e2 (by omega) k1.2.1
        refine ⟨by simp [k2.1], ?_, k2.2.2.1, ?_⟩
        · rw [List.flatMap_cons, List.length_append]; omega
        · rw [List.flatMap_cons, List.length_append, SubB_add, k1.2.2, show p.toNat + (enc x).length = q1.toNat by omega, k2.2.2.2]

theorem manyP_all {α : Type} {one : Int → PR α} {P : α → Prop} {L : Int} (H : ∀ p x q, one p = .ok x q → 0 ≤ p → p ≤ L → P x ∧ 0 ≤ q ∧ q ≤ L) : ∀ (n : Nat) (p : Int) (xs : List α) (q : Int), manyP one n p = .ok xs q → 0 ≤ p → p ≤ L → ∀ x ∈ xs, P x := by
  intro n
  induction n with
  | zero => intro p xs q h _ _; simp only [manyP] at h; injection h with e1 e2; subst e1; simp
  | succ n ih =>
    intro p xs q h h0 hL
    simp only [manyP] at h
    split at h
    · cases h
    · rename_i x q1 e1
      obtain ⟨k1, k2, k3⟩ := H _ _ _ e1 h0 hL
      split at h
      · cases h
      · rename_i ys q2 e2
        injection h with e3 e4
        subst e3
        intro y hy
        rcases List.mem_cons.1 hy with rfl | hy
        · exact k1
        · exact ih _ _ _ e2 k2 k3 y hy

theorem preP_enc {b : List Int} (hb : ByteL b) {p q : Int} {x : Pr} (h : preP b p = .ok x q) (h0 : 0 ≤ p) : (q = p + (preB x).length ∧ q ≤ b.length ∧ SubB b p.toNat (preB x).length = preB x) ∧ preE x = 0 ∧ PrWf x := by
  unfold preP at h
  split at h
  · cases h
  rename_i n p0 e0
  have k0 := numP_enc (n := 1) hb e0 h0
  split at h
  · cases h
  rename_i path p1 e1
  have k1 := manyP_enc (enc := (beI · 1)) (b := b) (fun p x q h h0 => by have := numP_enc (n := 1) hb h h0; rw [beI_len]; exact ⟨this.1, this.2.1, this.2.2.1⟩) _ _ _ _ e1 (by omega) k0.2.1
  have w1 : ∀ x ∈ path, 0 ≤ x ∧ x ≤ 255 := manyP_all (L := b.length) (fun p x q h h0 _ => by have := numP_enc (n := 1) hb h h0; exact ⟨⟨this.2.2.2.1, this.2.2.2.2.1⟩, by omega, this.2.1⟩) _ _ _ _ e1 (by omega) k0.2.1
  split at h
  · cases h
  rename_i m p2 e2
  have k2 := numP_enc (n := 3) hb e2 (by omega)
  split at h
  · cases h
  rename_i term p3 e3
  have k3 := manyP_enc (enc := nodeB) (b := b) (fun p x q h h0 => nodeP_enc hb h h0) _ _ _ _ e3 (by omega) k2.2.1
  have w3 := nodes_wf hb _ _ _ _ e3 (by omega)
  split at h
  · cases h
  rename_i hq
  have hq : quest term = 0 := by simpa using hq
  split at h
  · cases h
  rename_i l p4 e4
  have k4 := numP_enc (n := 1) hb e4 (by omega)
  split at h
  · cases h
  rename_i hl
  injection h with h1 h2
  subst h1; subst h2
  have li : (SubB b p4.toNat l.toNat).length = l.toNat := SubB_len (by omega)
  have en : n = path.length := by omega
  have em : m = term.length := by omega
  have k1' : SubB b p0.toNat (pathB path).length = pathB path := k1.2.2.2
  have k1'' : p1 = p0 + (pathB path).length := k1.2.1
  have k3' : SubB b p2.toNat (termB term).length = termB term := k3.2.2.2
  have k3'' : p3 = p2 + (termB term).length := k3.2.1
  refine ⟨⟨?_, by omega, ?_⟩, ?_, ?_, w3, ?_⟩
  · unfold preB
    dsimp only
    simp only [List.length_append, beI_len, li]
    omega
  · unfold preB
    dsimp only
    rw [List.length_append, List.length_append, List.length_append, List.length_append, List.length_append]
    rw [SubB_add, SubB_add, SubB_add, SubB_add, SubB_add]
    simp only [beI_len, li]
    rw [show p.toNat + 1 = p0.toNat by omega, show p0.toNat + (pathB path).length = p1.toNat by omega, show p1.toNat + 3 = p2.toNat by omega, show p2.toNat + (termB term).length = p3.toNat by omega, show p3.toNat + 1 = p4.toNat by omega]
    rw [k0.2.2.1, k1', k2.2.2.1, k3', k4.2.2.1, en, em]
    rw [show ((l.toNat : Nat) : Int) = l by omega]
  · unfold preE
    dsimp only
    rw [if_neg, if_neg, hq, if_neg (by simp), if_neg (by omega)]
    · have : (path.all (inB · 0 255)) = true := by
        rw [List.all_eq_true]
        intro x hx
        simpa [inB] using w1 x hx
      rw [this]; simp
    · simp [inB]; omega
  · intro x hx
    have := w1 x hx
    dsimp only at *
    omega
  · intro x hx
    have := SubB_byte (a := p4.toNat) (n := l.toNat) hb x hx
    omega

theorem presB_mem {x : Pr} : ∀ {ps : List Pr}, x ∈ ps → (preB x).length ≤ (presB ps).length := by
  intro ps
  induction ps with
  | nil => intro hx; simp at hx
  | cons y ps ih =>
    intro hx
    have e : presB (y :: ps) = preB y ++ presB ps := by simp [presB]
    rw [e, List.length_append]
    rcases List.mem_cons.1 hx with rfl | hx
    · omega
    · have := ih hx
      omega
theorem readP_enc {b : List Int} (hb : ByteL b) {r : Rp} {q : Int} (h : readP b = .ok r q) (hl6 : b.length ≤ 6000) : repE r = 0 ∧ repB r = b ∧ RpWf r ∧ medB r.pres := by
  have hq := ok_le hb h
  unfold readP at h
  split at h
  · cases h
  split at h
  · cases h
  rename_i g0 g1
  have g1 : SubB b 0 4 = [66, 82, 82, 80] := by simpa using g1
  split at h
  · cases h
  rename_i v p0 e0
  have k0 := numP_enc (n := 1) hb e0 (by omega)
  split at h
  · cases h
  rename_i e p1 e1
  have k1 := numP_enc (n := 1) hb e1 (by omega)
  split at h
  · cases h
  rename_i a p2 e2
  have k2 := numP_enc (n := 2) hb e2 (by omega)
  split at h
  · cases h
  rename_i n p3 e3
  have k3 := numP_enc (n := 2) hb e3 (by omega)
  split at h
  · cases h
  rename_i ps p4 e4
  have k4 := manyP_enc (enc := preB) (b := b) (fun p x q h h0 => (preP_enc hb h h0).1) _ _ _ _ e4 (by omega) k3.2.1
  have w4 := manyP_all (P := fun x => preE x = 0 ∧ PrWf x) (L := b.length) (fun p x q h h0 _ => by have := preP_enc hb h h0; exact ⟨this.2, by omega, this.1.2.1⟩) _ _ _ _ e4 (by omega) k3.2.1
  have k4' : SubB b p3.toNat (presB ps).length = presB ps := k4.2.2.2
  have k4'' : p4 = p3 + (presB ps).length := k4.2.1
  split at h
  · cases h
  injection h with h1 h2
  subst h1; subst h2
  have en : n = ps.length := by omega
  have hE : ∀ ps : List Pr, (∀ x ∈ ps, preE x = 0 ∧ PrWf x) → presE ps = 0 := by
    intro ps
    induction ps with
    | nil => intro _; rfl
    | cons x ps ih => intro h; unfold presE; rw [if_neg (by simp [(h x (by simp)).1])]; exact ih fun y hy => h y (by simp [hy])
  refine ⟨?_, ?_, ⟨by dsimp only; omega, by dsimp only; omega, by dsimp only; omega, fun x hx => (w4 x hx).2⟩, by dsimp only; omega, ?_, by dsimp only; omega⟩
  · unfold repE
    dsimp only
    rw [if_neg (by simp [inB]; omega), if_neg (by simp [inB]; omega), if_neg (by simp [inB]; omega), if_neg (by omega)]
    exact hE ps w4
  · have hall : b = SubB b 0 (4 + (1 + (1 + (2 + (2 + (presB ps).length))))) := by
      have := SubB_all b
      rw [show b.length = 4 + (1 + (1 + (2 + (2 + (presB ps).length)))) by omega] at this
      exact this.symm
    rw [SubB_add, SubB_add, SubB_add, SubB_add, SubB_add] at hall
    rw [show 0 + 4 = Int.toNat 4 by rfl, show Int.toNat 4 + 1 = p0.toNat by omega, show p0.toNat + 1 = p1.toNat by omega, show p1.toNat + 2 = p2.toNat by omega, show p2.toNat + 2 = p3.toNat by omega] at hall
    rw [g1, k0.2.2.1, k1.2.2.1, k2.2.2.1, k3.2.2.1, k4'] at hall
    unfold repB
    dsimp only
    rw [en] at hall
    exact hall.symm
  · intro x hx
    have h1 := preE_zero (w4 x hx).1
    have h2 := presB_mem hx
    unfold preB at h2
    simp only [List.length_append, termB_len, beI_len] at h2
    exact ⟨by omega, by omega, by omega⟩

end Go.Proofs.Ytcffgbmgjdhkjaa
