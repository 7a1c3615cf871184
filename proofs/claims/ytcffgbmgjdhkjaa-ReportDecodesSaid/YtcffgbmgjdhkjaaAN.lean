import Derived.Test.YtcffgbmgjdhkjaaAE
set_option linter.unusedSimpArgs false
set_option linter.unusedVariables false
namespace Go.Proofs.Ytcffgbmgjdhkjaa
open Go.RowKit

/-! what is written is read as it was -/
theorem SubB_at (pre x post : List Int) : SubB (pre ++ (x ++ post)) pre.length x.length = x := by
  unfold SubB
  rw [List.drop_left, List.take_left]

theorem beV_beI (n : Nat) : ∀ x : Int, 0 ≤ x → x < 256 ^ n → beV (beI x n) = x := by
  induction n with
  | zero => intro x h0 h1; simp at h1; simp [beI, beV]; omega
  | succ n ih =>
    intro x h0 h1
    rw [Int.pow_succ] at h1
    have h2 := ih (x / 256) (by omega) (by omega)
    rw [beI, beV_snoc, h2]
    omega

theorem numP_at (b pre post : List Int) (x : Int) (n : Nat) (at' N lo hi : Int) (hb : b = pre ++ (beI x n ++ post)) (ha : at' = pre.length) (hN : N = n) (h0 : 0 ≤ x) (h1 : x < 256 ^ n) (hl : lo ≤ x) (hh : x ≤ hi) : numP b at' N lo hi = .ok x (at' + N) := by
  subst hb; subst ha; subst hN
  have hs : SubB (pre ++ (beI x n ++ post)) ((pre.length : Int)).toNat ((n : Int)).toNat = beI x n := by
    rw [Int.toNat_natCast, Int.toNat_natCast]
    have := SubB_at pre (beI x n) post
    rwa [beI_len] at this
  unfold numP
  rw [hs, beV_beI n x h0 h1, if_neg, if_neg (by omega)]
  simp only [List.length_append, beI_len]
  omega

theorem app_assoc5 {α : Type} (a b c : List α) : a ++ (b ++ c) = (a ++ b) ++ c := by simp

theorem nodeP_at (b pre post : List Int) (d : Nd) (at' : Int) (hb : b = pre ++ (nodeB d ++ post)) (ha : at' = pre.length) (hd : NdSm d) : nodeP b at' = .ok d (at' + 19) := by
  obtain ⟨op, wd, n, k0, k1, k2⟩ := d
  obtain ⟨⟨a0, a1⟩, ⟨a2, a3⟩, ⟨a4, a5⟩, ⟨a6, a7⟩, ⟨a8, a9⟩, ⟨a10, a11⟩⟩ := hd
  dsimp only at a0 a1 a2 a3 a4 a5 a6 a7 a8 a9 a10 a11
  unfold nodeB at hb
  dsimp only at hb
  have e0 := numP_at b pre (beI wd 1 ++ (beI n 8 ++ (beI k0 3 ++ (beI k1 3 ++ (beI k2 3 ++ post))))) op 1 at' 1 0 255 (by rw [hb]; simp) ha rfl a0 (by omega) a0 a1
  have e1 := numP_at b (pre ++ beI op 1) (beI n 8 ++ (beI k0 3 ++ (beI k1 3 ++ (beI k2 3 ++ post)))) wd 1 (at' + 1) 1 0 255 (by rw [hb]; simp) (by rw [List.length_append, beI_len]; omega) rfl a2 (by omega) a2 a3
  have e2 := numP_at b (pre ++ (beI op 1 ++ beI wd 1)) (beI k0 3 ++ (beI k1 3 ++ (beI k2 3 ++ post))) n 8 (at' + 1 + 1) 8 0 18446744073709551615 (by rw [hb]; simp) (by simp only [List.length_append, beI_len]; omega) rfl a4 (by omega) a4 a5
  have e3 := numP_at b (pre ++ (beI op 1 ++ (beI wd 1 ++ beI n 8))) (beI k1 3 ++ (beI k2 3 ++ post)) k0 3 (at' + 1 + 1 + 8) 3 0 16777215 (by rw [hb]; simp) (by simp only [List.length_append, beI_len]; omega) rfl a6 (by omega) a6 a7
  have e4 := numP_at b (pre ++ (beI op 1 ++ (beI wd 1 ++ (beI n 8 ++ beI k0 3)))) (beI k2 3 ++ post) k1 3 (at' + 1 + 1 + 8 + 3) 3 0 16777215 (by rw [hb]; simp) (by simp only [List.length_append, beI_len]; omega) rfl a8 (by omega) a8 a9
  have e5 := numP_at b (pre ++ (beI op 1 ++ (beI wd 1 ++ (beI n 8 ++ (beI k0 3 ++ beI k1 3))))) post k2 3 (at' + 1 + 1 + 8 + 3 + 3) 3 0 16777215 (by rw [hb]; simp) (by simp only [List.length_append, beI_len]; omega) rfl a10 (by omega) a10 a11
  unfold nodeP
  rw [e0]; dsimp only; rw [e1]; dsimp only; rw [e2]; dsimp only; rw [e3]; dsimp only; rw [e4]; dsimp only; rw [e5]; dsimp only
  congr 1
  omega

theorem manyP_at {α : Type} (one : List Int → Int → PR α) (enc : α → List Int) (b : List Int) : ∀ (xs : List α) (pre post : List Int) (at' : Int), b = pre ++ (xs.flatMap enc ++ post) → at' = pre.length →
    (∀ x ∈ xs, ∀ pre post : List Int, b = pre ++ (enc x ++ post) → one b pre.length = .ok x (pre.length + (enc x).length)) → manyP (one b) xs.length at' = .ok xs (at' + (xs.flatMap enc).length) := by
  intro xs
  induction xs with
  | nil => intro pre post at' _ ha _; simp [manyP]
  | cons x xs ih =>
    intro pre post at' hb ha H
    have h1 := H x (by simp) pre (xs.flatMap enc ++ post) (by rw [hb]; simp)
    have h2 := ih (pre ++ enc x) post (at' + (enc x).length) (by rw [hb]; simp) (by rw [List.length_append]; omega) (fun y hy => H y (by simp [hy]))
    rw [List.length_cons]
    simp only [manyP, ha, h1]
    rw [ha] at h2
    rw [h2]
    dsimp only
    congr 1
    rw [List.flatMap_cons, List.length_append]
    omega

theorem preP_at (b pre post : List Int) (p : Pr) (at' : Int) (hb : b = pre ++ (preB p ++ post)) (ha : at' = pre.length) (hE : preE p = 0) (hwf : PrWf p) : preP b at' = .ok p (at' + (preB p).length) := by
  obtain ⟨⟨g0, g1⟩, hpa, hq, hin⟩ := preE_zero hE
  have hsm := tchk_sm (quest_tchk hq) hwf.2.1
  have htl := tchk_len (quest_tchk hq)
  have htp := List.length_pos_iff.2 (tchk_nil (quest_tchk hq))
  obtain ⟨path, term, input⟩ := p
  dsimp only at g0 g1 hpa hq hin hsm htl htp
  unfold preB at hb
  dsimp only at hb
  have e0 := numP_at b pre (pathB path ++ (beI term.length 3 ++ (termB term ++ (beI input.length 1 ++ (input ++ post))))) path.length 1 at' 1 1 65 (by rw [hb]; simp) ha rfl (by omega) (by omega) (by omega) (by omega)
  have e1 := manyP_at pathP (beI · 1) b path (pre ++ beI path.length 1) (beI term.length 3 ++ (termB term ++ (beI input.length 1 ++ (input ++ post)))) (at' + 1) (by rw [hb]; simp [pathB]) (by rw [List.length_append, beI_len]; omega) (fun x hx pre post hb => by
    have := hpa x hx
    have := numP_at b pre post x 1 pre.length 1 0 255 hb rfl rfl (by omega) (by omega) (by omega) (by omega)
    unfold pathP
    rw [this, beI_len]
    rfl)
  have l1 : (path.flatMap (beI · 1)).length = path.length := pathB_len path
  rw [l1] at e1
  have e2 := numP_at b (pre ++ (beI path.length 1 ++ pathB path)) (termB term ++ (beI input.length 1 ++ (input ++ post))) term.length 3 (at' + 1 + path.length) 3 1 65536 (by rw [hb]; simp) (by simp only [List.length_append, beI_len, pathB_len]; omega) rfl (by omega) (by omega) (by omega) (by omega)
  have e3 := manyP_at nodeP nodeB b term (pre ++ (beI path.length 1 ++ (pathB path ++ beI term.length 3))) (beI input.length 1 ++ (input ++ post)) (at' + 1 + path.length + 3) (by rw [hb]; simp [termB]) (by simp only [List.length_append, beI_len, pathB_len]; omega) (fun x hx pre post hb => by
    have := nodeP_at b pre post x pre.length hb rfl (hsm x hx)
    rw [this, nodeB_len]
    rfl)
  have l3 : (term.flatMap nodeB).length = 19 * term.length := termB_len term
  rw [l3] at e3
  have e4 := numP_at b (pre ++ (beI path.length 1 ++ (pathB path ++ (beI term.length 3 ++ termB term)))) (input ++ post) input.length 1 (at' + 1 + path.length + 3 + ((19 * term.length : Nat) : Int)) 1 0 16 (by rw [hb]; simp) (by simp only [List.length_append, beI_len, pathB_len, termB_len]; omega) rfl (by omega) (by omega) (by omega) (by omega)
  have e5 : SubB b (at' + 1 + path.length + 3 + ((19 * term.length : Nat) : Int) + 1).toNat ((input.length : Int)).toNat = input := by
    have hn : (at' + 1 + path.length + 3 + ((19 * term.length : Nat) : Int) + 1).toNat = (pre ++ (beI path.length 1 ++ (pathB path ++ (beI term.length 3 ++ (termB term ++ beI input.length 1))))).length := by
      simp only [List.length_append, beI_len, pathB_len, termB_len]; omega
    rw [hn, Int.toNat_natCast]
    have := SubB_at (pre ++ (beI path.length 1 ++ (pathB path ++ (beI term.length 3 ++ (termB term ++ beI input.length 1))))) input post
    have hb' : b = (pre ++ (beI path.length 1 ++ (pathB path ++ (beI term.length 3 ++ (termB term ++ beI input.length 1))))) ++ (input ++ post) := by rw [hb]; simp
    rw [hb']; exact this
  unfold preP
  rw [e0]; dsimp only
  rw [Int.toNat_natCast, e1]; dsimp only
  rw [e2]; dsimp only
  rw [Int.toNat_natCast, e3]; dsimp only
  rw [hq, if_neg (by simp), e4]; dsimp only
  rw [e5, if_neg]
  · congr 1
    simp only [preB, List.length_append, beI_len, pathB_len, termB_len]
    omega
  · rw [hb]
    simp only [List.length_append, beI_len, pathB_len, termB_len]
    omega

theorem readP_at (r : Rp) (hE : repE r = 0) (hwf : RpWf r) : readP (repB r) = .ok r (repB r).length := by
  obtain ⟨⟨d0, d1⟩, ⟨d2, d3⟩, ⟨d4, d5⟩, hpl, hE0⟩ := repE_zero hE
  have hps := hwf.2.2.2
  obtain ⟨v, e, a, ps⟩ := r
  dsimp only at d0 d1 d2 d3 d4 d5 hE0 hpl hps
  obtain ⟨b, hb⟩ : ∃ b, b = repB ⟨v, e, a, ps⟩ := ⟨_, rfl⟩
  rw [← hb]
  unfold repB at hb
  dsimp only at hb
  have e0 := numP_at b [66, 82, 82, 80] (beI e 1 ++ (beI a 2 ++ (beI ps.length 2 ++ presB ps))) v 1 4 1 1 5 hb rfl rfl (by omega) (by omega) (by omega) (by omega)
  have e1 := numP_at b ([66, 82, 82, 80] ++ beI v 1) (beI a 2 ++ (beI ps.length 2 ++ presB ps)) e 1 (4 + 1) 1 0 18 (by rw [hb]; simp) (by rw [List.length_append, beI_len]; rfl) rfl (by omega) (by omega) (by omega) (by omega)
  have e2 := numP_at b ([66, 82, 82, 80] ++ (beI v 1 ++ beI e 1)) (beI ps.length 2 ++ presB ps) a 2 (4 + 1 + 1) 2 0 65535 (by rw [hb]; simp) (by simp only [List.length_append, beI_len]; rfl) rfl (by omega) (by omega) (by omega) (by omega)
  have e3 := numP_at b ([66, 82, 82, 80] ++ (beI v 1 ++ (beI e 1 ++ beI a 2))) (presB ps) ps.length 2 (4 + 1 + 1 + 2) 2 0 4096 (by rw [hb]; simp) (by simp only [List.length_append, beI_len]; rfl) rfl (by omega) (by omega) (by omega) (by omega)
  have e4 := manyP_at preP preB b ps ([66, 82, 82, 80] ++ (beI v 1 ++ (beI e 1 ++ (beI a 2 ++ beI ps.length 2)))) [] (4 + 1 + 1 + 2 + 2) (by rw [hb]; simp [presB]) (by simp only [List.length_append, beI_len]; rfl) (fun x hx pre post hb => preP_at b pre post x pre.length hb rfl (hE0 x hx) (hps x hx))
  have hl : (b.length : Int) = 4 + 1 + 1 + 2 + 2 + (ps.flatMap preB).length := by
    rw [hb]
    simp only [List.length_append, beI_len, presB, List.length_cons, List.length_nil]
    omega
  have hs : SubB b 0 4 = [66, 82, 82, 80] := by rw [hb]; rfl
  unfold readP
  rw [if_neg (by omega), hs, if_neg (by simp), e0]; dsimp only
  rw [e1]; dsimp only
  rw [e2]; dsimp only
  rw [e3]; dsimp only
  rw [Int.toNat_natCast, e4]; dsimp only
  rw [if_neg (by omega), hl]

end Go.Proofs.Ytcffgbmgjdhkjaa
