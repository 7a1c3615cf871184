import Derived.Test.YtmaogkgjiplckaaGE
set_option linter.unusedSimpArgs false
set_option linter.unusedVariables false
namespace Go.Proofs.Ytmaogkgjiplckaa
open Go.RowKit

theorem rng_of {n : Nat} {x : Int} (h : isL n x) (hn : n ≤ 1048576) : -1048576 ≤ x ∧ x ≤ 1048576 := by obtain ⟨_, h1, h2⟩ := h; omega
theorem GR.n1 {X : Nat → Prop} {base : Nat} {w : World} {gb : Nat} {g : G} (h : GR X base w gb g) : g.n ≤ 1048576 := by obtain ⟨v, ma, mx, xs, h⟩ := h; exact h.n1

theorem both_any {X : Nat → Prop} {base gb : Nat} {g : G} (w : World) (h : GR X base w gb g) (hn : Hid (g.n < 1048576)) (hba : base ≤ w.heap.size) (x y : Int) (hx : Hid (isL g.n x)) (hy : Hid (isL g.n y)) (r : G × Int) (hr : Hid (both g x y = r)) :
    Calls Try.prog 64 #[.pointer (some ⟨gb, 0, none⟩), .int .i64 x, .int .i64 y] w fun e w' => e = .returned (.int .i64 r.2) ∧ GR X base w' gb r.1 ∧ Kept X w w' := by
  have bx := rng_of hx.out h.n1
  have by' := rng_of hy.out h.n1
  have hr := hr.out
  subst hr
  unfold both
  obtain ⟨a, ea⟩ : ∃ a, min x y = a := ⟨_, rfl⟩
  obtain ⟨b, eb⟩ : ∃ b, max x y = b := ⟨_, rfl⟩
  rw [ea, eb]
  rcases hk : bothKey a b with _ | r
  · have hab : (a = x ∧ b = y) ∨ (b = x ∧ a = y) := by omega
    obtain ⟨v, ma, mx, xs, h⟩ := h
    rcases hz : look g.an a b with _ | z
    · refine (both_new w h x y a b (by omega) (by omega) hab (by omega) hk hz hn.out hba _ rfl).mono ?_
      rintro e w' ⟨h1, h2, h3⟩
      have hb : bothS g a b = (⟨g.n + 1, g.cl ++ [[-(g.n + 1 : Int), a], [-(g.n + 1 : Int), b], [(g.n + 1 : Int), -a, -b]], g.an ++ [((a, b), (g.n + 1 : Int))], g.xo⟩, (g.n + 1 : Int)) := by unfold bothS; rw [hk]; dsimp only; rw [hz]
      rw [hb]
      exact ⟨h1, h2, h3⟩
    · refine (both_look w h x y a b (by omega) (by omega) hab (by omega) hk z hz).mono ?_
      rintro e w' ⟨h1, h2, h3⟩
      have hb : bothS g a b = (g, z) := by unfold bothS; rw [hk]; dsimp only; rw [hz]
      rw [hb]
      exact ⟨h1, ⟨_, _, _, _, h2⟩, h3⟩
  · refine (both_key w h x y a b r bx by' ea eb hk).mono ?_
    rintro e w' ⟨h1, rfl⟩
    have hb : bothS g a b = (g, r) := by unfold bothS; rw [hk]
    rw [hb]
    exact ⟨h1, h, Kept.refl _ _⟩

section
variable (X : Nat → Prop) (base gb : Nat) (g : G) (w : World) (a b sg : Int) (Q : Exit → Act → World → Prop)
variable (hQ : Hid (∀ (a' : Act) (w' : World) (r : Int), a'.defers = [] → a'.tmps.getD 6 undef = .int .i64 r → (r = (oddS g a b sg).2 ∧ GR X base w' gb (oddS g a b sg).1 ∧ Kept X w w') → Q .ret a' w'))
variable (hP : Hid (∀ (ch : List PanicEntry) (a a' : Act) (w : World), a.defers = a'.defers → Q (.panic ch) a w → Q (.panic ch) a' w))
variable {z3 z4 z5 z6 z8 z9 z10 z11 z12 z13 z14 z15 z16 z17 z18 z19 z20 z21 z22 z23 z24 z25 z26 z27 z28 z29 z30 z31 z32 z33 z34 z35 z36 z37 z38 z39 z40 z41 z42 z43 z44 z45 z46 z47 z48 z49 z50 z51 z52 z53 z54 z55 z56 z57 z58 z59 z60 z61 z62 z63 z64 z65 z66 z67 z68 z69 z70 z71 z72 z73 z74 z75 z76 z77 z78 z79 z80 z81 z82 z83 z84 z85 z86 z87 z88 z89 z90 z91 : Value}
set_option maxRecDepth 100000 in
include hQ hP in
theorem tail77_any (h : GR X base w gb g) (hn : Hid (g.n < 1048576)) (hba : base ≤ w.heap.size) (ha : 0 ≤ a ∧ a ≤ 1048576) (hb : 0 ≤ b ∧ b ≤ 1048576) (hs : sg = 1 ∨ sg = -1) (hx : Hid (∀ e ∈ g.xo, isL g.n e.2)) : Code.wp Try.prog tail77 Q ⟨#[.pointer (some ⟨gb, 0, none⟩), .int .i64 a, .int .i64 b, z3, z4, z5, z6, .int .i64 sg, z8, z9, z10, z11, z12, z13, z14, z15, z16, z17, z18, z19, z20, z21, z22, z23, z24, z25, z26, z27, z28, z29, z30, z31, z32, z33, z34, z35, z36, z37, z38, z39, z40, z41, z42, z43, z44, z45, z46, z47, z48, z49, z50, z51, z52, z53, z54, z55, z56, z57, z58, z59, z60, z61, z62, z63, z64, z65, z66, z67, z68, z69, z70, z71, z72, z73, z74, z75, z76, z77, z78, z79, z80, z81, z82, z83, z84, z85, z86, z87, z88, z89, z90, z91], []⟩ w := by
  rcases hk : oddKey a b sg with _ | r
  · have hn1 := h.n1
    obtain ⟨v, ma, mx, xs, h⟩ := h
    rcases hz : look g.xo a b with _ | z
    · exact tail77_new X base gb g w a b sg Q hQ hP h ha hb hs hk hz hn.out hba _ rfl
    · exact tail77_look X base gb g w a b sg Q hQ hP h ha hb hs hk z hz (rng_of (hx.out _ (look_mem hz)) hn1)
  · exact tail77_key X base gb g w a b sg Q hQ h ha hb hs r hk
end

set_option maxRecDepth 100000 in
set_option maxHeartbeats 1000000 in
theorem odd_any {X : Nat → Prop} {base gb : Nat} {g : G} (w : World) (h : GR X base w gb g) (hn : Hid (g.n < 1048576)) (hba : base ≤ w.heap.size) (x y : Int) (hx : Hid (isL g.n x)) (hy : Hid (isL g.n y)) (hxo : Hid (∀ e ∈ g.xo, isL g.n e.2)) (r : G × Int) (hr : Hid (odd g x y = r)) :
    Calls Try.prog 77 #[.pointer (some ⟨gb, 0, none⟩), .int .i64 x, .int .i64 y] w fun e w' => e = .returned (.int .i64 r.2) ∧ GR X base w' gb r.1 ∧ Kept X w w' := by
  have bx := rng_of hx.out h.n1
  have by' := rng_of hy.out h.n1
  have H := Lib.hid h
  have HBA := Lib.hid hba
  have key : ∀ (a b sg : Int), min (absI x) (absI y) = a → max (absI x) (absI y) = b → sgn2 x y = sg → Hid (oddS g a b sg = r) := fun a b sg e1 e2 e3 => Lib.hid (by have := hr.out; unfold odd at this; rw [e1, e2, e3] at this; exact this)
  have Key := Lib.hid key
  clear key h hba hr
  rcases Int.lt_or_le x 0 with h1 | h1 <;> rcases Int.lt_or_le y 0 with h2 | h2
  · rcases Int.lt_trichotomy (-x) (-y) with h3 | h3 | h3
    · have h3' : ¬ (-y) < (-x) := by omega
      have K := Key.out (-x) (-y) 1 (by unfold absI; rw [if_pos h1, if_pos h2]; omega) (by unfold absI; rw [if_pos h1, if_pos h2]; omega) (by unfold sgn2; rw [if_pos h1, if_pos h2]; rfl)
      go_enter Try.func77, Try.ntmps77
      (repeat (first | (with_reducible first | refine xA ?_ | refine xB ?_ | refine xC ?_ | refine xD ?_ | refine xH ?_ | refine xI rfl ?_ | refine xE ?_ | refine xF ?_ | refine xG ?_) | go_skip | go_guarded | (refine tail77_any X base gb g w (-x) (-y) 1 _ (Lib.hid fun a' w' r' hd h6 hp => bodyPost_ret (results_tmp rfl _ _ _) hd (by rw [h6, hp.1, K.out]; rw [K.out] at hp; exact ⟨rfl, hp.2⟩)) (Lib.hid fun _ _ _ _ e h => ⟨e ▸ h.1, h.2⟩) H.out hn HBA.out (by omega) (by omega) (.inl rfl) hxo) | go_values | go_skip | go_guarded | go_step | go_upon | go_back | ((with_reducible show Oper.upon _ _ _ _ _ _); go_simp) | (dsimp only)))
    · obtain rfl : x = y := by omega
      clear by' h3
      have K := Key.out (-x) (-x) 1 (by unfold absI; rw [if_pos h1]; omega) (by unfold absI; rw [if_pos h1]; omega) (by unfold sgn2; rw [if_pos h1]; rfl)
      go_enter Try.func77, Try.ntmps77
      (repeat (first | (with_reducible first | refine xA ?_ | refine xB ?_ | refine xC ?_ | refine xD ?_ | refine xH ?_ | refine xI rfl ?_ | refine xE ?_ | refine xF ?_ | refine xG ?_) | go_skip | go_guarded | (refine tail77_any X base gb g w (-x) (-x) 1 _ (Lib.hid fun a' w' r' hd h6 hp => bodyPost_ret (results_tmp rfl _ _ _) hd (by rw [h6, hp.1, K.out]; rw [K.out] at hp; exact ⟨rfl, hp.2⟩)) (Lib.hid fun _ _ _ _ e h => ⟨e ▸ h.1, h.2⟩) H.out hn HBA.out (by omega) (by omega) (.inl rfl) hxo) | go_values | go_skip | go_guarded | go_step | go_upon | go_back | ((with_reducible show Oper.upon _ _ _ _ _ _); go_simp) | (dsimp only)))
    · have h3' : ¬ (-x) < (-y) := by omega
      have K := Key.out (-y) (-x) 1 (by unfold absI; rw [if_pos h1, if_pos h2]; omega) (by unfold absI; rw [if_pos h1, if_pos h2]; omega) (by unfold sgn2; rw [if_pos h1, if_pos h2]; rfl)
      go_enter Try.func77, Try.ntmps77
      (repeat (first | (with_reducible first | refine xA ?_ | refine xB ?_ | refine xC ?_ | refine xD ?_ | refine xH ?_ | refine xI rfl ?_ | refine xE ?_ | refine xF ?_ | refine xG ?_) | go_skip | go_guarded | (refine tail77_any X base gb g w (-y) (-x) 1 _ (Lib.hid fun a' w' r' hd h6 hp => bodyPost_ret (results_tmp rfl _ _ _) hd (by rw [h6, hp.1, K.out]; rw [K.out] at hp; exact ⟨rfl, hp.2⟩)) (Lib.hid fun _ _ _ _ e h => ⟨e ▸ h.1, h.2⟩) H.out hn HBA.out (by omega) (by omega) (.inl rfl) hxo) | go_values | go_skip | go_guarded | go_step | go_upon | go_back | ((with_reducible show Oper.upon _ _ _ _ _ _); go_simp) | (dsimp only)))
  · rcases Int.lt_trichotomy (-x) y with h3 | h3 | h3
    · have h3' : ¬ y < (-x) := by omega
      have K := Key.out (-x) y (-1) (by unfold absI; rw [if_pos h1, if_neg (Int.not_lt.2 h2)]; omega) (by unfold absI; rw [if_pos h1, if_neg (Int.not_lt.2 h2)]; omega) (by unfold sgn2; rw [if_pos h1, if_neg (Int.not_lt.2 h2)]; rfl)
      go_enter Try.func77, Try.ntmps77
      (repeat (first | (with_reducible first | refine xA ?_ | refine xB ?_ | refine xC ?_ | refine xD ?_ | refine xH ?_ | refine xI rfl ?_ | refine xE ?_ | refine xF ?_ | refine xG ?_) | go_skip | go_guarded | (refine tail77_any X base gb g w (-x) y (-1) _ (Lib.hid fun a' w' r' hd h6 hp => bodyPost_ret (results_tmp rfl _ _ _) hd (by rw [h6, hp.1, K.out]; rw [K.out] at hp; exact ⟨rfl, hp.2⟩)) (Lib.hid fun _ _ _ _ e h => ⟨e ▸ h.1, h.2⟩) H.out hn HBA.out (by omega) (by omega) (.inr rfl) hxo) | go_values | go_skip | go_guarded | go_step | go_upon | go_back | ((with_reducible show Oper.upon _ _ _ _ _ _); go_simp) | (dsimp only)))
    · obtain rfl : y = -x := by omega
      clear by' h3
      have K := Key.out (-x) (-x) (-1) (by unfold absI; rw [if_pos h1, if_neg (Int.not_lt.2 h2)]; omega) (by unfold absI; rw [if_pos h1, if_neg (Int.not_lt.2 h2)]; omega) (by unfold sgn2; rw [if_pos h1, if_neg (Int.not_lt.2 h2)]; rfl)
      go_enter Try.func77, Try.ntmps77
      (repeat (first | (with_reducible first | refine xA ?_ | refine xB ?_ | refine xC ?_ | refine xD ?_ | refine xH ?_ | refine xI rfl ?_ | refine xE ?_ | refine xF ?_ | refine xG ?_) | go_skip | go_guarded | (refine tail77_any X base gb g w (-x) (-x) (-1) _ (Lib.hid fun a' w' r' hd h6 hp => bodyPost_ret (results_tmp rfl _ _ _) hd (by rw [h6, hp.1, K.out]; rw [K.out] at hp; exact ⟨rfl, hp.2⟩)) (Lib.hid fun _ _ _ _ e h => ⟨e ▸ h.1, h.2⟩) H.out hn HBA.out (by omega) (by omega) (.inr rfl) hxo) | go_values | go_skip | go_guarded | go_step | go_upon | go_back | ((with_reducible show Oper.upon _ _ _ _ _ _); go_simp) | (dsimp only)))
    · have h3' : ¬ (-x) < y := by omega
      have K := Key.out y (-x) (-1) (by unfold absI; rw [if_pos h1, if_neg (Int.not_lt.2 h2)]; omega) (by unfold absI; rw [if_pos h1, if_neg (Int.not_lt.2 h2)]; omega) (by unfold sgn2; rw [if_pos h1, if_neg (Int.not_lt.2 h2)]; rfl)
      go_enter Try.func77, Try.ntmps77
      (repeat (first | (with_reducible first | refine xA ?_ | refine xB ?_ | refine xC ?_ | refine xD ?_ | refine xH ?_ | refine xI rfl ?_ | refine xE ?_ | refine xF ?_ | refine xG ?_) | go_skip | go_guarded | (refine tail77_any X base gb g w y (-x) (-1) _ (Lib.hid fun a' w' r' hd h6 hp => bodyPost_ret (results_tmp rfl _ _ _) hd (by rw [h6, hp.1, K.out]; rw [K.out] at hp; exact ⟨rfl, hp.2⟩)) (Lib.hid fun _ _ _ _ e h => ⟨e ▸ h.1, h.2⟩) H.out hn HBA.out (by omega) (by omega) (.inr rfl) hxo) | go_values | go_skip | go_guarded | go_step | go_upon | go_back | ((with_reducible show Oper.upon _ _ _ _ _ _); go_simp) | (dsimp only)))
  · rcases Int.lt_trichotomy x (-y) with h3 | h3 | h3
    · have h3' : ¬ (-y) < x := by omega
      have K := Key.out x (-y) (-1) (by unfold absI; rw [if_neg (Int.not_lt.2 h1), if_pos h2]; omega) (by unfold absI; rw [if_neg (Int.not_lt.2 h1), if_pos h2]; omega) (by unfold sgn2; rw [if_neg (Int.not_lt.2 h1), if_pos h2]; rfl)
      go_enter Try.func77, Try.ntmps77
      (repeat (first | (with_reducible first | refine xA ?_ | refine xB ?_ | refine xC ?_ | refine xD ?_ | refine xH ?_ | refine xI rfl ?_ | refine xE ?_ | refine xF ?_ | refine xG ?_) | go_skip | go_guarded | (refine tail77_any X base gb g w x (-y) (-1) _ (Lib.hid fun a' w' r' hd h6 hp => bodyPost_ret (results_tmp rfl _ _ _) hd (by rw [h6, hp.1, K.out]; rw [K.out] at hp; exact ⟨rfl, hp.2⟩)) (Lib.hid fun _ _ _ _ e h => ⟨e ▸ h.1, h.2⟩) H.out hn HBA.out (by omega) (by omega) (.inr rfl) hxo) | go_values | go_skip | go_guarded | go_step | go_upon | go_back | ((with_reducible show Oper.upon _ _ _ _ _ _); go_simp) | (dsimp only)))
    · obtain rfl : y = -x := by omega
      clear by' h3
      have K := Key.out x x (-1) (by unfold absI; rw [if_neg (Int.not_lt.2 h1), if_pos h2]; omega) (by unfold absI; rw [if_neg (Int.not_lt.2 h1), if_pos h2]; omega) (by unfold sgn2; rw [if_neg (Int.not_lt.2 h1), if_pos h2]; rfl)
      go_enter Try.func77, Try.ntmps77
      (repeat (first | (with_reducible first | refine xA ?_ | refine xB ?_ | refine xC ?_ | refine xD ?_ | refine xH ?_ | refine xI rfl ?_ | refine xE ?_ | refine xF ?_ | refine xG ?_) | go_skip | go_guarded | (refine tail77_any X base gb g w x x (-1) _ (Lib.hid fun a' w' r' hd h6 hp => bodyPost_ret (results_tmp rfl _ _ _) hd (by rw [h6, hp.1, K.out]; rw [K.out] at hp; exact ⟨rfl, hp.2⟩)) (Lib.hid fun _ _ _ _ e h => ⟨e ▸ h.1, h.2⟩) H.out hn HBA.out (by omega) (by omega) (.inr rfl) hxo) | go_values | go_skip | go_guarded | go_step | go_upon | go_back | ((with_reducible show Oper.upon _ _ _ _ _ _); go_simp) | (dsimp only)))
    · have h3' : ¬ x < (-y) := by omega
      have K := Key.out (-y) x (-1) (by unfold absI; rw [if_neg (Int.not_lt.2 h1), if_pos h2]; omega) (by unfold absI; rw [if_neg (Int.not_lt.2 h1), if_pos h2]; omega) (by unfold sgn2; rw [if_neg (Int.not_lt.2 h1), if_pos h2]; rfl)
      go_enter Try.func77, Try.ntmps77
      (repeat (first | (with_reducible first | refine xA ?_ | refine xB ?_ | refine xC ?_ | refine xD ?_ | refine xH ?_ | refine xI rfl ?_ | refine xE ?_ | refine xF ?_ | refine xG ?_) | go_skip | go_guarded | (refine tail77_any X base gb g w (-y) x (-1) _ (Lib.hid fun a' w' r' hd h6 hp => bodyPost_ret (results_tmp rfl _ _ _) hd (by rw [h6, hp.1, K.out]; rw [K.out] at hp; exact ⟨rfl, hp.2⟩)) (Lib.hid fun _ _ _ _ e h => ⟨e ▸ h.1, h.2⟩) H.out hn HBA.out (by omega) (by omega) (.inr rfl) hxo) | go_values | go_skip | go_guarded | go_step | go_upon | go_back | ((with_reducible show Oper.upon _ _ _ _ _ _); go_simp) | (dsimp only)))
  · rcases Int.lt_trichotomy x y with h3 | h3 | h3
    · have h3' : ¬ y < x := by omega
      have K := Key.out x y 1 (by unfold absI; rw [if_neg (Int.not_lt.2 h1), if_neg (Int.not_lt.2 h2)]; omega) (by unfold absI; rw [if_neg (Int.not_lt.2 h1), if_neg (Int.not_lt.2 h2)]; omega) (by unfold sgn2; rw [if_neg (Int.not_lt.2 h1), if_neg (Int.not_lt.2 h2)]; rfl)
      go_enter Try.func77, Try.ntmps77
      (repeat (first | (with_reducible first | refine xA ?_ | refine xB ?_ | refine xC ?_ | refine xD ?_ | refine xH ?_ | refine xI rfl ?_ | refine xE ?_ | refine xF ?_ | refine xG ?_) | go_skip | go_guarded | (refine tail77_any X base gb g w x y 1 _ (Lib.hid fun a' w' r' hd h6 hp => bodyPost_ret (results_tmp rfl _ _ _) hd (by rw [h6, hp.1, K.out]; rw [K.out] at hp; exact ⟨rfl, hp.2⟩)) (Lib.hid fun _ _ _ _ e h => ⟨e ▸ h.1, h.2⟩) H.out hn HBA.out (by omega) (by omega) (.inl rfl) hxo) | go_values | go_skip | go_guarded | go_step | go_upon | go_back | ((with_reducible show Oper.upon _ _ _ _ _ _); go_simp) | (dsimp only)))
    · obtain rfl : x = y := by omega
      clear by' h3
      have K := Key.out x x 1 (by unfold absI; rw [if_neg (Int.not_lt.2 h1)]; omega) (by unfold absI; rw [if_neg (Int.not_lt.2 h1)]; omega) (by unfold sgn2; rw [if_neg (Int.not_lt.2 h1)]; rfl)
      go_enter Try.func77, Try.ntmps77
      (repeat (first | (with_reducible first | refine xA ?_ | refine xB ?_ | refine xC ?_ | refine xD ?_ | refine xH ?_ | refine xI rfl ?_ | refine xE ?_ | refine xF ?_ | refine xG ?_) | go_skip | go_guarded | (refine tail77_any X base gb g w x x 1 _ (Lib.hid fun a' w' r' hd h6 hp => bodyPost_ret (results_tmp rfl _ _ _) hd (by rw [h6, hp.1, K.out]; rw [K.out] at hp; exact ⟨rfl, hp.2⟩)) (Lib.hid fun _ _ _ _ e h => ⟨e ▸ h.1, h.2⟩) H.out hn HBA.out (by omega) (by omega) (.inl rfl) hxo) | go_values | go_skip | go_guarded | go_step | go_upon | go_back | ((with_reducible show Oper.upon _ _ _ _ _ _); go_simp) | (dsimp only)))
    · have h3' : ¬ x < y := by omega
      have K := Key.out y x 1 (by unfold absI; rw [if_neg (Int.not_lt.2 h1), if_neg (Int.not_lt.2 h2)]; omega) (by unfold absI; rw [if_neg (Int.not_lt.2 h1), if_neg (Int.not_lt.2 h2)]; omega) (by unfold sgn2; rw [if_neg (Int.not_lt.2 h1), if_neg (Int.not_lt.2 h2)]; rfl)
      go_enter Try.func77, Try.ntmps77
      (repeat (first | (with_reducible first | refine xA ?_ | refine xB ?_ | refine xC ?_ | refine xD ?_ | refine xH ?_ | refine xI rfl ?_ | refine xE ?_ | refine xF ?_ | refine xG ?_) | go_skip | go_guarded | (refine tail77_any X base gb g w y x 1 _ (Lib.hid fun a' w' r' hd h6 hp => bodyPost_ret (results_tmp rfl _ _ _) hd (by rw [h6, hp.1, K.out]; rw [K.out] at hp; exact ⟨rfl, hp.2⟩)) (Lib.hid fun _ _ _ _ e h => ⟨e ▸ h.1, h.2⟩) H.out hn HBA.out (by omega) (by omega) (.inl rfl) hxo) | go_values | go_skip | go_guarded | go_step | go_upon | go_back | ((with_reducible show Oper.upon _ _ _ _ _ _); go_simp) | (dsimp only)))

end Go.Proofs.Ytmaogkgjiplckaa
