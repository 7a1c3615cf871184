import Derived.Test.YtmaogkgjiplckaaGD
set_option linter.unusedSimpArgs false
set_option linter.unusedVariables false
namespace Go.Proofs.Ytmaogkgjiplckaa
open Go.RowKit

def sndN : Nat → Code → Code
  | 0, c => c
  | n + 1, .seq _ b => sndN n b
  | _, c => c
/-- four clauses, laid one by one, and their slice -/
theorem say_xor {X : Nat → Prop} {base gb ma mx : Nat} {g : G} {v : Value} {xs : List Value} (w : World) (h : GRep X base w gb g v ma mx xs) (N a b : Int) (hcl : g.cl.length + 4 ≤ 4 * g.n) (hba : base ≤ w.heap.size) :
    Calls Try.prog 101 #[.pointer (some ⟨gb, 0, none⟩), .slice (some ⟨w.heap.size + 1 + 1 + 1 + 1, 0, none⟩) 4 4] (((((w.alloc (.cells #[.int .i64 (-N), .int .i64 a, .int .i64 b] 3)).alloc (.cells #[.int .i64 (-N), .int .i64 (-a), .int .i64 (-b)] 3)).alloc (.cells #[.int .i64 N, .int .i64 (-a), .int .i64 b] 3)).alloc (.cells #[.int .i64 N, .int .i64 a, .int .i64 (-b)] 3)).alloc
        (.cells #[.slice (some ⟨w.heap.size, 0, none⟩) 3 3, .slice (some ⟨w.heap.size + 1, 0, none⟩) 3 3, .slice (some ⟨w.heap.size + 1 + 1, 0, none⟩) 3 3, .slice (some ⟨w.heap.size + 1 + 1 + 1, 0, none⟩) 3 3] 26))
      fun e w' => e = .returned (.tuple #[]) ∧ GR X base w' gb ⟨g.n, g.cl ++ [[-N, a, b], [-N, -a, -b], [N, -a, b], [N, a, -b]], g.an, g.xo⟩ ∧ Kept X w w' := by
  obtain ⟨w1, e1⟩ : ∃ w1, w1 = w.alloc (.cells (([-N, a, b] : List Int).map (Value.int .i64)).toArray 3) := ⟨_, rfl⟩
  obtain ⟨w2, e2⟩ : ∃ w2, w2 = w1.alloc (.cells (([-N, -a, -b] : List Int).map (Value.int .i64)).toArray 3) := ⟨_, rfl⟩
  obtain ⟨w3, e3⟩ : ∃ w3, w3 = w2.alloc (.cells (([N, -a, b] : List Int).map (Value.int .i64)).toArray 3) := ⟨_, rfl⟩
  obtain ⟨w4, e4⟩ : ∃ w4, w4 = w3.alloc (.cells (([N, a, -b] : List Int).map (Value.int .i64)).toArray 3) := ⟨_, rfl⟩
  obtain ⟨w5, e5⟩ : ∃ w5, w5 = w4.alloc (.cells #[.slice (some ⟨w.heap.size, 0, none⟩) 3 3, .slice (some ⟨w.heap.size + 1, 0, none⟩) 3 3, .slice (some ⟨w.heap.size + 1 + 1, 0, none⟩) 3 3, .slice (some ⟨w.heap.size + 1 + 1 + 1, 0, none⟩) 3 3] 26) := ⟨_, rfl⟩
  have z1 : w1.heap.size = w.heap.size + 1 := by rw [e1]; simp
  have z2 : w2.heap.size = w.heap.size + 1 + 1 := by rw [e2]; simp [z1]
  have z3 : w3.heap.size = w.heap.size + 1 + 1 + 1 := by rw [e3]; simp [z2]
  have z4 : w4.heap.size = w.heap.size + 1 + 1 + 1 + 1 := by rw [e4]; simp [z3]
  have z5 : w5.heap.size = w.heap.size + 1 + 1 + 1 + 1 + 1 := by rw [e5]; simp [z4]
  have k2 : ∀ Z : Nat → Prop, Kept Z w1 w2 := fun Z => by rw [e2]; exact (Kept.refl Z w1).alloc _
  have k3 : ∀ Z : Nat → Prop, Kept Z w2 w3 := fun Z => by rw [e3]; exact (Kept.refl Z w2).alloc _
  have k4 : ∀ Z : Nat → Prop, Kept Z w3 w4 := fun Z => by rw [e4]; exact (Kept.refl Z w3).alloc _
  have k5 : ∀ Z : Nat → Prop, Kept Z w4 w5 := fun Z => by rw [e5]; exact (Kept.refl Z w4).alloc _
  have s1 := slx_new h (Nat.le_refl _) [-N, a, b] (by simp) w.heap.size 3 rfl rfl
  rw [← e1] at s1
  have s2 := slx_new (w := w1) h (by omega) [-N, -a, -b] (by simp) (w.heap.size + 1) 3 (by omega) rfl
  rw [← e2] at s2
  have s3 := slx_new (w := w2) h (by omega) [N, -a, b] (by simp) (w.heap.size + 1 + 1) 3 (by omega) rfl
  rw [← e3] at s3
  have s4 := slx_new (w := w3) h (by omega) [N, a, -b] (by simp) (w.heap.size + 1 + 1 + 1) 3 (by omega) rfl
  rw [← e4] at s4
  have hY := (((SlsX.one ((((s1.kept (k2 _)).kept (k3 _)).kept (k4 _)).kept (k5 _))).append (SlsX.one (((s2.kept (k3 _)).kept (k4 _)).kept (k5 _)))).append (SlsX.one ((s3.kept (k4 _)).kept (k5 _)))).append (SlsX.one (s4.kept (k5 _)))
  have hq := heap_alloc_new w4 (.cells #[.slice (some ⟨w.heap.size, 0, none⟩) 3 3, .slice (some ⟨w.heap.size + 1, 0, none⟩) 3 3, .slice (some ⟨w.heap.size + 1 + 1, 0, none⟩) 3 3, .slice (some ⟨w.heap.size + 1 + 1 + 1, 0, none⟩) 3 3] 26)
  rw [← e5, z4] at hq
  have hR := ((((h.alloc (.cells (([-N, a, b] : List Int).map (Value.int .i64)).toArray 3)).alloc (.cells (([-N, -a, -b] : List Int).map (Value.int .i64)).toArray 3)).alloc (.cells (([N, -a, b] : List Int).map (Value.int .i64)).toArray 3)).alloc (.cells (([N, a, -b] : List Int).map (Value.int .i64)).toArray 3)).alloc (.cells #[.slice (some ⟨w.heap.size, 0, none⟩) 3 3, .slice (some ⟨w.heap.size + 1, 0, none⟩) 3 3, .slice (some ⟨w.heap.size + 1 + 1, 0, none⟩) 3 3, .slice (some ⟨w.heap.size + 1 + 1 + 1, 0, none⟩) 3 3] 26)
  rw [← e1, ← e2, ← e3, ← e4, ← e5] at hR
  have hk : Kept X w w5 := by
    have : Kept X w w1 := by rw [e1]; exact (Kept.refl X w).alloc _
    exact (((this.trans (k2 _)).trans (k3 _)).trans (k4 _)).trans (k5 _)
  have fin := (say_N _ hR _ 4 _ [[-N, a, b], [-N, -a, -b], [N, -a, b], [N, a, -b]] (Lib.hid ⟨rfl, by decide⟩) hY hq (by intro u hu; simp at hu; rcases hu with rfl | rfl | rfl | rfl <;> rfl) (by simpa using hcl) (by omega)).mono (R' := fun e w' => e = .returned (.tuple #[]) ∧ GR X base w' gb ⟨g.n, g.cl ++ [[-N, a, b], [-N, -a, -b], [N, -a, b], [N, a, -b]], g.an, g.xo⟩ ∧ Kept X w w') (fun e w' ⟨h1, h2, h3⟩ => ⟨h1, h2, hk.trans h3⟩)
  rw [e5, e4, e3, e2, e1] at fin
  exact fin

noncomputable def tail77 : Code := sndN 5 (Try.f77.body.getD .skip)
theorem oddKey_no {a b sg : Int} (h : oddKey a b sg = none) : (a == b) = false ∧ (a == 1) = false := by
  unfold oddKey at h
  split at h
  · cases h
  split at h
  · cases h
  simp only [beq_eq_false_iff_ne, ne_eq]
  omega

section
variable (X : Nat → Prop) (base gb : Nat) (g : G) (w : World) (a b sg : Int) (Q : Exit → Act → World → Prop)
variable (hQ : Hid (∀ (a' : Act) (w' : World) (r : Int), a'.defers = [] → a'.tmps.getD 6 undef = .int .i64 r → (r = (oddS g a b sg).2 ∧ GR X base w' gb (oddS g a b sg).1 ∧ Kept X w w') → Q .ret a' w'))
variable (hP : Hid (∀ (ch : List PanicEntry) (a a' : Act) (w : World), a.defers = a'.defers → Q (.panic ch) a w → Q (.panic ch) a' w))
variable {z3 z4 z5 z6 z8 z9 z10 z11 z12 z13 z14 z15 z16 z17 z18 z19 z20 z21 z22 z23 z24 z25 z26 z27 z28 z29 z30 z31 z32 z33 z34 z35 z36 z37 z38 z39 z40 z41 z42 z43 z44 z45 z46 z47 z48 z49 z50 z51 z52 z53 z54 z55 z56 z57 z58 z59 z60 z61 z62 z63 z64 z65 z66 z67 z68 z69 z70 z71 z72 z73 z74 z75 z76 z77 z78 z79 z80 z81 z82 z83 z84 z85 z86 z87 z88 z89 z90 z91 : Value}

set_option maxRecDepth 100000 in
set_option maxHeartbeats 1000000 in
include hQ in
theorem tail77_key (h : GR X base w gb g) (ha : 0 ≤ a ∧ a ≤ 1048576) (hb : 0 ≤ b ∧ b ≤ 1048576) (hs : sg = 1 ∨ sg = -1) (r : Int) (hr : oddKey a b sg = some r) : Code.wp Try.prog tail77 Q ⟨#[.pointer (some ⟨gb, 0, none⟩), .int .i64 a, .int .i64 b, z3, z4, z5, z6, .int .i64 sg, z8, z9, z10, z11, z12, z13, z14, z15, z16, z17, z18, z19, z20, z21, z22, z23, z24, z25, z26, z27, z28, z29, z30, z31, z32, z33, z34, z35, z36, z37, z38, z39, z40, z41, z42, z43, z44, z45, z46, z47, z48, z49, z50, z51, z52, z53, z54, z55, z56, z57, z58, z59, z60, z61, z62, z63, z64, z65, z66, z67, z68, z69, z70, z71, z72, z73, z74, z75, z76, z77, z78, z79, z80, z81, z82, z83, z84, z85, z86, z87, z88, z89, z90, z91], []⟩ w := by
  have hres : Hid ((oddS g a b sg) = (g, r)) := Lib.hid (by unfold oddS; rw [hr])
  have H := Lib.hid h
  unfold oddKey at hr
  clear h
  by_cases e1 : a = b
  · rw [if_pos e1] at hr
    obtain rfl : -1 * sg = r := by injection hr
    subst e1
    clear hr
    rcases hs with rfl | rfl
    all_goals
      conv => arg 2; whnf
      (repeat (first | (with_reducible first | refine xA ?_ | refine xB ?_ | refine xC ?_ | refine xD ?_ | refine xH ?_ | refine xI rfl ?_ | refine xE ?_ | refine xF ?_ | refine xG ?_) | go_values | go_skip | go_guarded | go_step | go_upon | go_back | ((with_reducible show Oper.upon _ _ _ _ _ _); go_simp) | (dsimp only)))
      exact hQ.out _ _ _ rfl rfl ⟨by rw [hres.out]; rfl, by rw [hres.out]; exact H.out, Kept.refl _ _⟩
  · rw [if_neg e1] at hr
    have f1 : (a == b) = false := by simpa using e1
    by_cases e2 : a = 1
    · rw [if_pos e2] at hr
      obtain rfl : -b * sg = r := by injection hr
      subst e2
      clear hr e1
      rcases hs with rfl | rfl
      all_goals
        conv => arg 2; whnf
        (repeat (first | (with_reducible first | refine xA ?_ | refine xB ?_ | refine xC ?_ | refine xD ?_ | refine xH ?_ | refine xI rfl ?_ | refine xE ?_ | refine xF ?_ | refine xG ?_) | go_values | go_skip | go_guarded | go_step | go_upon | go_back | ((with_reducible show Oper.upon _ _ _ _ _ _); go_simp) | (dsimp only)))
        exact hQ.out _ _ _ rfl rfl ⟨by rw [hres.out]; dsimp only; omega, by rw [hres.out]; exact H.out, Kept.refl _ _⟩
    · rw [if_neg e2] at hr; cases hr

set_option maxRecDepth 100000 in
set_option maxHeartbeats 1000000 in
include hQ hP in
theorem tail77_look {v : Value} {ma mx : Nat} {xs : List Value} (h : GRep X base w gb g v ma mx xs) (ha : 0 ≤ a ∧ a ≤ 1048576) (hb : 0 ≤ b ∧ b ≤ 1048576) (hs : sg = 1 ∨ sg = -1) (hr : oddKey a b sg = none) (z : Int) (hz : look g.xo a b = some z) (hzb : -1048576 ≤ z ∧ z ≤ 1048576) : Code.wp Try.prog tail77 Q ⟨#[.pointer (some ⟨gb, 0, none⟩), .int .i64 a, .int .i64 b, z3, z4, z5, z6, .int .i64 sg, z8, z9, z10, z11, z12, z13, z14, z15, z16, z17, z18, z19, z20, z21, z22, z23, z24, z25, z26, z27, z28, z29, z30, z31, z32, z33, z34, z35, z36, z37, z38, z39, z40, z41, z42, z43, z44, z45, z46, z47, z48, z49, z50, z51, z52, z53, z54, z55, z56, z57, z58, z59, z60, z61, z62, z63, z64, z65, z66, z67, z68, z69, z70, z71, z72, z73, z74, z75, z76, z77, z78, z79, z80, z81, z82, z83, z84, z85, z86, z87, z88, z89, z90, z91], []⟩ w := by
  have hres : Hid ((oddS g a b sg) = (g, z * sg)) := Lib.hid (by unfold oddS; rw [hr, hz])
  obtain ⟨f1, f2⟩ := oddKey_no hr
  have hl : Hid ((if true then Value.tuple #[(getM (mapOf g.xo) (a, b)).getD (.int .i64 0), .bool (getM (mapOf g.xo) (a, b)).isSome] else (getM (mapOf g.xo) (a, b)).getD (.int .i64 0)) = Value.tuple #[.int .i64 z, .bool true]) := Lib.hid (by rw [look_get, hz]; rfl)
  have h2 := h.alloc (.cells #[.int .i64 a, .int .i64 b] 130)
  have hkb := heap_alloc_new w (.cells #[.int .i64 a, .int .i64 b] 130)
  have HS0 := Lib.hid (show (fun u : World => u.heap[gb]? = some (.cells #[.int .i64 g.n, v, .map (some ma), .map (some mx)] 72 (0, 0)) ∧ u.heap[w.heap.size]? = some (.cells #[.int .i64 a, .int .i64 b] 130 (0, 0)) ∧ MapV encP okP u mx (mapOf g.xo)) ({ (w.alloc (.cells #[.int .i64 a, .int .i64 b] 130)) with drawn := ((w.alloc (.cells #[.int .i64 a, .int .i64 b] 130))).drawn + 1 } : World) from ⟨h2.box, hkb, h2.xo⟩)
  have HR := Lib.hid (show GRep X base ({ (w.alloc (.cells #[.int .i64 a, .int .i64 b] 130)) with drawn := ((w.alloc (.cells #[.int .i64 a, .int .i64 b] 130))).drawn + 1 } : World) gb g v ma mx xs ∧ Kept X w ({ (w.alloc (.cells #[.int .i64 a, .int .i64 b] 130)) with drawn := ((w.alloc (.cells #[.int .i64 a, .int .i64 b] 130))).drawn + 1 } : World) from ⟨h2.same ⟨rfl, rfl, rfl, Nat.le_refl _, fun _ _ _ => rfl⟩, ((Kept.refl X w).alloc _).drew 1⟩)
  have HK := Lib.hid (key_of (a := a) (b := b) (by omega) (by omega))
  clear h h2 hr hz hkb
  rcases hs with rfl | rfl
  all_goals
    conv => arg 2; whnf
    (repeat (first | (with_reducible first | refine xA ?_ | refine xB ?_ | refine xC ?_ | refine xD ?_ | refine xH ?_ | refine xI rfl ?_ | refine xE ?_ | refine xF ?_ | refine xG ?_) | go_values | go_skip | go_guarded | go_step | go_upon | go_back | ((with_reducible show Oper.upon _ _ _ _ _ _); go_simp) | (dsimp only)))
    refine wp_region_held (S := (fun u : World => u.heap[gb]? = some (.cells #[.int .i64 g.n, v, .map (some ma), .map (some mx)] 72 (0, 0)) ∧ u.heap[w.heap.size]? = some (.cells #[.int .i64 a, .int .i64 b] 130 (0, 0)) ∧ MapV encP okP u mx (mapOf g.xo))) (by kernel_rfl) ?_
    have HS := HS0.out
    replace HR := HR.out
    clear HS0
    generalize ({ (w.alloc _) with drawn := _ } : World) = u3 at *
    refine wpAnyH_take (i := 0) (v := .pointer (some ⟨gb, 0, none⟩)) rfl (by kernel_rfl) (by kernel_rfl) (by kernel_rfl) (fun ch a w h => hP.out ch (a.put _ _) a w (put_defers a _ _) h) (Or.inl ⟨rfl, fun w _ => by go_simp⟩) HS ?_; simp only [Act.put, List.getElem_toArray, List.getElem_cons_zero, List.getElem_cons_succ, List.setIfInBounds_toArray, List.set_cons_succ, List.set_cons_zero]; refine wpAnyH_take (i := 1) (v := .pointer (some ⟨gb, 0, none⟩)) rfl (by kernel_rfl) (by kernel_rfl) (by kernel_rfl) (fun ch a w h => hP.out ch (a.put _ _) a w (put_defers a _ _) h) (Or.inl ⟨rfl, fun w _ => by go_simp⟩) HS ?_; simp only [Act.put, List.getElem_toArray, List.getElem_cons_zero, List.getElem_cons_succ, List.setIfInBounds_toArray, List.set_cons_succ, List.set_cons_zero]
    refine wpAnyH_take (i := 2) (v := .pointer (some ⟨gb, 3, none⟩)) rfl (by kernel_rfl) (by kernel_rfl) (by kernel_rfl) (fun ch a w h => hP.out ch (a.put _ _) a w (put_defers a _ _) h) (Or.inl ⟨rfl, fun w _ => by go_simp⟩) HS ?_
    simp only [Act.put, List.getElem_toArray, List.getElem_cons_zero, List.getElem_cons_succ, List.setIfInBounds_toArray, List.set_cons_succ, List.set_cons_zero]
    refine wpAnyH_take (i := 3) (v := .map (some mx)) rfl (by kernel_rfl) (by kernel_rfl) (by kernel_rfl) (fun ch a w h => hP.out ch (a.put _ _) a w (put_defers a _ _) h) (Or.inl ⟨rfl, fun w hw => by have hx := (box4g hw.1).2.2.2.1; go_simp⟩) HS ?_
    simp only [Act.put, List.getElem_toArray, List.getElem_cons_zero, List.getElem_cons_succ, List.setIfInBounds_toArray, List.set_cons_succ, List.set_cons_zero]
    refine wpAnyH_take (i := 4) rfl (by kernel_rfl) (by kernel_rfl) (by kernel_rfl) (fun ch a w h => hP.out ch (a.put _ _) a w (put_defers a _ _) h) (yields_arr (fun _ h => h.2.1) rfl _ rfl rfl Try.underlying130 size130) HS ?_
    simp only [Act.put, List.getElem_toArray, List.getElem_cons_zero, List.getElem_cons_succ, List.setIfInBounds_toArray, List.set_cons_succ, List.set_cons_zero]
    refine wpAnyH_take (i := 5) rfl (by kernel_rfl) (by kernel_rfl) (by kernel_rfl) (fun ch a w h => hP.out ch (a.put _ _) a w (put_defers a _ _) h) (yields_look keyP Try.underlying70 zero3 (fun _ h => h.2.2) rfl _ _ _ rfl rfl rfl HK.out _ hl.out) HS ?_
    simp only [Act.put, List.getElem_toArray, List.getElem_cons_zero, List.getElem_cons_succ, List.setIfInBounds_toArray, List.set_cons_succ, List.set_cons_zero]
    refine wpAnyH_take (i := 6) (v := .tuple #[.int .i64 z, .bool true]) rfl (by kernel_rfl) (by kernel_rfl) (by kernel_rfl) (fun ch a w h => hP.out ch (a.put _ _) a w (put_defers a _ _) h) (Or.inl ⟨rfl, fun w _ => by go_simp⟩) HS ?_
    simp only [Act.put, List.getElem_toArray, List.getElem_cons_zero, List.getElem_cons_succ, List.setIfInBounds_toArray, List.set_cons_succ, List.set_cons_zero]
    refine wpAnyH_take (i := 7) (v := .int .i64 z) rfl (by kernel_rfl) (by kernel_rfl) (by kernel_rfl) (fun ch a w h => hP.out ch (a.put _ _) a w (put_defers a _ _) h) (Or.inl ⟨rfl, fun w _ => by go_simp⟩) HS ?_
    simp only [Act.put, List.getElem_toArray, List.getElem_cons_zero, List.getElem_cons_succ, List.setIfInBounds_toArray, List.set_cons_succ, List.set_cons_zero]
    refine wpAnyH_take (i := 8) (v := .bool true) rfl (by kernel_rfl) (by kernel_rfl) (by kernel_rfl) (fun ch a w h => hP.out ch (a.put _ _) a w (put_defers a _ _) h) (Or.inl ⟨rfl, fun w _ => by go_simp⟩) HS ?_
    simp only [Act.put, List.getElem_toArray, List.getElem_cons_zero, List.getElem_cons_succ, List.setIfInBounds_toArray, List.set_cons_succ, List.set_cons_zero]
    refine wpAnyH_take (i := 9) (v := .int .i64 z) rfl (by kernel_rfl) (by kernel_rfl) (by kernel_rfl) (fun ch a w h => hP.out ch (a.put _ _) a w (put_defers a _ _) h) (Or.inl ⟨rfl, fun w _ => by go_simp⟩) HS ?_
    simp only [Act.put, List.getElem_toArray, List.getElem_cons_zero, List.getElem_cons_succ, List.setIfInBounds_toArray, List.set_cons_succ, List.set_cons_zero]
    refine wpAnyH_take (i := 10) (v := .bool true) rfl (by kernel_rfl) (by kernel_rfl) (by kernel_rfl) (fun ch a w h => hP.out ch (a.put _ _) a w (put_defers a _ _) h) (Or.inl ⟨rfl, fun w _ => by go_simp⟩) HS ?_
    simp only [Act.put, List.getElem_toArray, List.getElem_cons_zero, List.getElem_cons_succ, List.setIfInBounds_toArray, List.set_cons_succ, List.set_cons_zero]
    refine wpAnyH_done (by kernel_rfl) ?_ _
    (repeat (first | (with_reducible first | refine xA ?_ | refine xB ?_ | refine xC ?_ | refine xD ?_ | refine xH ?_ | refine xI rfl ?_ | refine xE ?_ | refine xF ?_ | refine xG ?_) | go_values | go_skip | go_guarded | go_step | go_upon | go_back | ((with_reducible show Oper.upon _ _ _ _ _ _); go_simp) | (dsimp only)))
    exact hQ.out _ _ _ rfl rfl ⟨by rw [hres.out]; dsimp only; omega, by rw [hres.out]; exact ⟨_, _, _, _, HR.1⟩, HR.2⟩

set_option maxRecDepth 100000 in
set_option maxHeartbeats 2000000 in
include hQ hP in
theorem tail77_new {v : Value} {ma mx : Nat} {xs : List Value} (h : GRep X base w gb g v ma mx xs) (ha : 0 ≤ a ∧ a ≤ 1048576) (hb : 0 ≤ b ∧ b ≤ 1048576) (hs : sg = 1 ∨ sg = -1) (hr : oddKey a b sg = none) (hz : look g.xo a b = none) (hn : g.n < 1048576) (hba : base ≤ w.heap.size) (N : Int) (hN : (g.n : Int) + 1 = N) : Code.wp Try.prog tail77 Q ⟨#[.pointer (some ⟨gb, 0, none⟩), .int .i64 a, .int .i64 b, z3, z4, z5, z6, .int .i64 sg, z8, z9, z10, z11, z12, z13, z14, z15, z16, z17, z18, z19, z20, z21, z22, z23, z24, z25, z26, z27, z28, z29, z30, z31, z32, z33, z34, z35, z36, z37, z38, z39, z40, z41, z42, z43, z44, z45, z46, z47, z48, z49, z50, z51, z52, z53, z54, z55, z56, z57, z58, z59, z60, z61, z62, z63, z64, z65, z66, z67, z68, z69, z70, z71, z72, z73, z74, z75, z76, z77, z78, z79, z80, z81, z82, z83, z84, z85, z86, z87, z88, z89, z90, z91], []⟩ w := by
  have hres : Hid ((oddS g a b sg) = (⟨g.n + 1, g.cl ++ [[-N, a, b], [-N, -a, -b], [N, -a, b], [N, a, -b]], g.an, g.xo ++ [((a, b), N)]⟩, N * sg)) := Lib.hid (by unfold oddS; rw [hr, hz, ← hN])
  obtain ⟨f1, f2⟩ := oddKey_no hr
  have hl : Hid ((if true then Value.tuple #[(getM (mapOf g.xo) (a, b)).getD (.int .i64 0), .bool (getM (mapOf g.xo) (a, b)).isSome] else (getM (mapOf g.xo) (a, b)).getD (.int .i64 0)) = Value.tuple #[.int .i64 0, .bool false]) := Lib.hid (by rw [look_get, hz]; rfl)
  have h2 := h.own (.cells #[.int .i64 a, .int .i64 b] 130)
  have hkb := heap_alloc_new w (.cells #[.int .i64 a, .int .i64 b] 130)
  have HS0 := Lib.hid (show (fun u : World => u.heap[gb]? = some (.cells #[.int .i64 g.n, v, .map (some ma), .map (some mx)] 72 (0, 0)) ∧ u.heap[w.heap.size]? = some (.cells #[.int .i64 a, .int .i64 b] 130 (0, 0)) ∧ MapV encP okP u mx (mapOf g.xo)) ({ (w.alloc (.cells #[.int .i64 a, .int .i64 b] 130)) with drawn := ((w.alloc (.cells #[.int .i64 a, .int .i64 b] 130))).drawn + 1 } : World) from ⟨h2.box, hkb, h2.xo⟩)
  have HR := Lib.hid (show GRep (fun k => X k ∨ k = w.heap.size) base ({ (w.alloc (.cells #[.int .i64 a, .int .i64 b] 130)) with drawn := ((w.alloc (.cells #[.int .i64 a, .int .i64 b] 130))).drawn + 1 } : World) gb g v ma mx xs ∧ Kept (fun k => X k ∨ k = w.heap.size) w ({ (w.alloc (.cells #[.int .i64 a, .int .i64 b] 130)) with drawn := ((w.alloc (.cells #[.int .i64 a, .int .i64 b] 130))).drawn + 1 } : World) from ⟨h2.same ⟨rfl, rfl, rfl, Nat.le_refl _, fun _ _ _ => rfl⟩, ((Kept.refl _ w).alloc _).drew 1⟩)
  have HK := Lib.hid (key_of (a := a) (b := b) (by omega) (by omega))
  have Hz := Lib.hid hz
  have HC := Lib.hid (show g.cl.length + 4 ≤ 4 * (g.n + 1) by have := h.cl; omega)
  have HBs := Lib.hid hba
  have Hn := Lib.hid hn
  have HN := Lib.hid hN
  have hN0 : 1 ≤ N := by omega
  have hN1 : N ≤ 1048576 := by omega
  clear h h2 hr hz hkb hn hba hN
  rcases hs with rfl | rfl
  all_goals
    conv => arg 2; whnf
    (repeat (first | (with_reducible first | refine xA ?_ | refine xB ?_ | refine xC ?_ | refine xD ?_ | refine xH ?_ | refine xI rfl ?_ | refine xE ?_ | refine xF ?_ | refine xG ?_) | go_values | go_skip | go_guarded | go_step | go_upon | go_back | ((with_reducible show Oper.upon _ _ _ _ _ _); go_simp) | (dsimp only)))
    refine wp_region_held (S := (fun u : World => u.heap[gb]? = some (.cells #[.int .i64 g.n, v, .map (some ma), .map (some mx)] 72 (0, 0)) ∧ u.heap[w.heap.size]? = some (.cells #[.int .i64 a, .int .i64 b] 130 (0, 0)) ∧ MapV encP okP u mx (mapOf g.xo))) (by kernel_rfl) ?_
    have HS := HS0.out
    obtain ⟨hR, hK⟩ := HR.out
    clear HS0 HR
    generalize ({ (w.alloc _) with drawn := _ } : World) = u3 at *
    refine wpAnyH_take (i := 0) (v := .pointer (some ⟨gb, 0, none⟩)) rfl (by kernel_rfl) (by kernel_rfl) (by kernel_rfl) (fun ch a w h => hP.out ch (a.put _ _) a w (put_defers a _ _) h) (Or.inl ⟨rfl, fun w _ => by go_simp⟩) HS ?_; simp only [Act.put, List.getElem_toArray, List.getElem_cons_zero, List.getElem_cons_succ, List.setIfInBounds_toArray, List.set_cons_succ, List.set_cons_zero]; refine wpAnyH_take (i := 1) (v := .pointer (some ⟨gb, 0, none⟩)) rfl (by kernel_rfl) (by kernel_rfl) (by kernel_rfl) (fun ch a w h => hP.out ch (a.put _ _) a w (put_defers a _ _) h) (Or.inl ⟨rfl, fun w _ => by go_simp⟩) HS ?_; simp only [Act.put, List.getElem_toArray, List.getElem_cons_zero, List.getElem_cons_succ, List.setIfInBounds_toArray, List.set_cons_succ, List.set_cons_zero]
    refine wpAnyH_take (i := 2) (v := .pointer (some ⟨gb, 3, none⟩)) rfl (by kernel_rfl) (by kernel_rfl) (by kernel_rfl) (fun ch a w h => hP.out ch (a.put _ _) a w (put_defers a _ _) h) (Or.inl ⟨rfl, fun w _ => by go_simp⟩) HS ?_
    simp only [Act.put, List.getElem_toArray, List.getElem_cons_zero, List.getElem_cons_succ, List.setIfInBounds_toArray, List.set_cons_succ, List.set_cons_zero]
    refine wpAnyH_take (i := 3) (v := .map (some mx)) rfl (by kernel_rfl) (by kernel_rfl) (by kernel_rfl) (fun ch a w h => hP.out ch (a.put _ _) a w (put_defers a _ _) h) (Or.inl ⟨rfl, fun w hw => by have hx := (box4g hw.1).2.2.2.1; go_simp⟩) HS ?_
    simp only [Act.put, List.getElem_toArray, List.getElem_cons_zero, List.getElem_cons_succ, List.setIfInBounds_toArray, List.set_cons_succ, List.set_cons_zero]
    refine wpAnyH_take (i := 4) rfl (by kernel_rfl) (by kernel_rfl) (by kernel_rfl) (fun ch a w h => hP.out ch (a.put _ _) a w (put_defers a _ _) h) (yields_arr (fun _ h => h.2.1) rfl _ rfl rfl Try.underlying130 size130) HS ?_
    simp only [Act.put, List.getElem_toArray, List.getElem_cons_zero, List.getElem_cons_succ, List.setIfInBounds_toArray, List.set_cons_succ, List.set_cons_zero]
    refine wpAnyH_take (i := 5) rfl (by kernel_rfl) (by kernel_rfl) (by kernel_rfl) (fun ch a w h => hP.out ch (a.put _ _) a w (put_defers a _ _) h) (yields_look keyP Try.underlying70 zero3 (fun _ h => h.2.2) rfl _ _ _ rfl rfl rfl HK.out _ hl.out) HS ?_
    simp only [Act.put, List.getElem_toArray, List.getElem_cons_zero, List.getElem_cons_succ, List.setIfInBounds_toArray, List.set_cons_succ, List.set_cons_zero]
    refine wpAnyH_take (i := 6) (v := .tuple #[.int .i64 0, .bool false]) rfl (by kernel_rfl) (by kernel_rfl) (by kernel_rfl) (fun ch a w h => hP.out ch (a.put _ _) a w (put_defers a _ _) h) (Or.inl ⟨rfl, fun w _ => by go_simp⟩) HS ?_
    simp only [Act.put, List.getElem_toArray, List.getElem_cons_zero, List.getElem_cons_succ, List.setIfInBounds_toArray, List.set_cons_succ, List.set_cons_zero]
    refine wpAnyH_take (i := 7) (v := .int .i64 0) rfl (by kernel_rfl) (by kernel_rfl) (by kernel_rfl) (fun ch a w h => hP.out ch (a.put _ _) a w (put_defers a _ _) h) (Or.inl ⟨rfl, fun w _ => by go_simp⟩) HS ?_
    simp only [Act.put, List.getElem_toArray, List.getElem_cons_zero, List.getElem_cons_succ, List.setIfInBounds_toArray, List.set_cons_succ, List.set_cons_zero]
    refine wpAnyH_take (i := 8) (v := .bool false) rfl (by kernel_rfl) (by kernel_rfl) (by kernel_rfl) (fun ch a w h => hP.out ch (a.put _ _) a w (put_defers a _ _) h) (Or.inl ⟨rfl, fun w _ => by go_simp⟩) HS ?_
    simp only [Act.put, List.getElem_toArray, List.getElem_cons_zero, List.getElem_cons_succ, List.setIfInBounds_toArray, List.set_cons_succ, List.set_cons_zero]
    refine wpAnyH_take (i := 9) (v := .int .i64 0) rfl (by kernel_rfl) (by kernel_rfl) (by kernel_rfl) (fun ch a w h => hP.out ch (a.put _ _) a w (put_defers a _ _) h) (Or.inl ⟨rfl, fun w _ => by go_simp⟩) HS ?_
    simp only [Act.put, List.getElem_toArray, List.getElem_cons_zero, List.getElem_cons_succ, List.setIfInBounds_toArray, List.set_cons_succ, List.set_cons_zero]
    refine wpAnyH_take (i := 10) (v := .bool false) rfl (by kernel_rfl) (by kernel_rfl) (by kernel_rfl) (fun ch a w h => hP.out ch (a.put _ _) a w (put_defers a _ _) h) (Or.inl ⟨rfl, fun w _ => by go_simp⟩) HS ?_
    simp only [Act.put, List.getElem_toArray, List.getElem_cons_zero, List.getElem_cons_succ, List.setIfInBounds_toArray, List.set_cons_succ, List.set_cons_zero]
    refine wpAnyH_done (by kernel_rfl) ?_ _
    have hkb := HS.2.1
    clear HS hl
    (repeat (first | (with_reducible first | refine xA ?_ | refine xB ?_ | refine xC ?_ | refine xD ?_ | refine xH ?_ | refine xI rfl ?_ | refine xE ?_ | refine xF ?_ | refine xG ?_) | go_skip | go_guarded | (go_at_call 36; (with_reducible refine (fresh_N _ hR Hn N HN).mono ?_); rintro _ w1 ⟨rfl, hR1, hk1⟩; replace hK := hK.trans hk1; replace hkb := hk1.at hkb (.inr rfl); have hsz1 := hk1.size; clear hR hk1) | (go_at_call 101; (with_reducible refine (say_xor _ hR1 N a b HC.out (Nat.le_trans HBs.out hK.size)).mono ?_); rintro _ w2 ⟨rfl, hG, hk2⟩; replace hK := hK.trans hk2; replace hkb := hk2.at hkb (.inr rfl); clear hR1 hk2; obtain ⟨v2, ma2, mx2, xs2, hR2⟩ := hG) | go_values | go_skip | go_guarded | go_step | go_upon | go_back | ((with_reducible show Oper.upon _ _ _ _ _ _); go_simp) | (dsimp only)))
    refine wp_region_held (S := (fun u : World => u.heap[gb]? = some (.cells #[.int .i64 (g.n + 1 : Nat), v2, .map (some ma2), .map (some mx2)] 72 (0, 0)) ∧ u.heap[w.heap.size]? = some (.cells #[.int .i64 a, .int .i64 b] 130 (0, 0)))) (by kernel_rfl) ?_
    have HS : (fun u : World => u.heap[gb]? = some (.cells #[.int .i64 (g.n + 1 : Nat), v2, .map (some ma2), .map (some mx2)] 72 (0, 0)) ∧ u.heap[w.heap.size]? = some (.cells #[.int .i64 a, .int .i64 b] 130 (0, 0))) ({ w2 with drawn := w2.drawn + 1 } : World) := ⟨hR2.box, hkb⟩
    have hR3 : GRep _ base ({ w2 with drawn := w2.drawn + 1 } : World) gb _ v2 ma2 mx2 xs2 := hR2.same ⟨rfl, rfl, rfl, Nat.le_refl _, fun _ _ _ => rfl⟩
    replace hK : Kept _ w ({ w2 with drawn := w2.drawn + 1 } : World) := hK.drew 1
    clear hkb hR2
    generalize ({ w2 with drawn := w2.drawn + 1 } : World) = u4 at *
    refine wpAnyH_take (i := 0) (v := .pointer (some ⟨gb, 0, none⟩)) rfl (by kernel_rfl) (by kernel_rfl) (by kernel_rfl) (fun ch a w h => hP.out ch (a.put _ _) a w (put_defers a _ _) h) (Or.inl ⟨rfl, fun w _ => by go_simp⟩) HS ?_; simp only [Act.put, List.getElem_toArray, List.getElem_cons_zero, List.getElem_cons_succ, List.setIfInBounds_toArray, List.set_cons_succ, List.set_cons_zero]; refine wpAnyH_take (i := 1) (v := .pointer (some ⟨gb, 0, none⟩)) rfl (by kernel_rfl) (by kernel_rfl) (by kernel_rfl) (fun ch a w h => hP.out ch (a.put _ _) a w (put_defers a _ _) h) (Or.inl ⟨rfl, fun w _ => by go_simp⟩) HS ?_; simp only [Act.put, List.getElem_toArray, List.getElem_cons_zero, List.getElem_cons_succ, List.setIfInBounds_toArray, List.set_cons_succ, List.set_cons_zero]
    refine wpAnyH_take (i := 2) (v := .pointer (some ⟨gb, 3, none⟩)) rfl (by kernel_rfl) (by kernel_rfl) (by kernel_rfl) (fun ch a w h => hP.out ch (a.put _ _) a w (put_defers a _ _) h) (Or.inl ⟨rfl, fun w _ => by go_simp⟩) HS ?_
    simp only [Act.put, List.getElem_toArray, List.getElem_cons_zero, List.getElem_cons_succ, List.setIfInBounds_toArray, List.set_cons_succ, List.set_cons_zero]
    refine wpAnyH_take (i := 3) (v := .map (some mx2)) rfl (by kernel_rfl) (by kernel_rfl) (by kernel_rfl) (fun ch a w h => hP.out ch (a.put _ _) a w (put_defers a _ _) h) (Or.inl ⟨rfl, fun w hw => by have hx := (box4g hw.1).2.2.2.1; go_simp⟩) HS ?_
    simp only [Act.put, List.getElem_toArray, List.getElem_cons_zero, List.getElem_cons_succ, List.setIfInBounds_toArray, List.set_cons_succ, List.set_cons_zero]
    refine wpAnyH_take (i := 4) rfl (by kernel_rfl) (by kernel_rfl) (by kernel_rfl) (fun ch a w h => hP.out ch (a.put _ _) a w (put_defers a _ _) h) (yields_arr (fun _ h => h.2) rfl _ rfl rfl Try.underlying130 size130) HS ?_
    simp only [Act.put, List.getElem_toArray, List.getElem_cons_zero, List.getElem_cons_succ, List.setIfInBounds_toArray, List.set_cons_succ, List.set_cons_zero]
    refine wpAnyH_take (i := 5) (v := .int .i64 N) rfl (by kernel_rfl) (by kernel_rfl) (by kernel_rfl) (fun ch a w h => hP.out ch (a.put _ _) a w (put_defers a _ _) h) (Or.inl ⟨rfl, fun w _ => by go_simp⟩) HS ?_
    simp only [Act.put, List.getElem_toArray, List.getElem_cons_zero, List.getElem_cons_succ, List.setIfInBounds_toArray, List.set_cons_succ, List.set_cons_zero]
    refine wpAnyH_all (rs := [6]) (by kernel_rfl) (by simp) (fun i hi => ?_)
    obtain rfl : i = 6 := by simpa using hi
    refine wpOp_one rfl ?_
    have hM3 := hR3.xo
    (repeat (first | (with_reducible first | refine xA ?_ | refine xB ?_ | refine xC ?_ | refine xD ?_ | refine xH ?_ | refine xI rfl ?_ | refine xE ?_ | refine xF ?_ | refine xG ?_) | go_skip | go_guarded | ((with_reducible refine wl_id ?_); refine wl_mapUpdate rfl _ _ _ 70 rfl _ _ keyP Try.underlying70 mx2 _ rfl hM3 (a, b) rfl HK.out (.int .i64 N) rfl ?_; intro w5 hM hg; clear hM3; (try simp only [Act.put, List.setIfInBounds_toArray, List.set_cons_succ, List.set_cons_zero])) | go_values | go_skip | go_guarded | go_step | go_upon | go_back | ((with_reducible show Oper.upon _ _ _ _ _ _); go_simp) | (dsimp only)))
    rw [put_new Hz.out] at hM
    obtain ⟨hR4, hk4⟩ := hR3.putX hg hM
    refine ⟨⟨hR4.box, hk4.at HS.2 (.inr rfl)⟩, ?_⟩
    refine wpAnyH_done (by kernel_rfl) ?_ _
    (repeat (first | (with_reducible first | refine xA ?_ | refine xB ?_ | refine xC ?_ | refine xD ?_ | refine xH ?_ | refine xI rfl ?_ | refine xE ?_ | refine xF ?_ | refine xG ?_) | go_values | go_skip | go_guarded | go_step | go_upon | go_back | ((with_reducible show Oper.upon _ _ _ _ _ _); go_simp) | (dsimp only)))
    exact hQ.out _ _ _ rfl rfl ⟨by rw [hres.out]; dsimp only; omega, by rw [hres.out]; exact ⟨_, _, _, _, hR4.less fun k hk => .inl hk⟩, (hK.trans hk4).mono fun k _ hk => .inl hk⟩
end

end Go.Proofs.Ytmaogkgjiplckaa
