import Derived.Test.YtmaogkgjiplckaaGreatQW1
import Derived.OwnWalk
import Derived.Laws.OwnMore
set_option linter.unusedVariables false
set_option linter.unusedSimpArgs false
namespace Go.Proofs.YtmaogkgjiplckaaGreat
open Go.RowKit
def sndN : Nat → Code → Code
  | 0, c => c
  | n + 1, .seq _ b => sndN n b
  | _, c => c
theorem say_xor {X : Nat → Prop} {base gb ma mx : Nat} {g : G} {v : Value} {xs : List Value} (w : World) (h : GRep X base w gb g v ma mx xs) (N a b : Int) (hcl : g.cl.length + 4 ≤ 4 * g.n) (hba : base ≤ w.heap.size) :
    Calls Tryz.prog 133 #[.pointer (some ⟨gb, 0, none⟩), .slice (some ⟨w.heap.size + 1 + 1 + 1 + 1, 0, none⟩) 4 4] (((((w.alloc (.cells #[.int .i64 (-N), .int .i64 a, .int .i64 b] 3)).alloc (.cells #[.int .i64 (-N), .int .i64 (-a), .int .i64 (-b)] 3)).alloc (.cells #[.int .i64 N, .int .i64 (-a), .int .i64 b] 3)).alloc (.cells #[.int .i64 N, .int .i64 a, .int .i64 (-b)] 3)).alloc
        (.cells #[.slice (some ⟨w.heap.size, 0, none⟩) 3 3, .slice (some ⟨w.heap.size + 1, 0, none⟩) 3 3, .slice (some ⟨w.heap.size + 1 + 1, 0, none⟩) 3 3, .slice (some ⟨w.heap.size + 1 + 1 + 1, 0, none⟩) 3 3] 31))
      fun e w' => e = .returned (.tuple #[]) ∧ GR X base w' gb ⟨g.n, g.cl ++ [[-N, a, b], [-N, -a, -b], [N, -a, b], [N, a, -b]], g.an, g.xo⟩ ∧ Kept X w w' := by
  obtain ⟨w1, e1⟩ : ∃ w1, w1 = w.alloc (.cells (([-N, a, b] : List Int).map (Value.int .i64)).toArray 3) := ⟨_, rfl⟩
  obtain ⟨w2, e2⟩ : ∃ w2, w2 = w1.alloc (.cells (([-N, -a, -b] : List Int).map (Value.int .i64)).toArray 3) := ⟨_, rfl⟩
  obtain ⟨w3, e3⟩ : ∃ w3, w3 = w2.alloc (.cells (([N, -a, b] : List Int).map (Value.int .i64)).toArray 3) := ⟨_, rfl⟩
  obtain ⟨w4, e4⟩ : ∃ w4, w4 = w3.alloc (.cells (([N, a, -b] : List Int).map (Value.int .i64)).toArray 3) := ⟨_, rfl⟩
  obtain ⟨w5, e5⟩ : ∃ w5, w5 = w4.alloc (.cells #[.slice (some ⟨w.heap.size, 0, none⟩) 3 3, .slice (some ⟨w.heap.size + 1, 0, none⟩) 3 3, .slice (some ⟨w.heap.size + 1 + 1, 0, none⟩) 3 3, .slice (some ⟨w.heap.size + 1 + 1 + 1, 0, none⟩) 3 3] 31) := ⟨_, rfl⟩
  have z1 : w1.heap.size = w.heap.size + 1 := by rw [e1]; simp
  have z2 : w2.heap.size = w.heap.size + 1 + 1 := by rw [e2]; simp [z1]
  have z3 : w3.heap.size = w.heap.size + 1 + 1 + 1 := by rw [e3]; simp [z2]
  have z4 : w4.heap.size = w.heap.size + 1 + 1 + 1 + 1 := by rw [e4]; simp [z3]
  have z5 : w5.heap.size = w.heap.size + 1 + 1 + 1 + 1 + 1 := by rw [e5]; simp [z4]
  have k2 : ∀ Z : Nat → Prop, Kept Z w1 w2 := fun Z => by rw [e2]; exact (Kept.refl Z w1).alloc _
  have k3 : ∀ Z : Nat → Prop, Kept Z w2 w3 := fun Z => by rw [e3]; exact (Kept.refl Z w2).alloc _
  have k4 : ∀ Z : Nat → Prop, Kept Z w3 w4 := fun Z => by rw [e4]; exact (Kept.refl Z w3).alloc _
  have k5 : ∀ Z : Nat → Prop, Kept Z w4 w5 := fun Z => by rw [e5]; exact (Kept.refl Z w4).alloc _
  have s1 := slx_new h (Nat.le_refl _) [-N, a, b] (by simp) w.heap.size 3 rfl rfl
  rw [← e1] at s1
  have s2 := slx_new (w := w1) h (by omega) [-N, -a, -b] (by simp) (w.heap.size + 1) 3 (by omega) rfl
  rw [← e2] at s2
  have s3 := slx_new (w := w2) h (by omega) [N, -a, b] (by simp) (w.heap.size + 1 + 1) 3 (by omega) rfl
  rw [← e3] at s3
  have s4 := slx_new (w := w3) h (by omega) [N, a, -b] (by simp) (w.heap.size + 1 + 1 + 1) 3 (by omega) rfl
  rw [← e4] at s4
  have hY := (((SlsX.one ((((s1.kept (k2 _)).kept (k3 _)).kept (k4 _)).kept (k5 _))).append (SlsX.one (((s2.kept (k3 _)).kept (k4 _)).kept (k5 _)))).append (SlsX.one ((s3.kept (k4 _)).kept (k5 _)))).append (SlsX.one (s4.kept (k5 _)))
  have hq := heap_alloc_new w4 (.cells #[.slice (some ⟨w.heap.size, 0, none⟩) 3 3, .slice (some ⟨w.heap.size + 1, 0, none⟩) 3 3, .slice (some ⟨w.heap.size + 1 + 1, 0, none⟩) 3 3, .slice (some ⟨w.heap.size + 1 + 1 + 1, 0, none⟩) 3 3] 31)
  rw [← e5, z4] at hq
  have hR := ((((h.alloc (.cells (([-N, a, b] : List Int).map (Value.int .i64)).toArray 3)).alloc (.cells (([-N, -a, -b] : List Int).map (Value.int .i64)).toArray 3)).alloc (.cells (([N, -a, b] : List Int).map (Value.int .i64)).toArray 3)).alloc (.cells (([N, a, -b] : List Int).map (Value.int .i64)).toArray 3)).alloc (.cells #[.slice (some ⟨w.heap.size, 0, none⟩) 3 3, .slice (some ⟨w.heap.size + 1, 0, none⟩) 3 3, .slice (some ⟨w.heap.size + 1 + 1, 0, none⟩) 3 3, .slice (some ⟨w.heap.size + 1 + 1 + 1, 0, none⟩) 3 3] 31)
  rw [← e1, ← e2, ← e3, ← e4, ← e5] at hR
  have hk : Kept X w w5 := by
    have : Kept X w w1 := by rw [e1]; exact (Kept.refl X w).alloc _
    exact (((this.trans (k2 _)).trans (k3 _)).trans (k4 _)).trans (k5 _)
  have fin := (say_N _ hR _ 4 _ [[-N, a, b], [-N, -a, -b], [N, -a, b], [N, a, -b]] (Lib.hid ⟨rfl, by decide⟩) hY hq (by intro u hu; simp at hu; rcases hu with rfl | rfl | rfl | rfl <;> rfl) (by simpa using hcl) (by omega)).mono (R' := fun e w' => e = .returned (.tuple #[]) ∧ GR X base w' gb ⟨g.n, g.cl ++ [[-N, a, b], [-N, -a, -b], [N, -a, b], [N, a, -b]], g.an, g.xo⟩ ∧ Kept X w w') (fun e w' ⟨h1, h2, h3⟩ => ⟨h1, h2, hk.trans h3⟩)
  rw [e5, e4, e3, e2, e1] at fin
  exact fin
noncomputable def tail77 : Code := sndN 5 (Tryz.f114.body.getD .skip)
theorem oddKey_no {a b sg : Int} (h : oddKey a b sg = none) : (a == b) = false ∧ (a == 1) = false := by
  unfold oddKey at h
  split at h
  · cases h
  split at h
  · cases h
  simp only [beq_eq_false_iff_ne, ne_eq]
  omega
section
variable (X : Nat → Prop) (base gb : Nat) (g : G) (w : World) (a b sg : Int) (Q : Exit → Act → World → Prop)
variable (hQ : Hid (∀ (a' : Act) (w' : World) (r : Int), a'.defers = [] → a'.tmps.getD 6 undef = .int .i64 r → (r = (oddS g a b sg).2 ∧ GR X base w' gb (oddS g a b sg).1 ∧ Kept X w w') → Q .ret a' w'))
variable (hP : Hid (∀ (ch : List PanicEntry) (a a' : Act) (w : World), a.defers = a'.defers → Q (.panic ch) a w → Q (.panic ch) a' w))
variable {z3 z4 z5 z6 z8 z9 z10 z11 z12 z13 z14 z15 z16 z17 z18 z19 z20 z21 z22 z23 z24 z25 z26 z27 z28 z29 z30 z31 z32 z33 z34 z35 z36 z37 z38 z39 z40 z41 z42 z43 z44 z45 z46 z47 z48 z49 z50 z51 z52 z53 z54 z55 z56 z57 z58 z59 z60 z61 z62 z63 z64 z65 z66 z67 z68 z69 z70 z71 z72 z73 z74 z75 z76 z77 z78 z79 z80 z81 z82 z83 z84 z85 z86 z87 z88 z89 z90 z91 : Value}
set_option maxRecDepth 100000 in
set_option maxHeartbeats 1000000 in
include hQ in
theorem tail77_key (h : GR X base w gb g) (ha : 0 ≤ a ∧ a ≤ 1048576) (hb : 0 ≤ b ∧ b ≤ 1048576) (hs : sg = 1 ∨ sg = -1) (r : Int) (hr : oddKey a b sg = some r) : Code.wp Tryz.prog tail77 Q ⟨#[.pointer (some ⟨gb, 0, none⟩), .int .i64 a, .int .i64 b, z3, z4, z5, z6, .int .i64 sg, z8, z9, z10, z11, z12, z13, z14, z15, z16, z17, z18, z19, z20, z21, z22, z23, z24, z25, z26, z27, z28, z29, z30, z31, z32, z33, z34, z35, z36, z37, z38, z39, z40, z41, z42, z43, z44, z45, z46, z47, z48, z49, z50, z51, z52, z53, z54, z55, z56, z57, z58, z59, z60, z61, z62, z63, z64, z65, z66, z67, z68, z69, z70, z71, z72, z73, z74, z75, z76, z77, z78, z79, z80, z81, z82, z83, z84, z85, z86, z87, z88, z89, z90, z91], []⟩ w := by
  have hres : Hid ((oddS g a b sg) = (g, r)) := Lib.hid (by unfold oddS; rw [hr])
  have H := Lib.hid h
  unfold oddKey at hr
  clear h
  by_cases e1 : a = b
  · rw [if_pos e1] at hr
    obtain rfl : -1 * sg = r := by injection hr
    subst e1
    clear hr
    rcases hs with rfl | rfl
    all_goals
      conv => arg 2; whnf
      (repeat (first | (with_reducible first | refine xA ?_ | refine xB ?_ | refine xC ?_ | refine xD ?_ | refine xH ?_ | refine xI rfl ?_ | refine xE ?_ | refine xF ?_ | refine xG ?_) | go_values | go_skip | go_guarded | go_step | go_upon | go_back | ((with_reducible show Oper.upon _ _ _ _ _ _); go_simp) | (dsimp only)))
      exact hQ.out _ _ _ rfl rfl ⟨by rw [hres.out]; rfl, by rw [hres.out]; exact H.out, Kept.refl _ _⟩
  · rw [if_neg e1] at hr
    have f1 : (a == b) = false := by simpa using e1
    by_cases e2 : a = 1
    · rw [if_pos e2] at hr
      obtain rfl : -b * sg = r := by injection hr
      subst e2
      clear hr e1
      rcases hs with rfl | rfl
      all_goals
        conv => arg 2; whnf
        (repeat (first | (with_reducible first | refine xA ?_ | refine xB ?_ | refine xC ?_ | refine xD ?_ | refine xH ?_ | refine xI rfl ?_ | refine xE ?_ | refine xF ?_ | refine xG ?_) | go_values | go_skip | go_guarded | go_step | go_upon | go_back | ((with_reducible show Oper.upon _ _ _ _ _ _); go_simp) | (dsimp only)))
        exact hQ.out _ _ _ rfl rfl ⟨by rw [hres.out]; dsimp only; omega, by rw [hres.out]; exact H.out, Kept.refl _ _⟩
    · rw [if_neg e2] at hr; cases hr
set_option maxRecDepth 100000 in
set_option maxHeartbeats 1000000 in
include hQ hP in
theorem tail77_look {v : Value} {ma mx : Nat} {xs : List Value} (h : GRep X base w gb g v ma mx xs) (ha : 0 ≤ a ∧ a ≤ 1048576) (hb : 0 ≤ b ∧ b ≤ 1048576) (hs : sg = 1 ∨ sg = -1) (hr : oddKey a b sg = none) (z : Int) (hz : look g.xo a b = some z) (hzb : -1048576 ≤ z ∧ z ≤ 1048576) : Code.wp Tryz.prog tail77 Q ⟨#[.pointer (some ⟨gb, 0, none⟩), .int .i64 a, .int .i64 b, z3, z4, z5, z6, .int .i64 sg, z8, z9, z10, z11, z12, z13, z14, z15, z16, z17, z18, z19, z20, z21, z22, z23, z24, z25, z26, z27, z28, z29, z30, z31, z32, z33, z34, z35, z36, z37, z38, z39, z40, z41, z42, z43, z44, z45, z46, z47, z48, z49, z50, z51, z52, z53, z54, z55, z56, z57, z58, z59, z60, z61, z62, z63, z64, z65, z66, z67, z68, z69, z70, z71, z72, z73, z74, z75, z76, z77, z78, z79, z80, z81, z82, z83, z84, z85, z86, z87, z88, z89, z90, z91], []⟩ w := by
  have hres : Hid ((oddS g a b sg) = (g, z * sg)) := Lib.hid (by unfold oddS; rw [hr, hz])
  obtain ⟨f1, f2⟩ := oddKey_no hr
  have hl : Hid ((if true then Value.tuple #[(getM (mapOf g.xo) (a, b)).getD (.int .i64 0), .bool (getM (mapOf g.xo) (a, b)).isSome] else (getM (mapOf g.xo) (a, b)).getD (.int .i64 0)) = Value.tuple #[.int .i64 z, .bool true]) := Lib.hid (by rw [look_get, hz]; rfl)
  have h2 := h.alloc (.cells #[.int .i64 a, .int .i64 b] 168)
  have hkb := heap_alloc_new w (.cells #[.int .i64 a, .int .i64 b] 168)
  have HS0 := Lib.hid (show (fun u : World => u.heap[gb]? = some (.cells #[.int .i64 g.n, v, .map (some ma), .map (some mx)] 98 (0, 0)) ∧ u.heap[w.heap.size]? = some (.cells #[.int .i64 a, .int .i64 b] 168 (0, 0)) ∧ MapV encP okP u mx (mapOf g.xo)) ({ (w.alloc (.cells #[.int .i64 a, .int .i64 b] 168)) with drawn := ((w.alloc (.cells #[.int .i64 a, .int .i64 b] 168))).drawn + 1 } : World) from ⟨h2.box, hkb, h2.xo⟩)
  have HR := Lib.hid (show GRep X base ({ (w.alloc (.cells #[.int .i64 a, .int .i64 b] 168)) with drawn := ((w.alloc (.cells #[.int .i64 a, .int .i64 b] 168))).drawn + 1 } : World) gb g v ma mx xs ∧ Kept X w ({ (w.alloc (.cells #[.int .i64 a, .int .i64 b] 168)) with drawn := ((w.alloc (.cells #[.int .i64 a, .int .i64 b] 168))).drawn + 1 } : World) from ⟨h2.same ⟨rfl, rfl, rfl, Nat.le_refl _, fun _ _ _ => rfl⟩, ((Kept.refl X w).alloc _).drew 1⟩)
  have HK := Lib.hid (key_of (a := a) (b := b) (by omega) (by omega))
  clear h h2 hr hz hkb
  rcases hs with rfl | rfl
  all_goals
    conv => arg 2; whnf
    (repeat (first | (with_reducible first | refine xA ?_ | refine xB ?_ | refine xC ?_ | refine xD ?_ | refine xH ?_ | refine xI rfl ?_ | refine xE ?_ | refine xF ?_ | refine xG ?_) | go_values | go_skip | go_guarded | go_step | go_upon | go_back | ((with_reducible show Oper.upon _ _ _ _ _ _); go_simp) | (dsimp only)))
    refine wp_region_held (S := (fun u : World => u.heap[gb]? = some (.cells #[.int .i64 g.n, v, .map (some ma), .map (some mx)] 98 (0, 0)) ∧ u.heap[w.heap.size]? = some (.cells #[.int .i64 a, .int .i64 b] 168 (0, 0)) ∧ MapV encP okP u mx (mapOf g.xo))) (by kernel_rfl) ?_
    have HS := HS0.out
    replace HR := HR.out
    clear HS0
    generalize ({ (w.alloc _) with drawn := _ } : World) = u3 at *
    refine wpAnyH_take (i := 0) (v := .pointer (some ⟨gb, 0, none⟩)) rfl (by kernel_rfl) (by kernel_rfl) (by kernel_rfl) (fun ch a w h => hP.out ch (a.put _ _) a w (put_defers a _ _) h) (Or.inl ⟨rfl, fun w _ => by go_simp⟩) HS ?_; simp only [Act.put, qz1, qz2, qz3, qz4, qz5, qz6]; refine wpAnyH_take (i := 1) (v := .pointer (some ⟨gb, 0, none⟩)) rfl (by kernel_rfl) (by kernel_rfl) (by kernel_rfl) (fun ch a w h => hP.out ch (a.put _ _) a w (put_defers a _ _) h) (Or.inl ⟨rfl, fun w _ => by go_simp⟩) HS ?_; simp only [Act.put, qz1, qz2, qz3, qz4, qz5, qz6]
    refine wpAnyH_take (i := 2) (v := .pointer (some ⟨gb, 3, none⟩)) rfl (by kernel_rfl) (by kernel_rfl) (by kernel_rfl) (fun ch a w h => hP.out ch (a.put _ _) a w (put_defers a _ _) h) (Or.inl ⟨rfl, fun w _ => by go_simp⟩) HS ?_
    simp only [Act.put, qz1, qz2, qz3, qz4, qz5, qz6]
    refine wpAnyH_take (i := 3) (v := .map (some mx)) rfl (by kernel_rfl) (by kernel_rfl) (by kernel_rfl) (fun ch a w h => hP.out ch (a.put _ _) a w (put_defers a _ _) h) (Or.inl ⟨rfl, fun w hw => by have hx := (box4g hw.1).2.2.2.1; go_simp⟩) HS ?_
    simp only [Act.put, qz1, qz2, qz3, qz4, qz5, qz6]
    refine wpAnyH_take (i := 4) rfl (by kernel_rfl) (by kernel_rfl) (by kernel_rfl) (fun ch a w h => hP.out ch (a.put _ _) a w (put_defers a _ _) h) (yields_arr (fun _ h => h.2.1) rfl _ rfl rfl Tryz.underlying168 size130) HS ?_
    simp only [Act.put, qz1, qz2, qz3, qz4, qz5, qz6]
    refine wpAnyH_take (i := 5) rfl (by kernel_rfl) (by kernel_rfl) (by kernel_rfl) (fun ch a w h => hP.out ch (a.put _ _) a w (put_defers a _ _) h) (yields_look keyP Tryz.underlying96 zero3 (fun _ h => h.2.2) rfl _ _ _ rfl rfl rfl HK.out _ hl.out) HS ?_
    simp only [Act.put, qz1, qz2, qz3, qz4, qz5, qz6]
    refine wpAnyH_take (i := 6) (v := .tuple #[.int .i64 z, .bool true]) rfl (by kernel_rfl) (by kernel_rfl) (by kernel_rfl) (fun ch a w h => hP.out ch (a.put _ _) a w (put_defers a _ _) h) (Or.inl ⟨rfl, fun w _ => by go_simp⟩) HS ?_
    simp only [Act.put, qz1, qz2, qz3, qz4, qz5, qz6]
    refine wpAnyH_take (i := 7) (v := .int .i64 z) rfl (by kernel_rfl) (by kernel_rfl) (by kernel_rfl) (fun ch a w h => hP.out ch (a.put _ _) a w (put_defers a _ _) h) (Or.inl ⟨rfl, fun w _ => by go_simp⟩) HS ?_
    simp only [Act.put, qz1, qz2, qz3, qz4, qz5, qz6]
    refine wpAnyH_take (i := 8) (v := .bool true) rfl (by kernel_rfl) (by kernel_rfl) (by kernel_rfl) (fun ch a w h => hP.out ch (a.put _ _) a w (put_defers a _ _) h) (Or.inl ⟨rfl, fun w _ => by go_simp⟩) HS ?_
    simp only [Act.put, qz1, qz2, qz3, qz4, qz5, qz6]
    refine wpAnyH_take (i := 9) (v := .int .i64 z) rfl (by kernel_rfl) (by kernel_rfl) (by kernel_rfl) (fun ch a w h => hP.out ch (a.put _ _) a w (put_defers a _ _) h) (Or.inl ⟨rfl, fun w _ => by go_simp⟩) HS ?_
    simp only [Act.put, qz1, qz2, qz3, qz4, qz5, qz6]
    refine wpAnyH_take (i := 10) (v := .bool true) rfl (by kernel_rfl) (by kernel_rfl) (by kernel_rfl) (fun ch a w h => hP.out ch (a.put _ _) a w (put_defers a _ _) h) (Or.inl ⟨rfl, fun w _ => by go_simp⟩) HS ?_
    simp only [Act.put, qz1, qz2, qz3, qz4, qz5, qz6]
    refine wpAnyH_done (by kernel_rfl) ?_ _
    (repeat (first | (with_reducible first | refine xA ?_ | refine xB ?_ | refine xC ?_ | refine xD ?_ | refine xH ?_ | refine xI rfl ?_ | refine xE ?_ | refine xF ?_ | refine xG ?_) | go_values | go_skip | go_guarded | go_step | go_upon | go_back | ((with_reducible show Oper.upon _ _ _ _ _ _); go_simp) | (dsimp only)))
    exact hQ.out _ _ _ rfl rfl ⟨by rw [hres.out]; dsimp only; omega, by rw [hres.out]; exact ⟨_, _, _, _, HR.1⟩, HR.2⟩
set_option maxRecDepth 100000 in
set_option maxHeartbeats 2000000 in
include hQ hP in
theorem tail77_new {v : Value} {ma mx : Nat} {xs : List Value} (h : GRep X base w gb g v ma mx xs) (ha : 0 ≤ a ∧ a ≤ 1048576) (hb : 0 ≤ b ∧ b ≤ 1048576) (hs : sg = 1 ∨ sg = -1) (hr : oddKey a b sg = none) (hz : look g.xo a b = none) (hn : g.n < 1048576) (hba : base ≤ w.heap.size) (N : Int) (hN : (g.n : Int) + 1 = N) : Code.wp Tryz.prog tail77 Q ⟨#[.pointer (some ⟨gb, 0, none⟩), .int .i64 a, .int .i64 b, z3, z4, z5, z6, .int .i64 sg, z8, z9, z10, z11, z12, z13, z14, z15, z16, z17, z18, z19, z20, z21, z22, z23, z24, z25, z26, z27, z28, z29, z30, z31, z32, z33, z34, z35, z36, z37, z38, z39, z40, z41, z42, z43, z44, z45, z46, z47, z48, z49, z50, z51, z52, z53, z54, z55, z56, z57, z58, z59, z60, z61, z62, z63, z64, z65, z66, z67, z68, z69, z70, z71, z72, z73, z74, z75, z76, z77, z78, z79, z80, z81, z82, z83, z84, z85, z86, z87, z88, z89, z90, z91], []⟩ w := by
  have hres : Hid ((oddS g a b sg) = (⟨g.n + 1, g.cl ++ [[-N, a, b], [-N, -a, -b], [N, -a, b], [N, a, -b]], g.an, g.xo ++ [((a, b), N)]⟩, N * sg)) := Lib.hid (by unfold oddS; rw [hr, hz, ← hN])
  obtain ⟨f1, f2⟩ := oddKey_no hr
  have hl : Hid ((if true then Value.tuple #[(getM (mapOf g.xo) (a, b)).getD (.int .i64 0), .bool (getM (mapOf g.xo) (a, b)).isSome] else (getM (mapOf g.xo) (a, b)).getD (.int .i64 0)) = Value.tuple #[.int .i64 0, .bool false]) := Lib.hid (by rw [look_get, hz]; rfl)
  have h2 := h.own (.cells #[.int .i64 a, .int .i64 b] 168)
  have hkb := heap_alloc_new w (.cells #[.int .i64 a, .int .i64 b] 168)
  have HS0 := Lib.hid (show (fun u : World => u.heap[gb]? = some (.cells #[.int .i64 g.n, v, .map (some ma), .map (some mx)] 98 (0, 0)) ∧ u.heap[w.heap.size]? = some (.cells #[.int .i64 a, .int .i64 b] 168 (0, 0)) ∧ MapV encP okP u mx (mapOf g.xo)) ({ (w.alloc (.cells #[.int .i64 a, .int .i64 b] 168)) with drawn := ((w.alloc (.cells #[.int .i64 a, .int .i64 b] 168))).drawn + 1 } : World) from ⟨h2.box, hkb, h2.xo⟩)
  have HR := Lib.hid (show GRep (fun k => X k ∨ k = w.heap.size) base ({ (w.alloc (.cells #[.int .i64 a, .int .i64 b] 168)) with drawn := ((w.alloc (.cells #[.int .i64 a, .int .i64 b] 168))).drawn + 1 } : World) gb g v ma mx xs ∧ Kept (fun k => X k ∨ k = w.heap.size) w ({ (w.alloc (.cells #[.int .i64 a, .int .i64 b] 168)) with drawn := ((w.alloc (.cells #[.int .i64 a, .int .i64 b] 168))).drawn + 1 } : World) from ⟨h2.same ⟨rfl, rfl, rfl, Nat.le_refl _, fun _ _ _ => rfl⟩, ((Kept.refl _ w).alloc _).drew 1⟩)
  have HK := Lib.hid (key_of (a := a) (b := b) (by omega) (by omega))
  have Hz := Lib.hid hz
  have HC := Lib.hid (show g.cl.length + 4 ≤ 4 * (g.n + 1) by have := h.cl; omega)
  have HBs := Lib.hid hba
  have Hn := Lib.hid hn
  have HN := Lib.hid hN
  have hN0 : 1 ≤ N := by omega
  have hN1 : N ≤ 1048576 := by omega
  clear h h2 hr hz hkb hn hba hN
  rcases hs with rfl | rfl
  all_goals
    conv => arg 2; whnf
    (repeat (first | (with_reducible first | refine xA ?_ | refine xB ?_ | refine xC ?_ | refine xD ?_ | refine xH ?_ | refine xI rfl ?_ | refine xE ?_ | refine xF ?_ | refine xG ?_) | go_values | go_skip | go_guarded | go_step | go_upon | go_back | ((with_reducible show Oper.upon _ _ _ _ _ _); go_simp) | (dsimp only)))
    refine wp_region_held (S := (fun u : World => u.heap[gb]? = some (.cells #[.int .i64 g.n, v, .map (some ma), .map (some mx)] 98 (0, 0)) ∧ u.heap[w.heap.size]? = some (.cells #[.int .i64 a, .int .i64 b] 168 (0, 0)) ∧ MapV encP okP u mx (mapOf g.xo))) (by kernel_rfl) ?_
    have HS := HS0.out
    obtain ⟨hR, hK⟩ := HR.out
    clear HS0 HR
    generalize ({ (w.alloc _) with drawn := _ } : World) = u3 at *
    refine wpAnyH_take (i := 0) (v := .pointer (some ⟨gb, 0, none⟩)) rfl (by kernel_rfl) (by kernel_rfl) (by kernel_rfl) (fun ch a w h => hP.out ch (a.put _ _) a w (put_defers a _ _) h) (Or.inl ⟨rfl, fun w _ => by go_simp⟩) HS ?_; simp only [Act.put, qz1, qz2, qz3, qz4, qz5, qz6]; refine wpAnyH_take (i := 1) (v := .pointer (some ⟨gb, 0, none⟩)) rfl (by kernel_rfl) (by kernel_rfl) (by kernel_rfl) (fun ch a w h => hP.out ch (a.put _ _) a w (put_defers a _ _) h) (Or.inl ⟨rfl, fun w _ => by go_simp⟩) HS ?_; simp only [Act.put, qz1, qz2, qz3, qz4, qz5, qz6]
    refine wpAnyH_take (i := 2) (v := .pointer (some ⟨gb, 3, none⟩)) rfl (by kernel_rfl) (by kernel_rfl) (by kernel_rfl) (fun ch a w h => hP.out ch (a.put _ _) a w (put_defers a _ _) h) (Or.inl ⟨rfl, fun w _ => by go_simp⟩) HS ?_
    simp only [Act.put, qz1, qz2, qz3, qz4, qz5, qz6]
    refine wpAnyH_take (i := 3) (v := .map (some mx)) rfl (by kernel_rfl) (by kernel_rfl) (by kernel_rfl) (fun ch a w h => hP.out ch (a.put _ _) a w (put_defers a _ _) h) (Or.inl ⟨rfl, fun w hw => by have hx := (box4g hw.1).2.2.2.1; go_simp⟩) HS ?_
    simp only [Act.put, qz1, qz2, qz3, qz4, qz5, qz6]
    refine wpAnyH_take (i := 4) rfl (by kernel_rfl) (by kernel_rfl) (by kernel_rfl) (fun ch a w h => hP.out ch (a.put _ _) a w (put_defers a _ _) h) (yields_arr (fun _ h => h.2.1) rfl _ rfl rfl Tryz.underlying168 size130) HS ?_
    simp only [Act.put, qz1, qz2, qz3, qz4, qz5, qz6]
    refine wpAnyH_take (i := 5) rfl (by kernel_rfl) (by kernel_rfl) (by kernel_rfl) (fun ch a w h => hP.out ch (a.put _ _) a w (put_defers a _ _) h) (yields_look keyP Tryz.underlying96 zero3 (fun _ h => h.2.2) rfl _ _ _ rfl rfl rfl HK.out _ hl.out) HS ?_
    simp only [Act.put, qz1, qz2, qz3, qz4, qz5, qz6]
    refine wpAnyH_take (i := 6) (v := .tuple #[.int .i64 0, .bool false]) rfl (by kernel_rfl) (by kernel_rfl) (by kernel_rfl) (fun ch a w h => hP.out ch (a.put _ _) a w (put_defers a _ _) h) (Or.inl ⟨rfl, fun w _ => by go_simp⟩) HS ?_
    simp only [Act.put, qz1, qz2, qz3, qz4, qz5, qz6]
    refine wpAnyH_take (i := 7) (v := .int .i64 0) rfl (by kernel_rfl) (by kernel_rfl) (by kernel_rfl) (fun ch a w h => hP.out ch (a.put _ _) a w (put_defers a _ _) h) (Or.inl ⟨rfl, fun w _ => by go_simp⟩) HS ?_
    simp only [Act.put, qz1, qz2, qz3, qz4, qz5, qz6]
    refine wpAnyH_take (i := 8) (v := .bool false) rfl (by kernel_rfl) (by kernel_rfl) (by kernel_rfl) (fun ch a w h => hP.out ch (a.put _ _) a w (put_defers a _ _) h) (Or.inl ⟨rfl, fun w _ => by go_simp⟩) HS ?_
    simp only [Act.put, qz1, qz2, qz3, qz4, qz5, qz6]
    refine wpAnyH_take (i := 9) (v := .int .i64 0) rfl (by kernel_rfl) (by kernel_rfl) (by kernel_rfl) (fun ch a w h => hP.out ch (a.put _ _) a w (put_defers a _ _) h) (Or.inl ⟨rfl, fun w _ => by go_simp⟩) HS ?_
    simp only [Act.put, qz1, qz2, qz3, qz4, qz5, qz6]
    refine wpAnyH_take (i := 10) (v := .bool false) rfl (by kernel_rfl) (by kernel_rfl) (by kernel_rfl) (fun ch a w h => hP.out ch (a.put _ _) a w (put_defers a _ _) h) (Or.inl ⟨rfl, fun w _ => by go_simp⟩) HS ?_
    simp only [Act.put, qz1, qz2, qz3, qz4, qz5, qz6]
    refine wpAnyH_done (by kernel_rfl) ?_ _
    have hkb := HS.2.1
    clear HS hl
    (repeat (first | (with_reducible first | refine xA ?_ | refine xB ?_ | refine xC ?_ | refine xD ?_ | refine xH ?_ | refine xI rfl ?_ | refine xE ?_ | refine xF ?_ | refine xG ?_) | go_skip | go_guarded | (go_at_call 106; (with_reducible refine (fresh_N _ hR Hn N HN).mono ?_); rintro _ w1 ⟨rfl, hR1, hk1⟩; replace hK := hK.trans hk1; replace hkb := hk1.at hkb (.inr rfl); have hsz1 := hk1.size; clear hR hk1) | (go_at_call 133; (with_reducible refine (say_xor _ hR1 N a b HC.out (Nat.le_trans HBs.out hK.size)).mono ?_); rintro _ w2 ⟨rfl, hG, hk2⟩; replace hK := hK.trans hk2; replace hkb := hk2.at hkb (.inr rfl); clear hR1 hk2; obtain ⟨v2, ma2, mx2, xs2, hR2⟩ := hG) | go_values | go_skip | go_guarded | go_step | go_upon | go_back | ((with_reducible show Oper.upon _ _ _ _ _ _); go_simp) | (dsimp only)))
    refine wp_region_held (S := (fun u : World => u.heap[gb]? = some (.cells #[.int .i64 (g.n + 1 : Nat), v2, .map (some ma2), .map (some mx2)] 98 (0, 0)) ∧ u.heap[w.heap.size]? = some (.cells #[.int .i64 a, .int .i64 b] 168 (0, 0)))) (by kernel_rfl) ?_
    have HS : (fun u : World => u.heap[gb]? = some (.cells #[.int .i64 (g.n + 1 : Nat), v2, .map (some ma2), .map (some mx2)] 98 (0, 0)) ∧ u.heap[w.heap.size]? = some (.cells #[.int .i64 a, .int .i64 b] 168 (0, 0))) ({ w2 with drawn := w2.drawn + 1 } : World) := ⟨hR2.box, hkb⟩
    have hR3 : GRep _ base ({ w2 with drawn := w2.drawn + 1 } : World) gb _ v2 ma2 mx2 xs2 := hR2.same ⟨rfl, rfl, rfl, Nat.le_refl _, fun _ _ _ => rfl⟩
    replace hK : Kept _ w ({ w2 with drawn := w2.drawn + 1 } : World) := hK.drew 1
    clear hkb hR2
    generalize ({ w2 with drawn := w2.drawn + 1 } : World) = u4 at *
    refine wpAnyH_take (i := 0) (v := .pointer (some ⟨gb, 0, none⟩)) rfl (by kernel_rfl) (by kernel_rfl) (by kernel_rfl) (fun ch a w h => hP.out ch (a.put _ _) a w (put_defers a _ _) h) (Or.inl ⟨rfl, fun w _ => by go_simp⟩) HS ?_; simp only [Act.put, qz1, qz2, qz3, qz4, qz5, qz6]; refine wpAnyH_take (i := 1) (v := .pointer (some ⟨gb, 0, none⟩)) rfl (by kernel_rfl) (by kernel_rfl) (by kernel_rfl) (fun ch a w h => hP.out ch (a.put _ _) a w (put_defers a _ _) h) (Or.inl ⟨rfl, fun w _ => by go_simp⟩) HS ?_; simp only [Act.put, qz1, qz2, qz3, qz4, qz5, qz6]
    refine wpAnyH_take (i := 2) (v := .pointer (some ⟨gb, 3, none⟩)) rfl (by kernel_rfl) (by kernel_rfl) (by kernel_rfl) (fun ch a w h => hP.out ch (a.put _ _) a w (put_defers a _ _) h) (Or.inl ⟨rfl, fun w _ => by go_simp⟩) HS ?_
    simp only [Act.put, qz1, qz2, qz3, qz4, qz5, qz6]
    refine wpAnyH_take (i := 3) (v := .map (some mx2)) rfl (by kernel_rfl) (by kernel_rfl) (by kernel_rfl) (fun ch a w h => hP.out ch (a.put _ _) a w (put_defers a _ _) h) (Or.inl ⟨rfl, fun w hw => by have hx := (box4g hw.1).2.2.2.1; go_simp⟩) HS ?_
    simp only [Act.put, qz1, qz2, qz3, qz4, qz5, qz6]
    refine wpAnyH_take (i := 4) rfl (by kernel_rfl) (by kernel_rfl) (by kernel_rfl) (fun ch a w h => hP.out ch (a.put _ _) a w (put_defers a _ _) h) (yields_arr (fun _ h => h.2) rfl _ rfl rfl Tryz.underlying168 size130) HS ?_
    simp only [Act.put, qz1, qz2, qz3, qz4, qz5, qz6]
    refine wpAnyH_take (i := 5) (v := .int .i64 N) rfl (by kernel_rfl) (by kernel_rfl) (by kernel_rfl) (fun ch a w h => hP.out ch (a.put _ _) a w (put_defers a _ _) h) (Or.inl ⟨rfl, fun w _ => by go_simp⟩) HS ?_
    simp only [Act.put, qz1, qz2, qz3, qz4, qz5, qz6]
    refine wpAnyH_all (rs := [6]) (by kernel_rfl) (by simp) (fun i hi => ?_)
    obtain rfl : i = 6 := by simpa using hi
    refine wpOp_one rfl ?_
    have hM3 := hR3.xo
    (repeat (first | (with_reducible first | refine xA ?_ | refine xB ?_ | refine xC ?_ | refine xD ?_ | refine xH ?_ | refine xI rfl ?_ | refine xE ?_ | refine xF ?_ | refine xG ?_) | go_skip | go_guarded | ((with_reducible refine wl_id ?_); refine wl_mapUpdate rfl _ _ _ 96 rfl _ _ keyP Tryz.underlying96 mx2 _ rfl hM3 (a, b) rfl HK.out (.int .i64 N) rfl ?_; intro w5 hM hg; clear hM3; (try simp only [Act.put, qz4, qz5, qz6])) | go_values | go_skip | go_guarded | go_step | go_upon | go_back | ((with_reducible show Oper.upon _ _ _ _ _ _); go_simp) | (dsimp only)))
    rw [put_new Hz.out] at hM
    obtain ⟨hR4, hk4⟩ := hR3.putX hg hM
    refine ⟨⟨hR4.box, hk4.at HS.2 (.inr rfl)⟩, ?_⟩
    refine wpAnyH_done (by kernel_rfl) ?_ _
    (repeat (first | (with_reducible first | refine xA ?_ | refine xB ?_ | refine xC ?_ | refine xD ?_ | refine xH ?_ | refine xI rfl ?_ | refine xE ?_ | refine xF ?_ | refine xG ?_) | go_values | go_skip | go_guarded | go_step | go_upon | go_back | ((with_reducible show Oper.upon _ _ _ _ _ _); go_simp) | (dsimp only)))
    exact hQ.out _ _ _ rfl rfl ⟨by rw [hres.out]; dsimp only; omega, by rw [hres.out]; exact ⟨_, _, _, _, hR4.less fun k hk => .inl hk⟩, (hK.trans hk4).mono fun k _ hk => .inl hk⟩
end
end Go.Proofs.YtmaogkgjiplckaaGreat
namespace Go.Proofs.YtmaogkgjiplckaaGreat
open Go.RowKit
theorem rng_of {n : Nat} {x : Int} (h : isL n x) (hn : n ≤ 1048576) : -1048576 ≤ x ∧ x ≤ 1048576 := by obtain ⟨_, h1, h2⟩ := h; omega
theorem GR.n1 {X : Nat → Prop} {base : Nat} {w : World} {gb : Nat} {g : G} (h : GR X base w gb g) : g.n ≤ 1048576 := by obtain ⟨v, ma, mx, xs, h⟩ := h; exact h.n1
theorem both_any {X : Nat → Prop} {base gb : Nat} {g : G} (w : World) (h : GR X base w gb g) (hn : Hid (g.n < 1048576)) (hba : base ≤ w.heap.size) (x y : Int) (hx : Hid (isL g.n x)) (hy : Hid (isL g.n y)) (r : G × Int) (hr : Hid (both g x y = r)) :
    Calls Tryz.prog 112 #[.pointer (some ⟨gb, 0, none⟩), .int .i64 x, .int .i64 y] w fun e w' => e = .returned (.int .i64 r.2) ∧ GR X base w' gb r.1 ∧ Kept X w w' := by
  have bx := rng_of hx.out h.n1
  have by' := rng_of hy.out h.n1
  have hr := hr.out
  subst hr
  unfold both
  obtain ⟨a, ea⟩ : ∃ a, min x y = a := ⟨_, rfl⟩
  obtain ⟨b, eb⟩ : ∃ b, max x y = b := ⟨_, rfl⟩
  rw [ea, eb]
  rcases hk : bothKey a b with _ | r
  · have hab : (a = x ∧ b = y) ∨ (b = x ∧ a = y) := by omega
    obtain ⟨v, ma, mx, xs, h⟩ := h
    rcases hz : look g.an a b with _ | z
    · refine (both_new w h x y a b (by omega) (by omega) hab (by omega) hk hz hn.out hba _ rfl).mono ?_
      rintro e w' ⟨h1, h2, h3⟩
      have hb : bothS g a b = (⟨g.n + 1, g.cl ++ [[-(g.n + 1 : Int), a], [-(g.n + 1 : Int), b], [(g.n + 1 : Int), -a, -b]], g.an ++ [((a, b), (g.n + 1 : Int))], g.xo⟩, (g.n + 1 : Int)) := by unfold bothS; rw [hk]; dsimp only; rw [hz]
      rw [hb]
      exact ⟨h1, h2, h3⟩
    · refine (both_look w h x y a b (by omega) (by omega) hab (by omega) hk z hz).mono ?_
      rintro e w' ⟨h1, h2, h3⟩
      have hb : bothS g a b = (g, z) := by unfold bothS; rw [hk]; dsimp only; rw [hz]
      rw [hb]
      exact ⟨h1, ⟨_, _, _, _, h2⟩, h3⟩
  · refine (both_key w h x y a b r bx by' ea eb hk).mono ?_
    rintro e w' ⟨h1, rfl⟩
    have hb : bothS g a b = (g, r) := by unfold bothS; rw [hk]
    rw [hb]
    exact ⟨h1, h, Kept.refl _ _⟩
section
variable (X : Nat → Prop) (base gb : Nat) (g : G) (w : World) (a b sg : Int) (Q : Exit → Act → World → Prop)
variable (hQ : Hid (∀ (a' : Act) (w' : World) (r : Int), a'.defers = [] → a'.tmps.getD 6 undef = .int .i64 r → (r = (oddS g a b sg).2 ∧ GR X base w' gb (oddS g a b sg).1 ∧ Kept X w w') → Q .ret a' w'))
variable (hP : Hid (∀ (ch : List PanicEntry) (a a' : Act) (w : World), a.defers = a'.defers → Q (.panic ch) a w → Q (.panic ch) a' w))
variable {z3 z4 z5 z6 z8 z9 z10 z11 z12 z13 z14 z15 z16 z17 z18 z19 z20 z21 z22 z23 z24 z25 z26 z27 z28 z29 z30 z31 z32 z33 z34 z35 z36 z37 z38 z39 z40 z41 z42 z43 z44 z45 z46 z47 z48 z49 z50 z51 z52 z53 z54 z55 z56 z57 z58 z59 z60 z61 z62 z63 z64 z65 z66 z67 z68 z69 z70 z71 z72 z73 z74 z75 z76 z77 z78 z79 z80 z81 z82 z83 z84 z85 z86 z87 z88 z89 z90 z91 : Value}
set_option maxRecDepth 100000 in
include hQ hP in
theorem tail77_any (h : GR X base w gb g) (hn : Hid (g.n < 1048576)) (hba : base ≤ w.heap.size) (ha : 0 ≤ a ∧ a ≤ 1048576) (hb : 0 ≤ b ∧ b ≤ 1048576) (hs : sg = 1 ∨ sg = -1) (hx : Hid (∀ e ∈ g.xo, isL g.n e.2)) : Code.wp Tryz.prog tail77 Q ⟨#[.pointer (some ⟨gb, 0, none⟩), .int .i64 a, .int .i64 b, z3, z4, z5, z6, .int .i64 sg, z8, z9, z10, z11, z12, z13, z14, z15, z16, z17, z18, z19, z20, z21, z22, z23, z24, z25, z26, z27, z28, z29, z30, z31, z32, z33, z34, z35, z36, z37, z38, z39, z40, z41, z42, z43, z44, z45, z46, z47, z48, z49, z50, z51, z52, z53, z54, z55, z56, z57, z58, z59, z60, z61, z62, z63, z64, z65, z66, z67, z68, z69, z70, z71, z72, z73, z74, z75, z76, z77, z78, z79, z80, z81, z82, z83, z84, z85, z86, z87, z88, z89, z90, z91], []⟩ w := by
  rcases hk : oddKey a b sg with _ | r
  · have hn1 := h.n1
    obtain ⟨v, ma, mx, xs, h⟩ := h
    rcases hz : look g.xo a b with _ | z
    · exact tail77_new X base gb g w a b sg Q hQ hP h ha hb hs hk hz hn.out hba _ rfl
    · exact tail77_look X base gb g w a b sg Q hQ hP h ha hb hs hk z hz (rng_of (hx.out _ (look_mem hz)) hn1)
  · exact tail77_key X base gb g w a b sg Q hQ h ha hb hs r hk
end
set_option maxRecDepth 100000 in
set_option maxHeartbeats 1000000 in
theorem odd_any {X : Nat → Prop} {base gb : Nat} {g : G} (w : World) (h : GR X base w gb g) (hn : Hid (g.n < 1048576)) (hba : base ≤ w.heap.size) (x y : Int) (hx : Hid (isL g.n x)) (hy : Hid (isL g.n y)) (hxo : Hid (∀ e ∈ g.xo, isL g.n e.2)) (r : G × Int) (hr : Hid (odd g x y = r)) :
    Calls Tryz.prog 114 #[.pointer (some ⟨gb, 0, none⟩), .int .i64 x, .int .i64 y] w fun e w' => e = .returned (.int .i64 r.2) ∧ GR X base w' gb r.1 ∧ Kept X w w' := by
  have bx := rng_of hx.out h.n1
  have by' := rng_of hy.out h.n1
  have H := Lib.hid h
  have HBA := Lib.hid hba
  have key : ∀ (a b sg : Int), min (absI x) (absI y) = a → max (absI x) (absI y) = b → sgn2 x y = sg → Hid (oddS g a b sg = r) := fun a b sg e1 e2 e3 => Lib.hid (by have := hr.out; unfold odd at this; rw [e1, e2, e3] at this; exact this)
  have Key := Lib.hid key
  clear key h hba hr
  rcases Int.lt_or_le x 0 with h1 | h1 <;> rcases Int.lt_or_le y 0 with h2 | h2
  · rcases Int.lt_trichotomy (-x) (-y) with h3 | h3 | h3
    · have h3' : ¬ (-y) < (-x) := by omega
      have K := Key.out (-x) (-y) 1 (by unfold absI; rw [if_pos h1, if_pos h2]; omega) (by unfold absI; rw [if_pos h1, if_pos h2]; omega) (by unfold sgn2; rw [if_pos h1, if_pos h2]; rfl)
      go_enter Tryz.func114, Tryz.ntmps114
      (repeat (first | (with_reducible first | refine xA ?_ | refine xB ?_ | refine xC ?_ | refine xD ?_ | refine xH ?_ | refine xI rfl ?_ | refine xE ?_ | refine xF ?_ | refine xG ?_) | go_skip | go_guarded | (refine tail77_any X base gb g w (-x) (-y) 1 _ (Lib.hid fun a' w' r' hd h6 hp => bodyPost_ret (results_tmp rfl _ _ _) hd (by rw [h6, hp.1, K.out]; rw [K.out] at hp; exact ⟨rfl, hp.2⟩)) (Lib.hid fun _ _ _ _ e h => ⟨e ▸ h.1, h.2⟩) H.out hn HBA.out (by omega) (by omega) (.inl rfl) hxo) | go_values | go_skip | go_guarded | go_step | go_upon | go_back | ((with_reducible show Oper.upon _ _ _ _ _ _); go_simp) | (dsimp only)))
    · obtain rfl : x = y := by omega
      clear by' h3
      have K := Key.out (-x) (-x) 1 (by unfold absI; rw [if_pos h1]; omega) (by unfold absI; rw [if_pos h1]; omega) (by unfold sgn2; rw [if_pos h1]; rfl)
      go_enter Tryz.func114, Tryz.ntmps114
      (repeat (first | (with_reducible first | refine xA ?_ | refine xB ?_ | refine xC ?_ | refine xD ?_ | refine xH ?_ | refine xI rfl ?_ | refine xE ?_ | refine xF ?_ | refine xG ?_) | go_skip | go_guarded | (refine tail77_any X base gb g w (-x) (-x) 1 _ (Lib.hid fun a' w' r' hd h6 hp => bodyPost_ret (results_tmp rfl _ _ _) hd (by rw [h6, hp.1, K.out]; rw [K.out] at hp; exact ⟨rfl, hp.2⟩)) (Lib.hid fun _ _ _ _ e h => ⟨e ▸ h.1, h.2⟩) H.out hn HBA.out (by omega) (by omega) (.inl rfl) hxo) | go_values | go_skip | go_guarded | go_step | go_upon | go_back | ((with_reducible show Oper.upon _ _ _ _ _ _); go_simp) | (dsimp only)))
    · have h3' : ¬ (-x) < (-y) := by omega
      have K := Key.out (-y) (-x) 1 (by unfold absI; rw [if_pos h1, if_pos h2]; omega) (by unfold absI; rw [if_pos h1, if_pos h2]; omega) (by unfold sgn2; rw [if_pos h1, if_pos h2]; rfl)
      go_enter Tryz.func114, Tryz.ntmps114
      (repeat (first | (with_reducible first | refine xA ?_ | refine xB ?_ | refine xC ?_ | refine xD ?_ | refine xH ?_ | refine xI rfl ?_ | refine xE ?_ | refine xF ?_ | refine xG ?_) | go_skip | go_guarded | (refine tail77_any X base gb g w (-y) (-x) 1 _ (Lib.hid fun a' w' r' hd h6 hp => bodyPost_ret (results_tmp rfl _ _ _) hd (by rw [h6, hp.1, K.out]; rw [K.out] at hp; exact ⟨rfl, hp.2⟩)) (Lib.hid fun _ _ _ _ e h => ⟨e ▸ h.1, h.2⟩) H.out hn HBA.out (by omega) (by omega) (.inl rfl) hxo) | go_values | go_skip | go_guarded | go_step | go_upon | go_back | ((with_reducible show Oper.upon _ _ _ _ _ _); go_simp) | (dsimp only)))
  · rcases Int.lt_trichotomy (-x) y with h3 | h3 | h3
    · have h3' : ¬ y < (-x) := by omega
      have K := Key.out (-x) y (-1) (by unfold absI; rw [if_pos h1, if_neg (Int.not_lt.2 h2)]; omega) (by unfold absI; rw [if_pos h1, if_neg (Int.not_lt.2 h2)]; omega) (by unfold sgn2; rw [if_pos h1, if_neg (Int.not_lt.2 h2)]; rfl)
      go_enter Tryz.func114, Tryz.ntmps114
      (repeat (first | (with_reducible first | refine xA ?_ | refine xB ?_ | refine xC ?_ | refine xD ?_ | refine xH ?_ | refine xI rfl ?_ | refine xE ?_ | refine xF ?_ | refine xG ?_) | go_skip | go_guarded | (refine tail77_any X base gb g w (-x) y (-1) _ (Lib.hid fun a' w' r' hd h6 hp => bodyPost_ret (results_tmp rfl _ _ _) hd (by rw [h6, hp.1, K.out]; rw [K.out] at hp; exact ⟨rfl, hp.2⟩)) (Lib.hid fun _ _ _ _ e h => ⟨e ▸ h.1, h.2⟩) H.out hn HBA.out (by omega) (by omega) (.inr rfl) hxo) | go_values | go_skip | go_guarded | go_step | go_upon | go_back | ((with_reducible show Oper.upon _ _ _ _ _ _); go_simp) | (dsimp only)))
    · obtain rfl : y = -x := by omega
      clear by' h3
      have K := Key.out (-x) (-x) (-1) (by unfold absI; rw [if_pos h1, if_neg (Int.not_lt.2 h2)]; omega) (by unfold absI; rw [if_pos h1, if_neg (Int.not_lt.2 h2)]; omega) (by unfold sgn2; rw [if_pos h1, if_neg (Int.not_lt.2 h2)]; rfl)
      go_enter Tryz.func114, Tryz.ntmps114
      (repeat (first | (with_reducible first | refine xA ?_ | refine xB ?_ | refine xC ?_ | refine xD ?_ | refine xH ?_ | refine xI rfl ?_ | refine xE ?_ | refine xF ?_ | refine xG ?_) | go_skip | go_guarded | (refine tail77_any X base gb g w (-x) (-x) (-1) _ (Lib.hid fun a' w' r' hd h6 hp => bodyPost_ret (results_tmp rfl _ _ _) hd (by rw [h6, hp.1, K.out]; rw [K.out] at hp; exact ⟨rfl, hp.2⟩)) (Lib.hid fun _ _ _ _ e h => ⟨e ▸ h.1, h.2⟩) H.out hn HBA.out (by omega) (by omega) (.inr rfl) hxo) | go_values | go_skip | go_guarded | go_step | go_upon | go_back | ((with_reducible show Oper.upon _ _ _ _ _ _); go_simp) | (dsimp only)))
    · have h3' : ¬ (-x) < y := by omega
      have K := Key.out y (-x) (-1) (by unfold absI; rw [if_pos h1, if_neg (Int.not_lt.2 h2)]; omega) (by unfold absI; rw [if_pos h1, if_neg (Int.not_lt.2 h2)]; omega) (by unfold sgn2; rw [if_pos h1, if_neg (Int.not_lt.2 h2)]; rfl)
      go_enter Tryz.func114, Tryz.ntmps114
      (repeat (first | (with_reducible first | refine xA ?_ | refine xB ?_ | refine xC ?_ | refine xD ?_ | refine xH ?_ | refine xI rfl ?_ | refine xE ?_ | refine xF ?_ | refine xG ?_) | go_skip | go_guarded | (refine tail77_any X base gb g w y (-x) (-1) _ (Lib.hid fun a' w' r' hd h6 hp => bodyPost_ret (results_tmp rfl _ _ _) hd (by rw [h6, hp.1, K.out]; rw [K.out] at hp; exact ⟨rfl, hp.2⟩)) (Lib.hid fun _ _ _ _ e h => ⟨e ▸ h.1, h.2⟩) H.out hn HBA.out (by omega) (by omega) (.inr rfl) hxo) | go_values | go_skip | go_guarded | go_step | go_upon | go_back | ((with_reducible show Oper.upon _ _ _ _ _ _); go_simp) | (dsimp only)))
  · rcases Int.lt_trichotomy x (-y) with h3 | h3 | h3
    · have h3' : ¬ (-y) < x := by omega
      have K := Key.out x (-y) (-1) (by unfold absI; rw [if_neg (Int.not_lt.2 h1), if_pos h2]; omega) (by unfold absI; rw [if_neg (Int.not_lt.2 h1), if_pos h2]; omega) (by unfold sgn2; rw [if_neg (Int.not_lt.2 h1), if_pos h2]; rfl)
      go_enter Tryz.func114, Tryz.ntmps114
      (repeat (first | (with_reducible first | refine xA ?_ | refine xB ?_ | refine xC ?_ | refine xD ?_ | refine xH ?_ | refine xI rfl ?_ | refine xE ?_ | refine xF ?_ | refine xG ?_) | go_skip | go_guarded | (refine tail77_any X base gb g w x (-y) (-1) _ (Lib.hid fun a' w' r' hd h6 hp => bodyPost_ret (results_tmp rfl _ _ _) hd (by rw [h6, hp.1, K.out]; rw [K.out] at hp; exact ⟨rfl, hp.2⟩)) (Lib.hid fun _ _ _ _ e h => ⟨e ▸ h.1, h.2⟩) H.out hn HBA.out (by omega) (by omega) (.inr rfl) hxo) | go_values | go_skip | go_guarded | go_step | go_upon | go_back | ((with_reducible show Oper.upon _ _ _ _ _ _); go_simp) | (dsimp only)))
    · obtain rfl : y = -x := by omega
      clear by' h3
      have K := Key.out x x (-1) (by unfold absI; rw [if_neg (Int.not_lt.2 h1), if_pos h2]; omega) (by unfold absI; rw [if_neg (Int.not_lt.2 h1), if_pos h2]; omega) (by unfold sgn2; rw [if_neg (Int.not_lt.2 h1), if_pos h2]; rfl)
      go_enter Tryz.func114, Tryz.ntmps114
      (repeat (first | (with_reducible first | refine xA ?_ | refine xB ?_ | refine xC ?_ | refine xD ?_ | refine xH ?_ | refine xI rfl ?_ | refine xE ?_ | refine xF ?_ | refine xG ?_) | go_skip | go_guarded | (refine tail77_any X base gb g w x x (-1) _ (Lib.hid fun a' w' r' hd h6 hp => bodyPost_ret (results_tmp rfl _ _ _) hd (by rw [h6, hp.1, K.out]; rw [K.out] at hp; exact ⟨rfl, hp.2⟩)) (Lib.hid fun _ _ _ _ e h => ⟨e ▸ h.1, h.2⟩) H.out hn HBA.out (by omega) (by omega) (.inr rfl) hxo) | go_values | go_skip | go_guarded | go_step | go_upon | go_back | ((with_reducible show Oper.upon _ _ _ _ _ _); go_simp) | (dsimp only)))
    · have h3' : ¬ x < (-y) := by omega
      have K := Key.out (-y) x (-1) (by unfold absI; rw [if_neg (Int.not_lt.2 h1), if_pos h2]; omega) (by unfold absI; rw [if_neg (Int.not_lt.2 h1), if_pos h2]; omega) (by unfold sgn2; rw [if_neg (Int.not_lt.2 h1), if_pos h2]; rfl)
      go_enter Tryz.func114, Tryz.ntmps114
      (repeat (first | (with_reducible first | refine xA ?_ | refine xB ?_ | refine xC ?_ | refine xD ?_ | refine xH ?_ | refine xI rfl ?_ | refine xE ?_ | refine xF ?_ | refine xG ?_) | go_skip | go_guarded | (refine tail77_any X base gb g w (-y) x (-1) _ (Lib.hid fun a' w' r' hd h6 hp => bodyPost_ret (results_tmp rfl _ _ _) hd (by rw [h6, hp.1, K.out]; rw [K.out] at hp; exact ⟨rfl, hp.2⟩)) (Lib.hid fun _ _ _ _ e h => ⟨e ▸ h.1, h.2⟩) H.out hn HBA.out (by omega) (by omega) (.inr rfl) hxo) | go_values | go_skip | go_guarded | go_step | go_upon | go_back | ((with_reducible show Oper.upon _ _ _ _ _ _); go_simp) | (dsimp only)))
  · rcases Int.lt_trichotomy x y with h3 | h3 | h3
    · have h3' : ¬ y < x := by omega
      have K := Key.out x y 1 (by unfold absI; rw [if_neg (Int.not_lt.2 h1), if_neg (Int.not_lt.2 h2)]; omega) (by unfold absI; rw [if_neg (Int.not_lt.2 h1), if_neg (Int.not_lt.2 h2)]; omega) (by unfold sgn2; rw [if_neg (Int.not_lt.2 h1), if_neg (Int.not_lt.2 h2)]; rfl)
      go_enter Tryz.func114, Tryz.ntmps114
      (repeat (first | (with_reducible first | refine xA ?_ | refine xB ?_ | refine xC ?_ | refine xD ?_ | refine xH ?_ | refine xI rfl ?_ | refine xE ?_ | refine xF ?_ | refine xG ?_) | go_skip | go_guarded | (refine tail77_any X base gb g w x y 1 _ (Lib.hid fun a' w' r' hd h6 hp => bodyPost_ret (results_tmp rfl _ _ _) hd (by rw [h6, hp.1, K.out]; rw [K.out] at hp; exact ⟨rfl, hp.2⟩)) (Lib.hid fun _ _ _ _ e h => ⟨e ▸ h.1, h.2⟩) H.out hn HBA.out (by omega) (by omega) (.inl rfl) hxo) | go_values | go_skip | go_guarded | go_step | go_upon | go_back | ((with_reducible show Oper.upon _ _ _ _ _ _); go_simp) | (dsimp only)))
    · obtain rfl : x = y := by omega
      clear by' h3
      have K := Key.out x x 1 (by unfold absI; rw [if_neg (Int.not_lt.2 h1)]; omega) (by unfold absI; rw [if_neg (Int.not_lt.2 h1)]; omega) (by unfold sgn2; rw [if_neg (Int.not_lt.2 h1)]; rfl)
      go_enter Tryz.func114, Tryz.ntmps114
      (repeat (first | (with_reducible first | refine xA ?_ | refine xB ?_ | refine xC ?_ | refine xD ?_ | refine xH ?_ | refine xI rfl ?_ | refine xE ?_ | refine xF ?_ | refine xG ?_) | go_skip | go_guarded | (refine tail77_any X base gb g w x x 1 _ (Lib.hid fun a' w' r' hd h6 hp => bodyPost_ret (results_tmp rfl _ _ _) hd (by rw [h6, hp.1, K.out]; rw [K.out] at hp; exact ⟨rfl, hp.2⟩)) (Lib.hid fun _ _ _ _ e h => ⟨e ▸ h.1, h.2⟩) H.out hn HBA.out (by omega) (by omega) (.inl rfl) hxo) | go_values | go_skip | go_guarded | go_step | go_upon | go_back | ((with_reducible show Oper.upon _ _ _ _ _ _); go_simp) | (dsimp only)))
    · have h3' : ¬ x < y := by omega
      have K := Key.out y x 1 (by unfold absI; rw [if_neg (Int.not_lt.2 h1), if_neg (Int.not_lt.2 h2)]; omega) (by unfold absI; rw [if_neg (Int.not_lt.2 h1), if_neg (Int.not_lt.2 h2)]; omega) (by unfold sgn2; rw [if_neg (Int.not_lt.2 h1), if_neg (Int.not_lt.2 h2)]; rfl)
      go_enter Tryz.func114, Tryz.ntmps114
      (repeat (first | (with_reducible first | refine xA ?_ | refine xB ?_ | refine xC ?_ | refine xD ?_ | refine xH ?_ | refine xI rfl ?_ | refine xE ?_ | refine xF ?_ | refine xG ?_) | go_skip | go_guarded | (refine tail77_any X base gb g w y x 1 _ (Lib.hid fun a' w' r' hd h6 hp => bodyPost_ret (results_tmp rfl _ _ _) hd (by rw [h6, hp.1, K.out]; rw [K.out] at hp; exact ⟨rfl, hp.2⟩)) (Lib.hid fun _ _ _ _ e h => ⟨e ▸ h.1, h.2⟩) H.out hn HBA.out (by omega) (by omega) (.inl rfl) hxo) | go_values | go_skip | go_guarded | go_step | go_upon | go_back | ((with_reducible show Oper.upon _ _ _ _ _ _); go_simp) | (dsimp only)))
end Go.Proofs.YtmaogkgjiplckaaGreat
namespace Go.Proofs.YtmaogkgjiplckaaGreat
open Go.RowKit
set_option maxRecDepth 100000 in
theorem either_any {X : Nat → Prop} {base gb : Nat} {g : G} {fr : List Int} {s : Nat → Bool} (w : World) (hG0 : GR X base w gb g) (Hn0 : Hid (g.n < 1048576)) (hba0 : base ≤ w.heap.size) (x y : Int) (hx : Hid (isL g.n x)) (hy : Hid (isL g.n y)) (hI : Hid (GI g fr s)) (r : G × Int) (hr : Hid (either g x y = r)) :
    Calls Tryz.prog 113 #[.pointer (some ⟨gb, 0, none⟩), .int .i64 x, .int .i64 y] w fun e w' => e = .returned (.int .i64 r.2) ∧ GR X base w' gb r.1 ∧ Kept X w w' := by
  have bx := rng_of hx.out hG0.n1
  have by' := rng_of hy.out hG0.n1
  have Hx0 := Lib.hid hx.out.neg
  have Hy0 := Lib.hid hy.out.neg
  obtain ⟨r1, Hr1⟩ : ∃ r1, Hid (both g (-x) (-y) = r1) := ⟨_, Lib.hid rfl⟩
  have hb : -1048577 ≤ r1.2 ∧ r1.2 ≤ 1048577 := by
    obtain ⟨s1, I1, st1, le1, L1, v1⟩ := both_ok hI.out Hx0.out Hy0.out
    rw [Hr1.out] at le1 L1
    have := Hn0.out
    obtain ⟨_, l1, l2⟩ := L1
    omega
  have hR : Hid (r = (r1.1, -r1.2)) := Lib.hid (by have h1 := hr.out; have h2 := Hr1.out; unfold either at h1; rw [h2] at h1; exact h1.symm)
  go_enter Tryz.func113, Tryz.ntmps113
  (repeat (first | (with_reducible first | refine xA ?_ | refine xB ?_ | refine xC ?_ | refine xD ?_ | refine xH ?_ | refine xI rfl ?_ | refine xE ?_ | refine xF ?_ | refine xG ?_) | go_skip | go_guarded | (go_at_call 112; (with_reducible refine (both_any _ hG0 Hn0 hba0 _ _ Hx0 Hy0 r1 Hr1).mono ?_); rintro _ w1 ⟨rfl, hG1, hk1⟩) | go_values | go_skip | go_guarded | go_step | go_upon | go_back | ((with_reducible show Oper.upon _ _ _ _ _ _); go_simp) | (dsimp only)))
  go_ret
  rw [hR.out]
  exact ⟨rfl, hG1, hk1⟩
theorem Kept.trans2 {X : Nat → Prop} {a b c d : World} (h : Kept X a b) (k : Kept X b c) (l : Kept X c d) : Kept X a d := (h.trans k).trans l
set_option maxRecDepth 100000 in
theorem choice_any {X : Nat → Prop} {base gb : Nat} {g : G} {fr : List Int} {s : Nat → Bool} (w : World) (hG0 : GR X base w gb g) (hn : Hid (g.n + 3 ≤ 1048576)) (hba0 : base ≤ w.heap.size) (c x y : Int) (hc : Hid (isL g.n c)) (hx : Hid (isL g.n x)) (hy : Hid (isL g.n y)) (hI : Hid (GI g fr s)) (r : G × Int) (hr : Hid (choice g c x y = r)) :
    Calls Tryz.prog 122 #[.pointer (some ⟨gb, 0, none⟩), .int .i64 c, .int .i64 x, .int .i64 y] w fun e w' => e = .returned (.int .i64 r.2) ∧ GR X base w' gb r.1 ∧ Kept X w w' := by
  have bc := rng_of hc.out hG0.n1
  by_cases e : x = y
  · have hR : Hid (r = (g, x)) := Lib.hid (by have h1 := hr.out; unfold choice at h1; rw [if_pos e] at h1; exact h1.symm)
    subst e
    go_enter Tryz.func122, Tryz.ntmps122
    (repeat (first | (with_reducible first | refine xA ?_ | refine xB ?_ | refine xC ?_ | refine xD ?_ | refine xH ?_ | refine xI rfl ?_ | refine xE ?_ | refine xF ?_ | refine xG ?_) | go_values | go_skip | go_guarded | go_step | go_upon | go_back | ((with_reducible show Oper.upon _ _ _ _ _ _); go_simp) | (dsimp only)))
    go_ret
    rw [hR.out]
    exact ⟨rfl, hG0, Kept.refl _ _⟩
  have f1 : (x == y) = false := by simpa using e
  obtain ⟨r1, Hr1⟩ : ∃ r1, Hid (both g c x = r1) := ⟨_, Lib.hid rfl⟩
  obtain ⟨s1, I1, st1, le1, L1, v1⟩ := both_ok hI.out hc.out hx.out
  rw [Hr1.out] at I1 st1 le1 L1 v1
  obtain ⟨r2, Hr2⟩ : ∃ r2, Hid (both r1.1 (-c) y = r2) := ⟨_, Lib.hid rfl⟩
  obtain ⟨s2, I2, st2, le2, L2, v2⟩ := both_ok I1 (st1.isL hc.out).neg (st1.isL hy.out)
  rw [Hr2.out] at I2 st2 le2 L2 v2
  obtain ⟨r3, Hr3⟩ : ∃ r3, Hid (either r2.1 r1.2 r2.2 = r3) := ⟨_, Lib.hid rfl⟩
  have hR : Hid (r = r3) := Lib.hid (by have h1 := hr.out; unfold choice at h1; rw [if_neg e] at h1; dsimp only at h1; rw [Hr1.out, Hr2.out, Hr3.out] at h1; exact h1.symm)
  have Hn0 := Lib.hid (show g.n < 1048576 by have := hn.out; omega)
  have Hn1 := Lib.hid (show r1.1.n < 1048576 by have := hn.out; omega)
  have Hn2 := Lib.hid (show r2.1.n < 1048576 by have := hn.out; omega)
  have Hx0 := hc
  have Hy0 := hx
  have Hx1 := Lib.hid (st1.isL hc.out).neg
  have Hy1 := Lib.hid (st1.isL hy.out)
  have Hx2 := Lib.hid (st2.isL L1)
  have Hy2 := Lib.hid L2
  have HI2 := Lib.hid I2
  clear I1 st1 le1 L1 v1 I2 st2 le2 L2 v2 e hr
  go_enter Tryz.func122, Tryz.ntmps122
  (repeat (first | (with_reducible first | refine xA ?_ | refine xB ?_ | refine xC ?_ | refine xD ?_ | refine xH ?_ | refine xI rfl ?_ | refine xE ?_ | refine xF ?_ | refine xG ?_) | go_skip | go_guarded | (go_at_call 112; (with_reducible refine (both_any _ hG0 Hn0 hba0 _ _ Hx0 Hy0 r1 Hr1).mono ?_); rintro _ w1 ⟨rfl, hG1, hk1⟩) | (go_at_call 112; (with_reducible refine (both_any _ hG1 Hn1 (Nat.le_trans hba0 hk1.size) _ _ Hx1 Hy1 r2 Hr2).mono ?_); rintro _ w2 ⟨rfl, hG2, hk2⟩) | (go_at_call 113; (with_reducible refine (either_any _ hG2 Hn2 (Nat.le_trans hba0 (Nat.le_trans hk1.size hk2.size)) _ _ Hx2 Hy2 HI2 r3 Hr3).mono ?_); rintro _ w3 ⟨rfl, hG3, hk3⟩) | go_values | go_skip | go_guarded | go_step | go_upon | go_back | ((with_reducible show Oper.upon _ _ _ _ _ _); go_simp) | (dsimp only)))
  go_ret
  rw [hR.out]
  exact ⟨rfl, hG3, Kept.trans2 hk1 hk2 hk3⟩
end Go.Proofs.YtmaogkgjiplckaaGreat
namespace Go.Proofs.YtmaogkgjiplckaaGreat
open Go.RowKit
def zipG (f : G → Int → Int → G × Int) : G → List Int → List Int → G × List Int
  | g, x :: xs, y :: ys => let r := f g x y; let t := zipG f r.1 xs ys; (t.1, r.2 :: t.2)
  | g, _, _ => (g, [])
theorem zipG_snoc (f : G → Int → Int → G × Int) : ∀ (xs ys : List Int) (g : G) (x y : Int), xs.length = ys.length → zipG f g (xs ++ [x]) (ys ++ [y]) = ((f (zipG f g xs ys).1 x y).1, (zipG f g xs ys).2 ++ [(f (zipG f g xs ys).1 x y).2]) := by
  intro xs
  induction xs with
  | nil => intro ys g x y h; cases ys with
    | nil => rfl
    | cons => simp at h
  | cons a xs ih => intro ys g x y h; cases ys with
    | nil => simp at h
    | cons b ys =>
      simp only [List.length_cons, Nat.add_right_cancel_iff] at h
      simp only [List.cons_append, zipG, ih ys _ x y h]
theorem zipG_len (f : G → Int → Int → G × Int) : ∀ (xs ys : List Int) (g : G), xs.length = ys.length → (zipG f g xs ys).2.length = xs.length := by
  intro xs
  induction xs with
  | nil => intro ys g h; cases ys <;> rfl
  | cons a xs ih => intro ys g h; cases ys with
    | nil => simp at h
    | cons b ys => simp only [List.length_cons, Nat.add_right_cancel_iff] at h; simp [zipG, ih ys _ h]
def WAns (g : G) (fr : List Int) (s : Nat → Bool) (k : Nat) (r : G × List Int) (bs : List Bool) : Prop :=
  ∃ s', GI r.1 fr s' ∧ Step g s r.1 s' ∧ r.1.n ≤ g.n + k ∧ (∀ x ∈ r.2, isL r.1.n x) ∧ r.2.map (lit s') = bs
theorem step_map {g g' : G} {s s' : Nat → Bool} (h : Step g s g' s') {l : List Int} (hl : ∀ x ∈ l, isL g.n x) : l.map (lit s') = l.map (lit s) := List.map_congr_left fun x hx => h.lit (hl x hx)
theorem zip_ok {f : G → Int → Int → G × Int} {k : Nat} {b : Bool → Bool → Bool} {c : Int} (fr : List Int) (hf : ∀ (g : G) (s : Nat → Bool) (x y : Int), GI g fr s → isL g.n c → isL g.n x → isL g.n y → Ans g fr s k (f g x y) (if lit s c then b (lit s x) (lit s y) else b (lit s y) (lit s x))) :
    ∀ (xs ys : List Int) (g : G) (s : Nat → Bool), GI g fr s → isL g.n c → (∀ x ∈ xs, isL g.n x) → (∀ y ∈ ys, isL g.n y) → xs.length = ys.length →
      WAns g fr s (k * xs.length) (zipG f g xs ys) (((xs.map (lit s)).zip (ys.map (lit s))).map fun p => if lit s c then b p.1 p.2 else b p.2 p.1) := by
  intro xs
  induction xs with
  | nil =>
    intro ys g s hI hc hx hy hl
    cases ys with
    | nil => exact ⟨s, hI, Step.refl _ _, by simp [zipG], by simp [zipG], rfl⟩
    | cons => simp at hl
  | cons x xs ih =>
    intro ys g s hI hc hx hy hl
    cases ys with
    | nil => simp at hl
    | cons y ys =>
      obtain ⟨s1, I1, st1, le1, L1, v1⟩ := hf g s x y hI hc (hx x (by simp)) (hy y (by simp))
      simp only [List.length_cons, Nat.add_right_cancel_iff] at hl
      have hxs : ∀ a ∈ xs, isL g.n a := fun a ha => hx a (by simp [ha])
      have hys : ∀ a ∈ ys, isL g.n a := fun a ha => hy a (by simp [ha])
      obtain ⟨s2, I2, st2, le2, L2, v2⟩ := ih ys (f g x y).1 s1 I1 (st1.isL hc) (fun a ha => st1.isL (hxs a ha)) (fun a ha => st1.isL (hys a ha)) hl
      refine ⟨s2, I2, st1.trans st2, ?_, ?_, ?_⟩
      · show (zipG f (f g x y).1 xs ys).1.n ≤ g.n + k * (xs.length + 1)
        rw [Nat.mul_add]; omega
      · intro a ha
        simp only [zipG, List.mem_cons] at ha
        rcases ha with rfl | ha
        · exact st2.isL L1
        · exact L2 a ha
      · simp only [zipG, List.map_cons, List.zip_cons_cons]
        rw [st2.lit L1, v1, v2, step_map st1 hxs, step_map st1 hys, st1.lit hc]
theorem GRep.owned {X : Nat → Prop} {base gb ma mx : Nat} {w w' : World} {g : G} {v : Value} {xs : List Value} (h : GRep X base w gb g v ma mx xs) (hg : w.grownBy w' none) {q : Nat} (h1 : w.heap.size ≤ q) (h2 : q < w'.heap.size) : GRep (fun k => X k ∨ k = q) base w' gb g v ma mx xs := by
  obtain ⟨l1, l2, l3⟩ := h.lt
  have h3 := h.same hg
  have hk : Kept (fun _ => True) w w' := ⟨hg.os, hg.tape, hg.output, hg.size, fun i hi _ => hg.block i hi (by simp)⟩
  refine ⟨h3.box, h3.row, ?_, h3.an, h3.xo, h3.ne, ?_, ?_, ?_, ?_, ?_, h.n1, h.cl⟩
  · exact ((h.cls.mono (Z := fun k => ¬ (X k ∨ k = q) ∧ k ≠ gb ∧ some k ≠ v.ownBlock) fun k hk hx => ⟨by rintro (a | rfl); exact hx.1 a; omega, hx.2⟩)).kept (hk.mono fun _ _ _ => trivial)
  · rintro k (a | rfl)
    · exact h3.xb k a
    · exact h2
  · rintro (a | rfl)
    · exact h.xg a
    · omega
  · rintro (a | rfl)
    · exact h.xa a
    · omega
  · rintro (a | rfl)
    · exact h.xx a
    · omega
  · intro k hk
    have hkl := (h.row.lt k hk.symm).2
    rintro (a | rfl)
    · exact h.xv k hk a
    · omega
def OwnI (w : World) (q n : Nat) (l : List Int) : Prop := l.length = n ∧ w.ownsRow q 3 1 (.slice (some ⟨q, 0, none⟩) n n) n (l.map (Value.int .i64))
theorem OwnI.row {w : World} {q n : Nat} {l : List Int} (h : OwnI w q n l) : RowI w q 0 l := by
  obtain ⟨rfl, h⟩ := h
  exact RowI.ofOwns h
theorem OwnI.lt {w : World} {q n : Nat} {l : List Int} (h : OwnI w q n l) : q < w.heap.size := (h.2.lt q rfl).2
theorem OwnI.kept {w w' : World} {q n : Nat} {l : List Int} (h : OwnI w q n l) {X : Nat → Prop} (hk : Kept X w w') (hx : X q) : OwnI w' q n l := by
  refine ⟨h.1, ?_⟩
  rcases h.2 with ⟨b2, hr⟩
  refine ⟨b2, ?_⟩
  rcases hr with ⟨e, _⟩ | ⟨g, cap, cur, e, hb, hh, r⟩
  · cases e
  · refine .inr ⟨g, cap, cur, e, hb, ?_, r⟩
    simp only [Value.slice.injEq, Option.some.injEq, Addr.mk.injEq, and_true] at e
    obtain ⟨rfl, _⟩ := e
    exact hk.at hh hx
section
variable {ops : Array Oper} {rest : List Oper} {o : Oper} {a : Act} {w : World} {Q : Exit → Act → World → Prop}
theorem wl_store_own (hgd : o.guard = none) (x y : Operand) (ho : o.op = .store 3 x y) (q n : Nat) (l : List Int) (j : Nat) (hx : a.eval x = .pointer (some ⟨q, j, none⟩)) (u : Int) (hy : a.eval y = .int .i64 u) (hO : OwnI w q n l) (hj : j < n)
    (h : ∀ w', OwnI w' q n (l.set j u) → w.grownBy w' (some q) → wpList Tryz.prog ops Q rest (a.put o.dst undef) w') : wpList Tryz.prog ops Q (o :: rest) a w :=
  wpList_plain hgd fun _ hK => by
    obtain ⟨hl, hO2⟩ := hO
    have hc := hO2.cellAt j (by omega)
    have hlt : j < l.length := by omega
    rw [List.getElem?_map, List.getElem?_eq_getElem hlt] at hc
    have hf := hO2.frozenAt j
    have hst : (Instr.storeAt 3 (.pointer (some ⟨q, j, none⟩)) (.int .i64 u)).run Tryz.prog w = .ok () (w.setCell ⟨q, j, none⟩ (.int .i64 u)) := by
      simp only [Option.map_some] at hc
      go_simp
    obtain ⟨s1, s2⟩ := hO2.stored j (.int .i64 u)
    unfold Oper.wp execOp
    simp only [ho, hx, hy, Sem.run_bind, hst, Result.andThen_ok]
    exact hK _ _ (h _ ⟨by simp [hl], by rw [List.map_set]; exact s1⟩ s2)
theorem wl_make_own (hgd : o.guard = none) (l c : Operand) (hop : o.op = Op.makeSlice 31 l c) (n : Nat) (hl : a.eval l = .int .i64 n) (hc : a.eval c = .int .i64 n) (hn : n ≤ 1000000)
    (h : ∀ w', OwnI w' w.heap.size n (List.replicate n 0) → w.grownBy w' none → wpList Tryz.prog ops Q rest (a.put o.dst (.slice (some ⟨w.heap.size, 0, none⟩) n n)) w') : wpList Tryz.prog ops Q (o :: rest) a w := by
  obtain ⟨i0, hi0, hz0, hz1, hz2⟩ := info_parts info3
  refine wpList_make_full w hgd l c 31 hop w.heap.size 3 i0 (.int .i64 0) 1 Tryz.underlying31 hi0 hz0 hz1 .i64 .i64 n n n hl hc rfl rfl (by rw [hz2]; omega) (by unfold maxLen; omega) (Nat.le_refl _) ?_
  intro w' h1 h2
  refine h w' ⟨by simp, ?_⟩ h2
  have e : (madeCells (Value.int .i64 0).cells (n * 1)).toList = (List.replicate n (0 : Int)).map (Value.int .i64) := by
    rw [Nat.mul_one, List.map_replicate]
    unfold madeCells
    rw [Array.toList_map, Array.toList_range]
    apply List.ext_getElem?
    intro i
    rw [List.getElem?_map, List.getElem?_replicate]
    by_cases hi : i < n
    · rw [List.getElem?_range hi, if_pos hi]
      simp [Value.cells, Nat.mod_one]
    · rw [if_neg hi, List.getElem?_eq_none (by simpa using hi)]
      rfl
  rw [← e]; exact h1
end
theorem list_upto {α : Type} {l : List α} {k : Nat} {x : α} (h : l[k]? = some x) : l.take (k + 1) = l.take k ++ [x] := by rw [List.take_add_one, h]; rfl
def filled (outs : List Int) (n : Nat) : List Int := outs ++ List.replicate (n - outs.length) 0
theorem filled_set {outs : List Int} {n : Nat} (h : outs.length < n) (u : Int) : (filled outs n).set outs.length u = filled (outs ++ [u]) n := by
  unfold filled
  rw [List.set_append_right _ _ (Nat.le_refl _), Nat.sub_self, List.append_assoc, List.length_append, List.length_singleton]
  congr 1
  rw [show n - outs.length = (n - (outs.length + 1)) + 1 by omega, List.replicate_succ]
  rfl
theorem filled_full {outs : List Int} {n : Nat} (h : outs.length = n) : filled outs n = outs := by unfold filled; simp [h]
theorem filled_len {outs : List Int} {n : Nat} (h : outs.length ≤ n) : (filled outs n).length = n := by unfold filled; simp; omega
def Word1 (X : Nat → Prop) (base gb n : Nat) (w : World) (r : G × List Int) (e : Ending) (w' : World) : Prop :=
  ∃ q, e = .returned (.slice (some ⟨q, 0, none⟩) n n) ∧ OwnI w' q n r.2 ∧ w.heap.size ≤ q ∧ GR (fun k => X k ∨ k = q) base w' gb r.1 ∧ Kept X w w'
theorem GR.owned {X : Nat → Prop} {base gb : Nat} {w w' : World} {g : G} (h : GR X base w gb g) (hg : w.grownBy w' none) {q : Nat} (h1 : w.heap.size ≤ q) (h2 : q < w'.heap.size) : GR (fun k => X k ∨ k = q) base w' gb g := by
  obtain ⟨v, ma, mx, xs, h⟩ := h; exact ⟨v, ma, mx, xs, h.owned hg h1 h2⟩
theorem GR.other {X : Nat → Prop} {base gb : Nat} {w w' : World} {g : G} (h : GR X base w gb g) {q : Nat} (hg : w.grownBy w' (some q)) (hq : X q) : GR X base w' gb g := by
  obtain ⟨v, ma, mx, xs, h⟩ := h; exact ⟨v, ma, mx, xs, h.other hg hq⟩
theorem GR.same {X : Nat → Prop} {base gb : Nat} {w w' : World} {g : G} (h : GR X base w gb g) (hg : w.grownBy w' none) : GR X base w' gb g := by
  obtain ⟨v, ma, mx, xs, h⟩ := h; exact ⟨v, ma, mx, xs, h.same hg⟩
theorem Kept.owned {X : Nat → Prop} {w w' w'' : World} {q : Nat} (h : Kept X w w') (hg : w'.grownBy w'' (some q)) (hq : w.heap.size ≤ q) : Kept X w w'' := h.grown hg (fun g e hl => by injection e with e; omega)
def chooseG (g : G) (c : Int) (xs ys : List Int) : G × List Int := zipG (fun g x y => choice g c x y) g xs ys
structure ZS (f : G → Int → Int → G × Int) (d : Nat) (g : G) (fr : List Int) (s : Nat → Bool) (xs ys : List Int) (k : Nat) (gk : G) (outs : List Int) (sk : Nat → Bool) : Prop where
  eq : zipG f g (xs.take k) (ys.take k) = (gk, outs)
  len : outs.length = k
  gi : GI gk fr sk
  st : Step g s gk sk
  le : gk.n ≤ g.n + d * k
end Go.Proofs.YtmaogkgjiplckaaGreat
namespace Go.Proofs.YtmaogkgjiplckaaGreat
open Go.RowKit
theorem ZS.start {f : G → Int → Int → G × Int} {d : Nat} {g : G} {fr : List Int} {s : Nat → Bool} {xs ys : List Int} (h : GI g fr s) : ZS f d g fr s xs ys 0 g [] s := ⟨rfl, rfl, h, Step.refl _ _, Nat.le_refl _⟩
theorem ZS.next {f : G → Int → Int → G × Int} {d : Nat} {g : G} {fr : List Int} {s : Nat → Bool} {xs ys : List Int} {k : Nat} {gk : G} {outs : List Int} {sk : Nat → Bool} (h : ZS f d g fr s xs ys k gk outs sk)
    (hx : ∀ x ∈ xs, isL g.n x) (hy : ∀ y ∈ ys, isL g.n y) {x y : Int} (ex : xs[k]? = some x) (ey : ys[k]? = some y) {r : G × Int} (hr : f gk x y = r)
    (hf : isL gk.n x → isL gk.n y → ∃ s', GI r.1 fr s' ∧ Step gk sk r.1 s' ∧ r.1.n ≤ gk.n + d) : ∃ s', ZS f d g fr s xs ys (k + 1) r.1 (outs ++ [r.2]) s' := by
  obtain ⟨s', h1, h2, h3⟩ := hf (h.st.isL (hx x (List.mem_of_getElem? ex))) (h.st.isL (hy y (List.mem_of_getElem? ey)))
  refine ⟨s', ⟨?_, by simp [h.len], h1, h.st.trans h2, by have := h.le; rw [Nat.mul_add]; omega⟩⟩
  have lx := (List.getElem?_eq_some_iff.1 ex).1
  have ly := (List.getElem?_eq_some_iff.1 ey).1
  rw [list_upto ex, list_upto ey, zipG_snoc f _ _ _ _ _ (by rw [List.length_take, List.length_take]; omega), h.eq]
  dsimp only
  rw [hr]
set_option maxRecDepth 100000 in
set_option maxHeartbeats 1000000 in
theorem choose_any {X : Nat → Prop} {base gb : Nat} {g : G} {fr : List Int} {s : Nat → Bool} (w : World) (hG : GR X base w gb g) (hba : base ≤ w.heap.size) (c : Int) (vx vy : Value) (xs ys : List Int) (hX : SlX X w vx xs) (hY : SlX X w vy ys) (hxy : ys.length = xs.length) (hn : g.n + 3 * xs.length ≤ 1048576) (hn1 : xs.length ≤ 1000000) (hc : isL g.n c) (hx : ∀ x ∈ xs, isL g.n x) (hy : ∀ y ∈ ys, isL g.n y) (hI : GI g fr s) (r : G × List Int) (hr : chooseG g c xs ys = r) :
    Calls Tryz.prog 83 #[.pointer (some ⟨gb, 0, none⟩), .int .i64 c, vx, vy] w (Word1 X base gb xs.length w r) := by
  obtain ⟨ax, cx, rfl⟩ := hX.shape
  obtain ⟨ay, cy, rfl⟩ := hY.shape
  have HX := Lib.hid hX
  have HY := Lib.hid hY
  have Hxy := Lib.hid hxy
  have Hn := Lib.hid hn
  have Hn1 := Lib.hid hn1
  have Hc := Lib.hid hc
  have Hx := Lib.hid hx
  have Hy := Lib.hid hy
  have HI := Lib.hid hI
  have Hr := Lib.hid hr
  have HBA := Lib.hid hba
  have HG := Lib.hid hG
  have hnb : (xs.length : Int) ≤ 1000000 := by omega
  clear hX hY hxy hn hn1 hc hx hy hI hr hba hG
  go_enter Tryz.func83, Tryz.ntmps83
  (repeat (first | (with_reducible first | refine xA ?_ | refine xB ?_ | refine xC ?_ | refine xD ?_ | refine xH ?_ | refine xI rfl ?_ | refine xE ?_ | refine xF ?_ | refine xG ?_) | go_skip | go_guarded | (at_make; refine wl_make_own rfl _ _ rfl xs.length rfl rfl Hn1.out ?_; intro w1 hO hg; (try simp only [Act.put, qz4, qz5, qz6])) | go_values | go_skip | go_guarded | go_step | go_upon | go_back | ((with_reducible show Oper.upon _ _ _ _ _ _); go_simp) | (dsimp only)))
  have hG1 := HG.out.owned hg (Nat.le_refl _) hO.lt
  have hK1 : Kept X w w1 := ⟨hg.os, hg.tape, hg.output, hg.size, fun i hi _ => hg.block i hi (by simp)⟩
  have hO1 : OwnI w1 w.heap.size xs.length (filled [] xs.length) := by simpa [filled] using hO
  clear hO hg
  go_loopw [16] (fun i wr => ∃ (k : Nat) (gk : G) (outs : List Int) (sk : Nat → Bool), k ≤ xs.length ∧ i = .int .i64 k ∧ Hid (ZS (fun g x y => choice g c x y) 3 g fr s xs ys k gk outs sk) ∧ OwnI wr w.heap.size xs.length (filled outs xs.length) ∧ GR (fun k => X k ∨ k = w.heap.size) base wr gb gk ∧ Kept X w wr) (fun i _ => xs.length - (intOf i).toNat)
  case atStart => exact ⟨0, g, [], s, Nat.zero_le _, rfl, Lib.hid (ZS.start HI.out), hO1, hG1, hK1⟩
  case round =>
    clear hO1 hG1 hK1
    obtain ⟨k, gk, outs, sk, hk, rfl, hZ, hO, hG, hK⟩ := hrel
    rcases Nat.lt_or_ge k xs.length with hlt | hge
    · obtain ⟨bx, ox, rfl, xbx, lbx, cbx, HRx⟩ := HX.out.row (by omega)
      obtain ⟨by', oy, rfl, xby, lby, cby, HRy⟩ := HY.out.row (by have := Hxy.out; omega)
      obtain ⟨x, hx⟩ : ∃ x, xs[k]? = some x := ⟨_, List.getElem?_eq_getElem hlt⟩
      obtain ⟨y, hy⟩ : ∃ y, ys[k]? = some y := ⟨_, List.getElem?_eq_getElem (by have := Hxy.out; omega)⟩
      have hcx := hK.cell (HRx k x hx) xbx
      have hcy := hK.cell (HRy k y hy) xby
      have Hxk := Lib.hid hx
      have Hyk := Lib.hid hy
      have hyl : ys.length = xs.length := Hxy.out
      have i0 : (0 : Int) ≤ (k : Int) := by omega
      have i1 : (k : Int) < (xs.length : Int) := by omega
      have i2 : (k : Int) < (ys.length : Int) := by omega
      have HO := Lib.hid hO
      have HCx := Lib.hid hcx
      have HCy := Lib.hid hcy
      clear hx hy HRx HRy hO hcx hcy hyl
      (repeat (first | (with_reducible first | refine xA ?_ | refine xB ?_ | refine xC ?_ | refine xD ?_ | refine xH ?_ | refine xI rfl ?_ | refine xE ?_ | refine xF ?_ | refine xG ?_) | go_values | go_skip | go_guarded | go_step | go_upon | go_back | ((with_reducible show Oper.upon _ _ _ _ _ _); go_simp) | (dsimp only)))
      refine wp_region_held (S := fun u => u.cell? ⟨bx, ox + k, none⟩ = some (.int .i64 x) ∧ u.cell? ⟨by', oy + k, none⟩ = some (.int .i64 y)) (by kernel_rfl) ?_
      have HS : (({ wr with drawn := wr.drawn + 1 } : World)).cell? ⟨bx, ox + k, none⟩ = some (.int .i64 x) ∧ (({ wr with drawn := wr.drawn + 1 } : World)).cell? ⟨by', oy + k, none⟩ = some (.int .i64 y) := ⟨HCx.out, HCy.out⟩
      have hO : OwnI ({ wr with drawn := wr.drawn + 1 } : World) w.heap.size xs.length (filled outs xs.length) := HO.out
      replace hG : GR _ base ({ wr with drawn := wr.drawn + 1 } : World) gb gk := hG.same ⟨rfl, rfl, rfl, Nat.le_refl _, fun _ _ _ => rfl⟩
      replace hK : Kept X w ({ wr with drawn := wr.drawn + 1 } : World) := hK.drew 1
      clear HO HCx HCy
      generalize ({ wr with drawn := wr.drawn + 1 } : World) = u0 at *
      refine wpAnyH_take (i := 0) (v := .slice (some ⟨w.heap.size, 0, none⟩) xs.length xs.length) rfl (by kernel_rfl) (by kernel_rfl) (by kernel_rfl) (fun _ _ _ h => h) (Or.inl ⟨rfl, fun w _ => by go_simp⟩) HS ?_; simp only [Act.put, qz1, qz2, qz3, qz4, qz5, qz6]
      refine wpAnyH_take (i := 1) (v := .int .i64 k) rfl (by kernel_rfl) (by kernel_rfl) (by kernel_rfl) (fun _ _ _ h => h) (Or.inl ⟨rfl, fun w _ => by go_simp⟩) HS ?_; simp only [Act.put, qz1, qz2, qz3, qz4, qz5, qz6]
      refine wpAnyH_take (i := 2) (v := .pointer (some ⟨gb, 0, none⟩)) rfl (by kernel_rfl) (by kernel_rfl) (by kernel_rfl) (fun _ _ _ h => h) (Or.inl ⟨rfl, fun w _ => by go_simp⟩) HS ?_; simp only [Act.put, qz1, qz2, qz3, qz4, qz5, qz6]
      refine wpAnyH_take (i := 3) (v := .int .i64 c) rfl (by kernel_rfl) (by kernel_rfl) (by kernel_rfl) (fun _ _ _ h => h) (Or.inl ⟨rfl, fun w _ => by go_simp⟩) HS ?_; simp only [Act.put, qz1, qz2, qz3, qz4, qz5, qz6]
      refine wpAnyH_take (i := 4) (v := .slice (some ⟨bx, ox, none⟩) xs.length cx) rfl (by kernel_rfl) (by kernel_rfl) (by kernel_rfl) (fun _ _ _ h => h) (Or.inl ⟨rfl, fun w _ => by go_simp⟩) HS ?_; simp only [Act.put, qz1, qz2, qz3, qz4, qz5, qz6]
      refine wpAnyH_take (i := 5) (v := .int .i64 k) rfl (by kernel_rfl) (by kernel_rfl) (by kernel_rfl) (fun _ _ _ h => h) (Or.inl ⟨rfl, fun w _ => by go_simp⟩) HS ?_; simp only [Act.put, qz1, qz2, qz3, qz4, qz5, qz6]
      refine wpAnyH_take (i := 6) (v := .pointer (some ⟨bx, ox + k, none⟩)) rfl (by kernel_rfl) (by kernel_rfl) (by kernel_rfl) (fun _ _ _ h => h) (Or.inl ⟨rfl, fun w _ => by go_simp⟩) HS ?_; simp only [Act.put, qz1, qz2, qz3, qz4, qz5, qz6]
      refine wpAnyH_take (i := 7) (v := .int .i64 x) rfl (by kernel_rfl) (by kernel_rfl) (by kernel_rfl) (fun _ _ _ h => h) (Or.inl ⟨rfl, fun w hw => by have hx := hw.1; go_simp⟩) HS ?_
      simp only [Act.put, qz1, qz2, qz3, qz4, qz5, qz6]
      refine wpAnyH_take (i := 8) (v := .slice (some ⟨by', oy, none⟩) ys.length cy) rfl (by kernel_rfl) (by kernel_rfl) (by kernel_rfl) (fun _ _ _ h => h) (Or.inl ⟨rfl, fun w _ => by go_simp⟩) HS ?_; simp only [Act.put, qz1, qz2, qz3, qz4, qz5, qz6]
      refine wpAnyH_take (i := 9) (v := .int .i64 k) rfl (by kernel_rfl) (by kernel_rfl) (by kernel_rfl) (fun _ _ _ h => h) (Or.inl ⟨rfl, fun w _ => by go_simp⟩) HS ?_; simp only [Act.put, qz1, qz2, qz3, qz4, qz5, qz6]
      refine wpAnyH_take (i := 10) (v := .pointer (some ⟨by', oy + k, none⟩)) rfl (by kernel_rfl) (by kernel_rfl) (by kernel_rfl) (fun _ _ _ h => h) (Or.inl ⟨rfl, fun w _ => by go_simp⟩) HS ?_; simp only [Act.put, qz1, qz2, qz3, qz4, qz5, qz6]
      refine wpAnyH_take (i := 11) (v := .int .i64 y) rfl (by kernel_rfl) (by kernel_rfl) (by kernel_rfl) (fun _ _ _ h => h) (Or.inl ⟨rfl, fun w hw => by have hx := hw.2; go_simp⟩) HS ?_
      simp only [Act.put, qz1, qz2, qz3, qz4, qz5, qz6]
      refine wpAnyH_all (rs := [12]) (by kernel_rfl) (by simp) (fun i hi => ?_)
      obtain rfl : i = 12 := by simpa using hi
      refine wpOp_one rfl ?_
      obtain ⟨rk, hrk⟩ : ∃ rk, Hid (choice gk c x y = rk) := ⟨_, Lib.hid rfl⟩
      have hgk : gk.n ≤ g.n + 3 * k := hZ.out.le
      have hn3 := Lib.hid (show gk.n + 3 ≤ 1048576 by have := Hn.out; omega)
      have hst := hZ.out.st
      have hc1 := Lib.hid (hst.isL Hc.out)
      have hx1 := Lib.hid (hst.isL (Hx.out x (List.mem_of_getElem? Hxk.out)))
      have hy1 := Lib.hid (hst.isL (Hy.out y (List.mem_of_getElem? Hyk.out)))
      have hI1 := Lib.hid hZ.out.gi
      have hba1 : base ≤ u0.heap.size := Nat.le_trans HBA.out hK.size
      clear hst hgk
      (repeat (first | (with_reducible first | refine xA ?_ | refine xB ?_ | refine xC ?_ | refine xD ?_ | refine xH ?_ | refine xI rfl ?_ | refine xE ?_ | refine xF ?_ | refine xG ?_) | go_skip | go_guarded | (go_at_call 122; (with_reducible refine (choice_any _ hG hn3 hba1 _ _ _ hc1 hx1 hy1 hI1 rk hrk).mono ?_); rintro _ w2 ⟨rfl, hG2, hk2⟩) | go_values | go_skip | go_guarded | go_step | go_upon | go_back | ((with_reducible show Oper.upon _ _ _ _ _ _); go_simp) | (dsimp only)))
      have hO2 := hO.kept hk2 (.inr rfl)
      have hS2 : w2.cell? ⟨bx, ox + k, none⟩ = some (.int .i64 x) ∧ w2.cell? ⟨by', oy + k, none⟩ = some (.int .i64 y) := ⟨hk2.cell HS.1 (.inl xbx), hk2.cell HS.2 (.inl xby)⟩
      have hK2 := hK.trans (hk2.mono fun k _ hx => .inl hx)
      clear HS
      have HS := hS2
      clear hS2 hG hO hK hk2 hn3 hc1 hx1 hy1 hba1
      refine ⟨HS, ?_⟩
      refine wpAnyH_take (i := 13) (v := .pointer (some ⟨w.heap.size, k, none⟩)) rfl (by kernel_rfl) (by kernel_rfl) (by kernel_rfl) (fun _ _ _ h => h) (Or.inl ⟨rfl, fun w _ => by go_simp⟩) HS ?_; simp only [Act.put, qz1, qz2, qz3, qz4, qz5, qz6]
      refine wpAnyH_all (rs := [14]) (by kernel_rfl) (by simp) (fun i hi => ?_)
      obtain rfl : i = 14 := by simpa using hi
      refine wpOp_one rfl ?_
      (repeat (first | (with_reducible first | refine xA ?_ | refine xB ?_ | refine xC ?_ | refine xD ?_ | refine xH ?_ | refine xI rfl ?_ | refine xE ?_ | refine xF ?_ | refine xG ?_) | go_skip | go_guarded | ((with_reducible refine wl_id ?_); refine wl_store_own rfl _ _ rfl w.heap.size xs.length _ k rfl rk.2 rfl hO2 hlt ?_; intro w3 hO3 hg3; (try simp only [Act.put, qz4, qz5, qz6])) | go_values | go_skip | go_guarded | go_step | go_upon | go_back | ((with_reducible show Oper.upon _ _ _ _ _ _); go_simp) | (dsimp only)))
      have hK3 := hK2.owned hg3 (Nat.le_refl _)
      have hG3 := hG2.other hg3 (.inr rfl)
      have hk23 : Kept (fun i => i ≠ w.heap.size) w2 w3 := ⟨hg3.os, hg3.tape, hg3.output, hg3.size, fun i hi hx => hg3.block i hi (fun e => hx (by injection e))⟩
      refine ⟨⟨hk23.cell HS.1 (by show bx ≠ _; omega), hk23.cell HS.2 (by show by' ≠ _; omega)⟩, ?_⟩
      refine wpAnyH_done (by kernel_rfl) ?_ _
      have hzl := hZ.out.len
      rw [← hzl, filled_set (by omega)] at hO3
      obtain ⟨s2, hZ2⟩ := hZ.out.next Hx.out Hy.out Hxk.out Hyk.out hrk.out (fun a b => by
        obtain ⟨s', q1, q2, q3, _⟩ := choice_ok hZ.out.gi (hZ.out.st.isL Hc.out) a b
        rw [hrk.out] at q1 q2 q3
        exact ⟨s', q1, q2, q3⟩)
      have HZ2 := Lib.hid hZ2
      clear hZ2
      clear HS hO2 hG2 hK2 hg3 hk23
      (repeat (first | (with_reducible first | refine xA ?_ | refine xB ?_ | refine xC ?_ | refine xD ?_ | refine xH ?_ | refine xI rfl ?_ | refine xE ?_ | refine xF ?_ | refine xG ?_) | go_values | go_skip | go_guarded | go_step | go_upon | go_back | ((with_reducible show Oper.upon _ _ _ _ _ _); go_simp) | (dsimp only)))
      exact ⟨⟨k + 1, rk.1, outs ++ [rk.2], _, by omega, by go_num, HZ2, hO3, hG3, hK3⟩, by simp [intOf]; omega⟩
    · obtain rfl : k = xs.length := by omega
      have hz := hZ.out
      have e1 := hz.eq
      rw [List.take_of_length_le (Nat.le_refl _), List.take_of_length_le (Nat.le_of_eq Hxy.out)] at e1
      have hR : Hid (r = (gk, outs)) := Lib.hid (by rw [← Hr.out]; exact e1)
      rw [filled_full hz.len] at hO
      clear hz e1
      (repeat (first | (with_reducible first | refine xA ?_ | refine xB ?_ | refine xC ?_ | refine xD ?_ | refine xH ?_ | refine xI rfl ?_ | refine xE ?_ | refine xF ?_ | refine xG ?_) | go_values | go_skip | go_guarded | go_step | go_upon | go_back | ((with_reducible show Oper.upon _ _ _ _ _ _); go_simp) | (dsimp only)))
      go_ret
      rw [hR.out]
      exact ⟨_, rfl, hO, Nat.le_refl _, hG, hK⟩
end Go.Proofs.YtmaogkgjiplckaaGreat
namespace Go.Proofs.YtmaogkgjiplckaaGreat
open Go.RowKit
def sumG : G → List Int → List Int → Int → G × List Int × Int
  | g, x :: xs, y :: ys, c =>
    let h := odd g x y
    let o := odd h.1 h.2 c
    let a := both o.1 x y
    let b := both a.1 h.2 c
    let e := either b.1 a.2 b.2
    let t := sumG e.1 xs ys e.2
    (t.1, o.2 :: t.2.1, t.2.2)
  | g, _, _, c => (g, [], c)
theorem add_bits (x y c : Bool) (A B C D n : Nat) (h : A + 2 ^ n * D = B + C + (((x && y) || ((x != y) && c)).toNat)) : ((if ((x != y) != c) then 1 else 0) + 2 * A) + 2 ^ (n + 1) * D = ((if x then 1 else 0) + 2 * B) + ((if y then 1 else 0) + 2 * C) + c.toNat := by
  rw [Nat.pow_succ, Nat.mul_comm (2 ^ n) 2, Nat.mul_assoc]
  generalize 2 ^ n * D = E at *
  cases x <;> cases y <;> cases c <;> simp at h ⊢ <;> omega
theorem sum_ok {fr : List Int} : ∀ (xs ys : List Int) (g : G) (s : Nat → Bool) (c : Int), GI g fr s → isL g.n c → (∀ x ∈ xs, isL g.n x) → (∀ y ∈ ys, isL g.n y) → xs.length = ys.length →
    ∃ s', GI (sumG g xs ys c).1 fr s' ∧ Step g s (sumG g xs ys c).1 s' ∧ (sumG g xs ys c).1.n ≤ g.n + 5 * xs.length ∧ (∀ a ∈ (sumG g xs ys c).2.1, isL (sumG g xs ys c).1.n a) ∧ isL (sumG g xs ys c).1.n (sumG g xs ys c).2.2 ∧ (sumG g xs ys c).2.1.length = xs.length ∧
      bv ((sumG g xs ys c).2.1.map (lit s')) + 2 ^ xs.length * (lit s' (sumG g xs ys c).2.2).toNat = bv (xs.map (lit s)) + bv (ys.map (lit s)) + (lit s c).toNat := by
  intro xs
  induction xs with
  | nil =>
    intro ys g s c hI hc hx hy hl
    cases ys with
    | nil => exact ⟨s, hI, Step.refl _ _, by simp [sumG], by simp [sumG], hc, rfl, by simp [sumG, bv]⟩
    | cons => simp at hl
  | cons x xs ih =>
    intro ys g s c hI hc hx hy hl
    cases ys with
    | nil => simp at hl
    | cons y ys =>
      have Lx := hx x (by simp)
      have Ly := hy y (by simp)
      obtain ⟨s1, i1, t1, n1, L1, v1⟩ := odd_ok hI Lx Ly
      obtain ⟨s2, i2, t2, n2, L2, v2⟩ := odd_ok i1 L1 (t1.isL hc)
      have t12 := t1.trans t2
      obtain ⟨s3, i3, t3, n3, L3, v3⟩ := both_ok i2 (t12.isL Lx) (t12.isL Ly)
      have t13 := t12.trans t3
      have t23 := t2.trans t3
      obtain ⟨s4, i4, t4, n4, L4, v4⟩ := both_ok i3 (t23.isL L1) (t13.isL hc)
      have t14 := t13.trans t4
      obtain ⟨s5, i5, t5, n5, L5, v5⟩ := either_ok i4 (t4.isL L3) L4
      have t15 := t14.trans t5
      simp only [List.length_cons, Nat.add_right_cancel_iff] at hl
      have hxs : ∀ a ∈ xs, isL g.n a := fun a ha => hx a (by simp [ha])
      have hys : ∀ a ∈ ys, isL g.n a := fun a ha => hy a (by simp [ha])
      obtain ⟨s6, i6, t6, n6, L6, L6', len6, v6⟩ := ih ys _ s5 _ i5 L5 (fun a ha => t15.isL (hxs a ha)) (fun a ha => t15.isL (hys a ha)) hl
      have t26 := ((t3.trans t4).trans t5).trans t6
      refine ⟨s6, i6, t15.trans t6, ?_, ?_, L6', ?_, ?_⟩
      · have e : (sumG g (x :: xs) (y :: ys) c).1.n = (sumG (either (both (both (odd (odd g x y).1 (odd g x y).2 c).1 x y).1 (odd g x y).2 c).1 (both (odd (odd g x y).1 (odd g x y).2 c).1 x y).2 (both (both (odd (odd g x y).1 (odd g x y).2 c).1 x y).1 (odd g x y).2 c).2).1 xs ys (either (both (both (odd (odd g x y).1 (odd g x y).2 c).1 x y).1 (odd g x y).2 c).1 (both (odd (odd g x y).1 (odd g x y).2 c).1 x y).2 (both (both (odd (odd g x y).1 (odd g x y).2 c).1 x y).1 (odd g x y).2 c).2).2).1.n := rfl
        rw [e, List.length_cons]
        omega
      · intro a ha
        simp only [sumG, List.mem_cons] at ha
        rcases ha with rfl | ha
        · exact t26.isL L2
        · exact L6 a ha
      · simp only [sumG, List.length_cons, len6]
      · simp only [sumG, List.map_cons, bv, List.length_cons]
        rw [t26.lit L2, v2, v1, t1.lit hc]
        rw [step_map t15 hxs, step_map t15 hys, v5, t4.lit L3, v3, v4, t23.lit L1, v1, t13.lit hc, t12.lit Lx, t12.lit Ly] at v6
        exact add_bits (lit s x) (lit s y) (lit s c) _ _ _ _ xs.length v6
end Go.Proofs.YtmaogkgjiplckaaGreat
namespace Go.Proofs.YtmaogkgjiplckaaGreat
open Go.RowKit
theorem sumG_snoc : ∀ (xs ys : List Int) (g : G) (c x y : Int), xs.length = ys.length → sumG g (xs ++ [x]) (ys ++ [y]) c = (let t := sumG g xs ys c; let u := sumG t.1 [x] [y] t.2.2; (u.1, t.2.1 ++ u.2.1, u.2.2)) := by
  intro xs
  induction xs with
  | nil => intro ys g c x y h; cases ys with
    | nil => rfl
    | cons => simp at h
  | cons a xs ih => intro ys g c x y h; cases ys with
    | nil => simp at h
    | cons b ys =>
      simp only [List.length_cons, Nat.add_right_cancel_iff] at h
      simp only [List.cons_append, sumG, ih ys _ _ x y h]
structure SS5 (g : G) (fr : List Int) (s : Nat → Bool) (xs ys : List Int) (c : Int) (k : Nat) (gk : G) (outs : List Int) (ck : Int) (sk : Nat → Bool) : Prop where
  eq : sumG g (xs.take k) (ys.take k) c = (gk, outs, ck)
  len : outs.length = k
  gi : GI gk fr sk
  st : Step g s gk sk
  le : gk.n ≤ g.n + 5 * k
  cc : isL gk.n ck
structure Five (fr : List Int) (gk : G) (sk : Nat → Bool) (x y c : Int) (h o a b e : G × Int) : Prop where
  eh : odd gk x y = h
  eo : odd h.1 h.2 c = o
  ea : both o.1 x y = a
  eb : both a.1 h.2 c = b
  ee : either b.1 a.2 b.2 = e
  x0 : ∀ p ∈ gk.xo, isL gk.n p.2
  Lh : isL h.1.n h.2 ∧ isL h.1.n c ∧ h.1.n ≤ gk.n + 1 ∧ ∀ p ∈ h.1.xo, isL h.1.n p.2
  Lo : isL o.1.n x ∧ isL o.1.n y ∧ o.1.n ≤ gk.n + 2
  La : isL a.1.n h.2 ∧ isL a.1.n c ∧ a.1.n ≤ gk.n + 3
  Lb : isL b.1.n a.2 ∧ isL b.1.n b.2 ∧ b.1.n ≤ gk.n + 4
  Ib : ∃ s4, GI b.1 fr s4
  fin : ∃ s5, GI e.1 fr s5 ∧ Step gk sk e.1 s5 ∧ e.1.n ≤ gk.n + 5 ∧ isL e.1.n e.2
theorem five {fr : List Int} {gk : G} {sk : Nat → Bool} {x y c : Int} (hI : GI gk fr sk) (Lx : isL gk.n x) (Ly : isL gk.n y) (hc : isL gk.n c) : ∃ h o a b e, Five fr gk sk x y c h o a b e := by
  obtain ⟨s1, i1, t1, n1, L1, _⟩ := odd_ok hI Lx Ly
  obtain ⟨h, hh⟩ : ∃ h, odd gk x y = h := ⟨_, rfl⟩
  rw [hh] at i1 t1 n1 L1
  obtain ⟨s2, i2, t2, n2, L2, _⟩ := odd_ok i1 L1 (t1.isL hc)
  obtain ⟨o, ho⟩ : ∃ o, odd h.1 h.2 c = o := ⟨_, rfl⟩
  rw [ho] at i2 t2 n2 L2
  have t12 := t1.trans t2
  obtain ⟨s3, i3, t3, n3, L3, _⟩ := both_ok i2 (t12.isL Lx) (t12.isL Ly)
  obtain ⟨a, ha⟩ : ∃ a, both o.1 x y = a := ⟨_, rfl⟩
  rw [ha] at i3 t3 n3 L3
  have t13 := t12.trans t3
  have t23 := t2.trans t3
  obtain ⟨s4, i4, t4, n4, L4, _⟩ := both_ok i3 (t23.isL L1) (t13.isL hc)
  obtain ⟨b, hb⟩ : ∃ b, both a.1 h.2 c = b := ⟨_, rfl⟩
  rw [hb] at i4 t4 n4 L4
  have t14 := t13.trans t4
  obtain ⟨s5, i5, t5, n5, L5, _⟩ := either_ok i4 (t4.isL L3) L4
  obtain ⟨e, he⟩ : ∃ e, either b.1 a.2 b.2 = e := ⟨_, rfl⟩
  rw [he] at i5 t5 n5 L5
  exact ⟨h, o, a, b, e, hh, ho, ha, hb, he, fun p hp => (hI.xo p hp).2.2.1, ⟨L1, t1.isL hc, n1, fun p hp => (i1.xo p hp).2.2.1⟩, ⟨t12.isL Lx, t12.isL Ly, by omega⟩, ⟨t23.isL L1, t13.isL hc, by omega⟩, ⟨t4.isL L3, L4, by omega⟩, ⟨s4, i4⟩, s5, i5, t14.trans t5, by omega, L5⟩
theorem SS5.start {g : G} {fr : List Int} {s : Nat → Bool} {xs ys : List Int} {c : Int} (h : GI g fr s) (hc : isL g.n c) : SS5 g fr s xs ys c 0 g [] c s := ⟨rfl, rfl, h, Step.refl _ _, Nat.le_refl _, hc⟩
theorem SS5.next {g : G} {fr : List Int} {s : Nat → Bool} {xs ys : List Int} {c : Int} {k : Nat} {gk : G} {outs : List Int} {ck : Int} {sk : Nat → Bool} (h : SS5 g fr s xs ys c k gk outs ck sk)
    {x y : Int} (ex : xs[k]? = some x) (ey : ys[k]? = some y) {h0 o a b e : G × Int} (F : Five fr gk sk x y ck h0 o a b e) : ∃ s', SS5 g fr s xs ys c (k + 1) e.1 (outs ++ [o.2]) e.2 s' := by
  obtain ⟨s', h1, h2, h3, h4⟩ := F.fin
  refine ⟨s', ⟨?_, by simp [h.len], h1, h.st.trans h2, by have := h.le; omega, h4⟩⟩
  have lx := (List.getElem?_eq_some_iff.1 ex).1
  have ly := (List.getElem?_eq_some_iff.1 ey).1
  rw [list_upto ex, list_upto ey, sumG_snoc _ _ _ _ _ _ (by rw [List.length_take, List.length_take]; omega), h.eq]
  simp only [sumG, F.eh, F.eo, F.ea, F.eb, F.ee]
def Word2 (X : Nat → Prop) (base gb n : Nat) (w : World) (r : G × List Int × Int) (e : Ending) (w' : World) : Prop :=
  ∃ q, e = .returned (.tuple #[.slice (some ⟨q, 0, none⟩) n n, .int .i64 r.2.2]) ∧ OwnI w' q n r.2.1 ∧ w.heap.size ≤ q ∧ GR (fun k => X k ∨ k = q) base w' gb r.1 ∧ Kept X w w'
set_option maxRecDepth 100000 in
set_option maxHeartbeats 1000000 in
theorem sum_any {X : Nat → Prop} {base gb : Nat} {g : G} {fr : List Int} {s : Nat → Bool} (w : World) (hG : GR X base w gb g) (hba : base ≤ w.heap.size) (vx vy : Value) (xs ys : List Int) (c : Int) (hX : SlX X w vx xs) (hY : SlX X w vy ys) (hxy : ys.length = xs.length) (hn : g.n + 5 * xs.length ≤ 1048576) (hn1 : xs.length ≤ 1000000) (hc : isL g.n c) (hx : ∀ x ∈ xs, isL g.n x) (hy : ∀ y ∈ ys, isL g.n y) (hI : GI g fr s) (r : G × List Int × Int) (hr : sumG g xs ys c = r) :
    Calls Tryz.prog 108 #[.pointer (some ⟨gb, 0, none⟩), vx, vy, .int .i64 c] w (Word2 X base gb xs.length w r) := by
  obtain ⟨ax, cx, rfl⟩ := hX.shape
  obtain ⟨ay, cy, rfl⟩ := hY.shape
  have HX := Lib.hid hX
  have HY := Lib.hid hY
  have Hxy := Lib.hid hxy
  have Hn := Lib.hid hn
  have Hn1 := Lib.hid hn1
  have Hc := Lib.hid hc
  have Hx := Lib.hid hx
  have Hy := Lib.hid hy
  have HI := Lib.hid hI
  have Hr := Lib.hid hr
  have HBA := Lib.hid hba
  have HG := Lib.hid hG
  have hnb : (xs.length : Int) ≤ 1000000 := by omega
  clear hX hY hxy hn hn1 hc hx hy hI hr hba hG
  go_enter Tryz.func108, Tryz.ntmps108
  (repeat (first | (with_reducible first | refine xA ?_ | refine xB ?_ | refine xC ?_ | refine xD ?_ | refine xH ?_ | refine xI rfl ?_ | refine xE ?_ | refine xF ?_ | refine xG ?_) | go_skip | go_guarded | (at_make; refine wl_make_own rfl _ _ rfl xs.length rfl rfl Hn1.out ?_; intro w1 hO hg; (try simp only [Act.put, qz4, qz5, qz6])) | go_values | go_skip | go_guarded | go_step | go_upon | go_back | ((with_reducible show Oper.upon _ _ _ _ _ _); go_simp) | (dsimp only)))
  have hG1 := HG.out.owned hg (Nat.le_refl _) hO.lt
  have hK1 : Kept X w w1 := ⟨hg.os, hg.tape, hg.output, hg.size, fun i hi _ => hg.block i hi (by simp)⟩
  have hO1 : OwnI w1 w.heap.size xs.length (filled [] xs.length) := by simpa [filled] using hO
  clear hO hg
  go_loopw [3, 18] (fun cv i wr => ∃ (k : Nat) (gk : G) (outs : List Int) (ck : Int) (sk : Nat → Bool), k ≤ xs.length ∧ i = .int .i64 k ∧ cv = .int .i64 ck ∧ Hid (SS5 g fr s xs ys c k gk outs ck sk) ∧ OwnI wr w.heap.size xs.length (filled outs xs.length) ∧ GR (fun k => X k ∨ k = w.heap.size) base wr gb gk ∧ Kept X w wr) (fun _ i _ => xs.length - (intOf i).toNat)
  case atStart => exact ⟨0, g, [], c, s, Nat.zero_le _, rfl, rfl, Lib.hid (SS5.start HI.out Hc.out), hO1, hG1, hK1⟩
  case round =>
    clear hO1 hG1 hK1
    obtain ⟨k, gk, outs, ck, sk, hk, rfl, rfl, hZ, hO, hG, hK⟩ := hrel
    rcases Nat.lt_or_ge k xs.length with hlt | hge
    · obtain ⟨bx, ox, rfl, xbx, lbx, cbx, HRx⟩ := HX.out.row (by omega)
      obtain ⟨by', oy, rfl, xby, lby, cby, HRy⟩ := HY.out.row (by have := Hxy.out; omega)
      obtain ⟨x, hx⟩ : ∃ x, xs[k]? = some x := ⟨_, List.getElem?_eq_getElem hlt⟩
      obtain ⟨y, hy⟩ : ∃ y, ys[k]? = some y := ⟨_, List.getElem?_eq_getElem (by have := Hxy.out; omega)⟩
      have hcx := hK.cell (HRx k x hx) xbx
      have hcy := hK.cell (HRy k y hy) xby
      have hyl : ys.length = xs.length := Hxy.out
      have i0 : (0 : Int) ≤ (k : Int) := by omega
      have i1 : (k : Int) < (xs.length : Int) := by omega
      have i2 : (k : Int) < (ys.length : Int) := by omega
      have hst := hZ.out.st
      obtain ⟨h, o, a, b, e, hF⟩ := five hZ.out.gi (hst.isL (Hx.out x (List.mem_of_getElem? hx))) (hst.isL (Hy.out y (List.mem_of_getElem? hy))) hZ.out.cc
      have hgk : gk.n + 5 ≤ 1048576 := by have := hZ.out.le; have := Hn.out; omega
      have HF := Lib.hid hF
      have N0 := Lib.hid (show gk.n < 1048576 by omega)
      have N1 := Lib.hid (show h.1.n < 1048576 by have := hF.Lh; omega)
      have N2 := Lib.hid (show o.1.n < 1048576 by have := hF.Lo; omega)
      have N3 := Lib.hid (show a.1.n < 1048576 by have := hF.La; omega)
      have N4 := Lib.hid (show b.1.n < 1048576 by have := hF.Lb; omega)
      have L0 := Lib.hid (hst.isL (Hx.out x (List.mem_of_getElem? hx)))
      have L1 := Lib.hid (hst.isL (Hy.out y (List.mem_of_getElem? hy)))
      have L2 := Lib.hid hF.Lh.1
      have L3 := Lib.hid hF.Lh.2.1
      have L4 := Lib.hid hF.Lo.1
      have L5 := Lib.hid hF.Lo.2.1
      have L6 := Lib.hid hF.La.1
      have L7 := Lib.hid hF.La.2.1
      have L8 := Lib.hid hF.Lb.1
      have L9 := Lib.hid hF.Lb.2.1
      have Q0 := Lib.hid hF.x0
      have Q1 := Lib.hid hF.Lh.2.2.2
      have E0 := Lib.hid hF.eh
      have E1 := Lib.hid hF.eo
      have E2 := Lib.hid hF.ea
      have E3 := Lib.hid hF.eb
      have E4 := Lib.hid hF.ee
      obtain ⟨s4, hI4⟩ := hF.Ib
      have HI4 := Lib.hid hI4
      obtain ⟨s5, hZ5⟩ := hZ.out.next hx hy hF
      have HZ5 := Lib.hid hZ5
      have hzl : outs.length = k := hZ.out.len
      have HZL := Lib.hid hzl
      have HO := Lib.hid hO
      have HCx := Lib.hid hcx
      have HCy := Lib.hid hcy
      clear hx hy HRx HRy hO hcx hcy hyl hst hF hgk hI4 hZ5 hzl
      (repeat (first | (with_reducible first | refine xA ?_ | refine xB ?_ | refine xC ?_ | refine xD ?_ | refine xH ?_ | refine xI rfl ?_ | refine xE ?_ | refine xF ?_ | refine xG ?_) | go_values | go_skip | go_guarded | go_step | go_upon | go_back | ((with_reducible show Oper.upon _ _ _ _ _ _); go_simp) | (dsimp only)))
      refine wp_region_held (S := fun u => u.cell? ⟨bx, ox + k, none⟩ = some (.int .i64 x) ∧ u.cell? ⟨by', oy + k, none⟩ = some (.int .i64 y)) (by kernel_rfl) ?_
      have HS : (({ wr with drawn := wr.drawn + 1 } : World)).cell? ⟨bx, ox + k, none⟩ = some (.int .i64 x) ∧ (({ wr with drawn := wr.drawn + 1 } : World)).cell? ⟨by', oy + k, none⟩ = some (.int .i64 y) := ⟨HCx.out, HCy.out⟩
      have hO : OwnI ({ wr with drawn := wr.drawn + 1 } : World) w.heap.size xs.length (filled outs xs.length) := HO.out
      replace hG : GR _ base ({ wr with drawn := wr.drawn + 1 } : World) gb gk := hG.same ⟨rfl, rfl, rfl, Nat.le_refl _, fun _ _ _ => rfl⟩
      replace hK : Kept X w ({ wr with drawn := wr.drawn + 1 } : World) := hK.drew 1
      clear HO HCx HCy
      generalize ({ wr with drawn := wr.drawn + 1 } : World) = u0 at *
      refine wpAnyH_take (i := 0) (v := .pointer (some ⟨gb, 0, none⟩)) rfl (by kernel_rfl) (by kernel_rfl) (by kernel_rfl) (fun _ _ _ h => h) (Or.inl ⟨rfl, fun w _ => by go_simp⟩) HS ?_; simp only [Act.put, qz1, qz2, qz3, qz4, qz5, qz6]
      refine wpAnyH_take (i := 1) (v := .slice (some ⟨bx, ox, none⟩) xs.length cx) rfl (by kernel_rfl) (by kernel_rfl) (by kernel_rfl) (fun _ _ _ h => h) (Or.inl ⟨rfl, fun w _ => by go_simp⟩) HS ?_; simp only [Act.put, qz1, qz2, qz3, qz4, qz5, qz6]
      refine wpAnyH_take (i := 2) (v := .int .i64 k) rfl (by kernel_rfl) (by kernel_rfl) (by kernel_rfl) (fun _ _ _ h => h) (Or.inl ⟨rfl, fun w _ => by go_simp⟩) HS ?_; simp only [Act.put, qz1, qz2, qz3, qz4, qz5, qz6]
      refine wpAnyH_take (i := 3) (v := .pointer (some ⟨bx, ox + k, none⟩)) rfl (by kernel_rfl) (by kernel_rfl) (by kernel_rfl) (fun _ _ _ h => h) (Or.inl ⟨rfl, fun w _ => by go_simp⟩) HS ?_; simp only [Act.put, qz1, qz2, qz3, qz4, qz5, qz6]
      refine wpAnyH_take (i := 4) (v := .int .i64 x) rfl (by kernel_rfl) (by kernel_rfl) (by kernel_rfl) (fun _ _ _ h => h) (Or.inl ⟨rfl, fun w hw => by have hx := hw.1; go_simp⟩) HS ?_
      simp only [Act.put, qz1, qz2, qz3, qz4, qz5, qz6]
      refine wpAnyH_take (i := 5) (v := .slice (some ⟨by', oy, none⟩) ys.length cy) rfl (by kernel_rfl) (by kernel_rfl) (by kernel_rfl) (fun _ _ _ h => h) (Or.inl ⟨rfl, fun w _ => by go_simp⟩) HS ?_; simp only [Act.put, qz1, qz2, qz3, qz4, qz5, qz6]
      refine wpAnyH_take (i := 6) (v := .int .i64 k) rfl (by kernel_rfl) (by kernel_rfl) (by kernel_rfl) (fun _ _ _ h => h) (Or.inl ⟨rfl, fun w _ => by go_simp⟩) HS ?_; simp only [Act.put, qz1, qz2, qz3, qz4, qz5, qz6]
      refine wpAnyH_take (i := 7) (v := .pointer (some ⟨by', oy + k, none⟩)) rfl (by kernel_rfl) (by kernel_rfl) (by kernel_rfl) (fun _ _ _ h => h) (Or.inl ⟨rfl, fun w _ => by go_simp⟩) HS ?_; simp only [Act.put, qz1, qz2, qz3, qz4, qz5, qz6]
      refine wpAnyH_take (i := 8) (v := .int .i64 y) rfl (by kernel_rfl) (by kernel_rfl) (by kernel_rfl) (fun _ _ _ h => h) (Or.inl ⟨rfl, fun w hw => by have hx := hw.2; go_simp⟩) HS ?_
      simp only [Act.put, qz1, qz2, qz3, qz4, qz5, qz6]
      refine wpAnyH_all (rs := [9]) (by kernel_rfl) (by simp) (fun i hi => ?_)
      obtain rfl : i = 9 := by simpa using hi
      refine wpOp_one rfl ?_
      have hba1 : base ≤ u0.heap.size := Nat.le_trans HBA.out hK.size
      (repeat (first | (with_reducible first | refine xA ?_ | refine xB ?_ | refine xC ?_ | refine xD ?_ | refine xH ?_ | refine xI rfl ?_ | refine xE ?_ | refine xF ?_ | refine xG ?_) | go_skip | go_guarded | (go_at_call 114; (with_reducible refine (odd_any _ hG N0 hba1 _ _ L0 L1 Q0 h E0).mono ?_); rintro _ w2 ⟨rfl, hG2, hk2⟩) | go_values | go_skip | go_guarded | go_step | go_upon | go_back | ((with_reducible show Oper.upon _ _ _ _ _ _); go_simp) | (dsimp only)))
      have hO2 := hO.kept hk2 (.inr rfl)
      have hS2 : w2.cell? ⟨bx, ox + k, none⟩ = some (.int .i64 x) ∧ w2.cell? ⟨by', oy + k, none⟩ = some (.int .i64 y) := ⟨hk2.cell HS.1 (.inl xbx), hk2.cell HS.2 (.inl xby)⟩
      have hK2 := hK.trans (hk2.mono fun k _ hx => .inl hx)
      clear HS
      have HS := hS2
      clear hS2 hG hO hK hk2 hba1
      refine ⟨HS, ?_⟩
      refine wpAnyH_all (rs := [10]) (by kernel_rfl) (by simp) (fun i hi => ?_)
      obtain rfl : i = 10 := by simpa using hi
      refine wpOp_one rfl ?_
      (repeat (first | (with_reducible first | refine xA ?_ | refine xB ?_ | refine xC ?_ | refine xD ?_ | refine xH ?_ | refine xI rfl ?_ | refine xE ?_ | refine xF ?_ | refine xG ?_) | go_values | go_skip | go_guarded | go_step | go_upon | go_back | ((with_reducible show Oper.upon _ _ _ _ _ _); go_simp) | (dsimp only)))
      refine ⟨HS, ?_⟩
      refine wpAnyH_done (by kernel_rfl) ?_ _
      have hba2 : base ≤ w2.heap.size := Nat.le_trans HBA.out hK2.size
      (repeat (first | (with_reducible first | refine xA ?_ | refine xB ?_ | refine xC ?_ | refine xD ?_ | refine xH ?_ | refine xI rfl ?_ | refine xE ?_ | refine xF ?_ | refine xG ?_) | go_skip | go_guarded | (go_at_call 114; (with_reducible refine (odd_any _ hG2 N1 hba2 _ _ L2 L3 Q1 o E1).mono ?_); rintro _ w3 ⟨rfl, hG3, hk3⟩; have hO3 := hO2.kept hk3 (.inr rfl); have hK3 := hK2.trans (hk3.mono fun k _ hx => .inl hx)) | ((with_reducible refine wl_id ?_); refine wl_store_own rfl _ _ rfl w.heap.size xs.length _ k rfl o.2 rfl hO3 hlt ?_; intro w4 hO4 hg4; have HO4 := Lib.hid hO4; have HG4 := Lib.hid hg4; clear hO4 hg4; (try simp only [Act.put, qz4, qz5, qz6])) | go_values | go_skip | go_guarded | go_step | go_upon | go_back | ((with_reducible show Oper.upon _ _ _ _ _ _); go_simp) | (dsimp only)))
      have hS4 : w4.cell? ⟨bx, ox + k, none⟩ = some (.int .i64 x) ∧ w4.cell? ⟨by', oy + k, none⟩ = some (.int .i64 y) := by
        have hk34 : Kept (fun i => i ≠ w.heap.size) w3 w4 := ⟨HG4.out.os, HG4.out.tape, HG4.out.output, HG4.out.size, fun i hi hx => HG4.out.block i hi (fun e => hx (by injection e))⟩
        exact ⟨hk34.cell (hk3.cell HS.1 (.inl xbx)) (by show bx ≠ _; omega), hk34.cell (hk3.cell HS.2 (.inl xby)) (by show by' ≠ _; omega)⟩
      have hK4 := hK3.owned HG4.out (Nat.le_refl _)
      have hG4 := hG3.other HG4.out (.inr rfl)
      have hO4 := HO4.out
      rw [← HZL.out, filled_set (by rw [HZL.out]; omega)] at hO4
      have HO5 := Lib.hid hO4
      have HS4 := Lib.hid hS4
      clear HS hS4 hO4 HO4 HG4 hO3 hO2 hG3 hG2 hk3 hK3 hK2 hba2
      (repeat (first | (with_reducible first | refine xA ?_ | refine xB ?_ | refine xC ?_ | refine xD ?_ | refine xH ?_ | refine xI rfl ?_ | refine xE ?_ | refine xF ?_ | refine xG ?_) | go_values | go_skip | go_guarded | go_step | go_upon | go_back | ((with_reducible show Oper.upon _ _ _ _ _ _); go_simp) | (dsimp only)))
      refine wp_region_held (S := fun u => u.cell? ⟨bx, ox + k, none⟩ = some (.int .i64 x) ∧ u.cell? ⟨by', oy + k, none⟩ = some (.int .i64 y)) (by kernel_rfl) ?_
      have HS : (({ w4 with drawn := w4.drawn + 1 } : World)).cell? ⟨bx, ox + k, none⟩ = some (.int .i64 x) ∧ (({ w4 with drawn := w4.drawn + 1 } : World)).cell? ⟨by', oy + k, none⟩ = some (.int .i64 y) := HS4.out
      have hO : OwnI ({ w4 with drawn := w4.drawn + 1 } : World) w.heap.size xs.length (filled (outs ++ [o.2]) xs.length) := HO5.out
      replace hG4 : GR _ base ({ w4 with drawn := w4.drawn + 1 } : World) gb o.1 := hG4.same ⟨rfl, rfl, rfl, Nat.le_refl _, fun _ _ _ => rfl⟩
      replace hK4 : Kept X w ({ w4 with drawn := w4.drawn + 1 } : World) := hK4.drew 1
      clear HO5 HS4
      generalize ({ w4 with drawn := w4.drawn + 1 } : World) = u5 at *
      refine wpAnyH_take (i := 0) (v := .pointer (some ⟨gb, 0, none⟩)) rfl (by kernel_rfl) (by kernel_rfl) (by kernel_rfl) (fun _ _ _ h => h) (Or.inl ⟨rfl, fun w _ => by go_simp⟩) HS ?_; simp only [Act.put, qz1, qz2, qz3, qz4, qz5, qz6]
      refine wpAnyH_take (i := 1) (v := .pointer (some ⟨gb, 0, none⟩)) rfl (by kernel_rfl) (by kernel_rfl) (by kernel_rfl) (fun _ _ _ h => h) (Or.inl ⟨rfl, fun w _ => by go_simp⟩) HS ?_; simp only [Act.put, qz1, qz2, qz3, qz4, qz5, qz6]
      refine wpAnyH_take (i := 2) (v := .slice (some ⟨bx, ox, none⟩) xs.length cx) rfl (by kernel_rfl) (by kernel_rfl) (by kernel_rfl) (fun _ _ _ h => h) (Or.inl ⟨rfl, fun w _ => by go_simp⟩) HS ?_; simp only [Act.put, qz1, qz2, qz3, qz4, qz5, qz6]
      refine wpAnyH_take (i := 3) (v := .int .i64 k) rfl (by kernel_rfl) (by kernel_rfl) (by kernel_rfl) (fun _ _ _ h => h) (Or.inl ⟨rfl, fun w _ => by go_simp⟩) HS ?_; simp only [Act.put, qz1, qz2, qz3, qz4, qz5, qz6]
      refine wpAnyH_take (i := 4) (v := .pointer (some ⟨bx, ox + k, none⟩)) rfl (by kernel_rfl) (by kernel_rfl) (by kernel_rfl) (fun _ _ _ h => h) (Or.inl ⟨rfl, fun w _ => by go_simp⟩) HS ?_; simp only [Act.put, qz1, qz2, qz3, qz4, qz5, qz6]
      refine wpAnyH_take (i := 5) (v := .int .i64 x) rfl (by kernel_rfl) (by kernel_rfl) (by kernel_rfl) (fun _ _ _ h => h) (Or.inl ⟨rfl, fun w hw => by have hx := hw.1; go_simp⟩) HS ?_
      simp only [Act.put, qz1, qz2, qz3, qz4, qz5, qz6]
      refine wpAnyH_take (i := 6) (v := .slice (some ⟨by', oy, none⟩) ys.length cy) rfl (by kernel_rfl) (by kernel_rfl) (by kernel_rfl) (fun _ _ _ h => h) (Or.inl ⟨rfl, fun w _ => by go_simp⟩) HS ?_; simp only [Act.put, qz1, qz2, qz3, qz4, qz5, qz6]
      refine wpAnyH_take (i := 7) (v := .int .i64 k) rfl (by kernel_rfl) (by kernel_rfl) (by kernel_rfl) (fun _ _ _ h => h) (Or.inl ⟨rfl, fun w _ => by go_simp⟩) HS ?_; simp only [Act.put, qz1, qz2, qz3, qz4, qz5, qz6]
      refine wpAnyH_take (i := 8) (v := .pointer (some ⟨by', oy + k, none⟩)) rfl (by kernel_rfl) (by kernel_rfl) (by kernel_rfl) (fun _ _ _ h => h) (Or.inl ⟨rfl, fun w _ => by go_simp⟩) HS ?_; simp only [Act.put, qz1, qz2, qz3, qz4, qz5, qz6]
      refine wpAnyH_take (i := 9) (v := .int .i64 y) rfl (by kernel_rfl) (by kernel_rfl) (by kernel_rfl) (fun _ _ _ h => h) (Or.inl ⟨rfl, fun w hw => by have hx := hw.2; go_simp⟩) HS ?_
      simp only [Act.put, qz1, qz2, qz3, qz4, qz5, qz6]
      refine wpAnyH_take (i := 11) (v := .pointer (some ⟨gb, 0, none⟩)) rfl (by kernel_rfl) (by kernel_rfl) (by kernel_rfl) (fun _ _ _ h => h) (Or.inl ⟨rfl, fun w _ => by go_simp⟩) HS ?_; simp only [Act.put, qz1, qz2, qz3, qz4, qz5, qz6]
      refine wpAnyH_take (i := 12) (v := .int .i64 h.2) rfl (by kernel_rfl) (by kernel_rfl) (by kernel_rfl) (fun _ _ _ h => h) (Or.inl ⟨rfl, fun w _ => by go_simp⟩) HS ?_; simp only [Act.put, qz1, qz2, qz3, qz4, qz5, qz6]
      refine wpAnyH_take (i := 13) (v := .int .i64 ck) rfl (by kernel_rfl) (by kernel_rfl) (by kernel_rfl) (fun _ _ _ h => h) (Or.inl ⟨rfl, fun w _ => by go_simp⟩) HS ?_; simp only [Act.put, qz1, qz2, qz3, qz4, qz5, qz6]
      refine wpAnyH_all (rs := [10]) (by kernel_rfl) (by simp) (fun i hi => ?_)
      obtain rfl : i = 10 := by simpa using hi
      refine wpOp_one rfl ?_
      have hba5 : base ≤ u5.heap.size := Nat.le_trans HBA.out hK4.size
      (repeat (first | (with_reducible first | refine xA ?_ | refine xB ?_ | refine xC ?_ | refine xD ?_ | refine xH ?_ | refine xI rfl ?_ | refine xE ?_ | refine xF ?_ | refine xG ?_) | go_skip | go_guarded | (go_at_call 112; (with_reducible refine (both_any _ hG4 N2 hba5 _ _ L4 L5 a E2).mono ?_); rintro _ w6 ⟨rfl, hG6, hk6⟩) | go_values | go_skip | go_guarded | go_step | go_upon | go_back | ((with_reducible show Oper.upon _ _ _ _ _ _); go_simp) | (dsimp only)))
      have hO6 := hO.kept hk6 (.inr rfl)
      have hS6 : w6.cell? ⟨bx, ox + k, none⟩ = some (.int .i64 x) ∧ w6.cell? ⟨by', oy + k, none⟩ = some (.int .i64 y) := ⟨hk6.cell HS.1 (.inl xbx), hk6.cell HS.2 (.inl xby)⟩
      have hK6 := hK4.trans (hk6.mono fun k _ hx => .inl hx)
      clear HS
      have HS := hS6
      clear hS6 hG4 hO hK4 hk6 hba5
      refine ⟨HS, ?_⟩
      refine wpAnyH_all (rs := [14]) (by kernel_rfl) (by simp) (fun i hi => ?_)
      obtain rfl : i = 14 := by simpa using hi
      refine wpOp_one rfl ?_
      have hba6 : base ≤ w6.heap.size := Nat.le_trans HBA.out hK6.size
      (repeat (first | (with_reducible first | refine xA ?_ | refine xB ?_ | refine xC ?_ | refine xD ?_ | refine xH ?_ | refine xI rfl ?_ | refine xE ?_ | refine xF ?_ | refine xG ?_) | go_skip | go_guarded | (go_at_call 112; (with_reducible refine (both_any _ hG6 N3 hba6 _ _ L6 L7 b E3).mono ?_); rintro _ w7 ⟨rfl, hG7, hk7⟩) | go_values | go_skip | go_guarded | go_step | go_upon | go_back | ((with_reducible show Oper.upon _ _ _ _ _ _); go_simp) | (dsimp only)))
      have hO7 := hO6.kept hk7 (.inr rfl)
      have hS7 : w7.cell? ⟨bx, ox + k, none⟩ = some (.int .i64 x) ∧ w7.cell? ⟨by', oy + k, none⟩ = some (.int .i64 y) := ⟨hk7.cell HS.1 (.inl xbx), hk7.cell HS.2 (.inl xby)⟩
      have hK7 := hK6.trans (hk7.mono fun k _ hx => .inl hx)
      clear HS
      have HS := hS7
      clear hS7 hG6 hO6 hK6 hk7 hba6
      refine ⟨HS, ?_⟩
      refine wpAnyH_all (rs := [15]) (by kernel_rfl) (by simp) (fun i hi => ?_)
      obtain rfl : i = 15 := by simpa using hi
      refine wpOp_one rfl ?_
      have hba7 : base ≤ w7.heap.size := Nat.le_trans HBA.out hK7.size
      (repeat (first | (with_reducible first | refine xA ?_ | refine xB ?_ | refine xC ?_ | refine xD ?_ | refine xH ?_ | refine xI rfl ?_ | refine xE ?_ | refine xF ?_ | refine xG ?_) | go_skip | go_guarded | (go_at_call 113; (with_reducible refine (either_any _ hG7 N4 hba7 _ _ L8 L9 HI4 e E4).mono ?_); rintro _ w8 ⟨rfl, hG8, hk8⟩) | go_values | go_skip | go_guarded | go_step | go_upon | go_back | ((with_reducible show Oper.upon _ _ _ _ _ _); go_simp) | (dsimp only)))
      have hO8 := hO7.kept hk8 (.inr rfl)
      have hS8 : w8.cell? ⟨bx, ox + k, none⟩ = some (.int .i64 x) ∧ w8.cell? ⟨by', oy + k, none⟩ = some (.int .i64 y) := ⟨hk8.cell HS.1 (.inl xbx), hk8.cell HS.2 (.inl xby)⟩
      have hK8 := hK7.trans (hk8.mono fun k _ hx => .inl hx)
      clear HS
      have HS := hS8
      clear hS8 hG7 hO7 hK7 hk8 hba7
      refine ⟨HS, ?_⟩
      refine wpAnyH_all (rs := [16]) (by kernel_rfl) (by simp) (fun i hi => ?_)
      obtain rfl : i = 16 := by simpa using hi
      refine wpOp_one rfl ?_
      (repeat (first | (with_reducible first | refine xA ?_ | refine xB ?_ | refine xC ?_ | refine xD ?_ | refine xH ?_ | refine xI rfl ?_ | refine xE ?_ | refine xF ?_ | refine xG ?_) | go_values | go_skip | go_guarded | go_step | go_upon | go_back | ((with_reducible show Oper.upon _ _ _ _ _ _); go_simp) | (dsimp only)))
      refine ⟨HS, ?_⟩
      refine wpAnyH_done (by kernel_rfl) ?_ _
      clear HS
      (repeat (first | (with_reducible first | refine xA ?_ | refine xB ?_ | refine xC ?_ | refine xD ?_ | refine xH ?_ | refine xI rfl ?_ | refine xE ?_ | refine xF ?_ | refine xG ?_) | go_values | go_skip | go_guarded | go_step | go_upon | go_back | ((with_reducible show Oper.upon _ _ _ _ _ _); go_simp) | (dsimp only)))
      exact ⟨⟨k + 1, e.1, outs ++ [o.2], e.2, s5, by omega, by go_num, rfl, HZ5, hO8, hG8, hK8⟩, by simp [intOf]; omega⟩
    · obtain rfl : k = xs.length := by omega
      have hz := hZ.out
      have e1 := hz.eq
      rw [List.take_of_length_le (Nat.le_refl _), List.take_of_length_le (Nat.le_of_eq Hxy.out)] at e1
      have hR : Hid (r = (gk, outs, ck)) := Lib.hid (by rw [← Hr.out]; exact e1)
      rw [filled_full hz.len] at hO
      clear hz e1
      (repeat (first | (with_reducible first | refine xA ?_ | refine xB ?_ | refine xC ?_ | refine xD ?_ | refine xH ?_ | refine xI rfl ?_ | refine xE ?_ | refine xF ?_ | refine xG ?_) | go_values | go_skip | go_guarded | go_step | go_upon | go_back | ((with_reducible show Oper.upon _ _ _ _ _ _); go_simp) | (dsimp only)))
      go_ret2
      rw [hR.out]
      exact ⟨_, rfl, hO, Nat.le_refl _, hG, hK⟩
end Go.Proofs.YtmaogkgjiplckaaGreat
namespace Go.Proofs.YtmaogkgjiplckaaGreat
open Go.RowKit
theorem sum_split {o n S : Nat} {c : Bool} (ho : o < 2 ^ n) (h : o + 2 ^ n * c.toNat = S) : o = S % 2 ^ n ∧ c = decide (2 ^ n ≤ S) := by
  subst h
  cases c
  · simp only [Bool.toNat_false, Nat.mul_zero, Nat.add_zero]
    exact ⟨(Nat.mod_eq_of_lt ho).symm, (decide_eq_false (by omega)).symm⟩
  · simp only [Bool.toNat_true, Nat.mul_one]
    exact ⟨by rw [Nat.add_mod_right]; exact (Nat.mod_eq_of_lt ho).symm, (decide_eq_true (by omega)).symm⟩
def notL (l : List Int) : List Int := l.map fun x => -x
theorem bv_not : ∀ l : List Bool, bv (l.map not) + bv l + 1 = 2 ^ l.length := by
  intro l
  induction l with
  | nil => rfl
  | cons b l ih =>
    rw [List.map_cons, bv, bv, List.length_cons, Nat.pow_succ]
    cases b <;> simp <;> omega
theorem notL_lit {n : Nat} {s : Nat → Bool} {l : List Int} (h : ∀ x ∈ l, isL n x) : (notL l).map (lit s) = (l.map (lit s)).map not := by
  unfold notL
  rw [List.map_map, List.map_map]
  exact List.map_congr_left fun x hx => lit_neg (h x hx).1
theorem notL_isL {n : Nat} {l : List Int} (h : ∀ x ∈ l, isL n x) : ∀ x ∈ notL l, isL n x := by
  intro x hx
  obtain ⟨y, hy, rfl⟩ := List.mem_map.1 hx
  exact (h y hy).neg
theorem notL_len (l : List Int) : (notL l).length = l.length := by simp [notL]
def num (s : Nat → Bool) (l : List Int) : Nat := bv (l.map (lit s))
theorem num_lt (s : Nat → Bool) (l : List Int) : num s l < 2 ^ l.length := by
  have := bv_lt (l.map (lit s))
  rwa [List.length_map] at this
theorem numS {g g' : G} {s s' : Nat → Bool} (h : Step g s g' s') {l : List Int} (hl : ∀ x ∈ l, isL g.n x) : num s' l = num s l := by show bv (l.map (lit s')) = bv (l.map (lit s)); rw [step_map h hl]
def NAns (g : G) (fr : List Int) (s : Nat → Bool) (k n : Nat) (r : G × List Int) (v : Nat) : Prop :=
  ∃ s', GI r.1 fr s' ∧ Step g s r.1 s' ∧ r.1.n ≤ g.n + k ∧ (∀ x ∈ r.2, isL r.1.n x) ∧ r.2.length = n ∧ num s' r.2 = v
theorem sumN_ok {g : G} {fr : List Int} {s : Nat → Bool} {xs ys : List Int} {c : Int} (hI : GI g fr s) (hc : isL g.n c) (hx : ∀ x ∈ xs, isL g.n x) (hy : ∀ y ∈ ys, isL g.n y) (hl : xs.length = ys.length) :
    ∃ s', GI (sumG g xs ys c).1 fr s' ∧ Step g s (sumG g xs ys c).1 s' ∧ (sumG g xs ys c).1.n ≤ g.n + 5 * xs.length ∧ (∀ a ∈ (sumG g xs ys c).2.1, isL (sumG g xs ys c).1.n a) ∧ isL (sumG g xs ys c).1.n (sumG g xs ys c).2.2 ∧ (sumG g xs ys c).2.1.length = xs.length ∧
      num s' (sumG g xs ys c).2.1 = (num s xs + num s ys + (lit s c).toNat) % 2 ^ xs.length ∧ lit s' (sumG g xs ys c).2.2 = decide (2 ^ xs.length ≤ num s xs + num s ys + (lit s c).toNat) := by
  obtain ⟨s', h1, h2, h3, h4, h5, h6, h7⟩ := sum_ok xs ys g s c hI hc hx hy hl
  have hlt := num_lt s' (sumG g xs ys c).2.1
  rw [h6] at hlt
  obtain ⟨e1, e2⟩ := sum_split hlt h7
  exact ⟨s', h1, h2, h3, h4, h5, h6, e1, e2⟩
theorem num_not {n : Nat} {s : Nat → Bool} {l : List Int} (h : ∀ x ∈ l, isL n x) : num s (notL l) + num s l + 1 = 2 ^ l.length := by
  unfold num
  rw [notL_lit h]
  have := bv_not (l.map (lit s))
  rwa [List.length_map] at this
theorem sub_ok {g : G} {fr : List Int} {s : Nat → Bool} {xs ys : List Int} (hI : GI g fr s) (hx : ∀ x ∈ xs, isL g.n x) (hy : ∀ y ∈ ys, isL g.n y) (hl : xs.length = ys.length) :
    ∃ s', GI (sumG g xs (notL ys) 1).1 fr s' ∧ Step g s (sumG g xs (notL ys) 1).1 s' ∧ (sumG g xs (notL ys) 1).1.n ≤ g.n + 5 * xs.length ∧ (∀ a ∈ (sumG g xs (notL ys) 1).2.1, isL (sumG g xs (notL ys) 1).1.n a) ∧ isL (sumG g xs (notL ys) 1).1.n (sumG g xs (notL ys) 1).2.2 ∧ (sumG g xs (notL ys) 1).2.1.length = xs.length ∧
      num s' (sumG g xs (notL ys) 1).2.1 = (num s xs + 2 ^ xs.length - num s ys) % 2 ^ xs.length ∧ lit s' (sumG g xs (notL ys) 1).2.2 = decide (num s ys ≤ num s xs) := by
  obtain ⟨s', h1, h2, h3, h4, h5, h6, h7, h8⟩ := sumN_ok hI (isL_one hI) hx (notL_isL hy) (by rw [notL_len]; exact hl)
  have hn := num_not (s := s) hy
  rw [← hl] at hn
  have h1' : (lit s 1).toNat = 1 := by rw [lit_one hI]; rfl
  have e : num s xs + num s (notL ys) + (lit s 1).toNat = num s xs + 2 ^ xs.length - num s ys := by rw [h1']; omega
  rw [e] at h7 h8
  refine ⟨s', h1, h2, h3, h4, h5, h6, h7, ?_⟩
  rw [h8]
  congr 1
  apply propext
  have := num_lt s ys
  rw [← hl] at this
  omega
def lessG (g : G) (xs ys : List Int) : G × Int := let r := sumG g xs (notL ys) 1; (r.1, -r.2.2)
theorem less_ok {g : G} {fr : List Int} {s : Nat → Bool} {xs ys : List Int} (hI : GI g fr s) (hx : ∀ x ∈ xs, isL g.n x) (hy : ∀ y ∈ ys, isL g.n y) (hl : xs.length = ys.length) : Ans g fr s (5 * xs.length) (lessG g xs ys) (decide (num s xs < num s ys)) := by
  obtain ⟨s', h1, h2, h3, h4, h5, h6, h7, h8⟩ := sub_ok hI hx hy hl
  refine ⟨s', h1, h2, h3, h5.neg, ?_⟩
  show lit s' (-(sumG g xs (notL ys) 1).2.2) = _
  rw [lit_neg h5.1, h8]
  by_cases h : num s ys ≤ num s xs
  · rw [decide_eq_true h, decide_eq_false (by omega)]; rfl
  · rw [decide_eq_false h, decide_eq_true (by omega)]; rfl
def sameG : G → Int → List Int → List Int → G × Int
  | g, o, x :: xs, y :: ys => let d := odd g x y; let b := both d.1 o (-d.2); sameG b.1 b.2 xs ys
  | g, o, _, _ => (g, o)
theorem same_ok {fr : List Int} : ∀ (xs ys : List Int) (g : G) (s : Nat → Bool) (o : Int), GI g fr s → isL g.n o → (∀ x ∈ xs, isL g.n x) → (∀ y ∈ ys, isL g.n y) → xs.length = ys.length →
    Ans g fr s (2 * xs.length) (sameG g o xs ys) (lit s o && decide (xs.map (lit s) = ys.map (lit s))) := by
  intro xs
  induction xs with
  | nil =>
    intro ys g s o hI ho hx hy hl
    cases ys with
    | nil => exact ⟨s, hI, Step.refl _ _, by simp [sameG], ho, by simp [sameG]⟩
    | cons => simp at hl
  | cons x xs ih =>
    intro ys g s o hI ho hx hy hl
    cases ys with
    | nil => simp at hl
    | cons y ys =>
      have Lx := hx x (by simp)
      have Ly := hy y (by simp)
      obtain ⟨s1, i1, t1, n1, L1, v1⟩ := odd_ok hI Lx Ly
      obtain ⟨s2, i2, t2, n2, L2, v2⟩ := both_ok i1 (t1.isL ho) L1.neg
      have t12 := t1.trans t2
      simp only [List.length_cons, Nat.add_right_cancel_iff] at hl
      have hxs : ∀ a ∈ xs, isL g.n a := fun a ha => hx a (by simp [ha])
      have hys : ∀ a ∈ ys, isL g.n a := fun a ha => hy a (by simp [ha])
      obtain ⟨s3, i3, t3, n3, L3, v3⟩ := ih ys _ s2 _ i2 L2 (fun a ha => t12.isL (hxs a ha)) (fun a ha => t12.isL (hys a ha)) hl
      refine ⟨s3, i3, t12.trans t3, ?_, L3, ?_⟩
      · have e : (sameG g o (x :: xs) (y :: ys)) = sameG (both (odd g x y).1 o (-(odd g x y).2)).1 (both (odd g x y).1 o (-(odd g x y).2)).2 xs ys := rfl
        rw [e, List.length_cons]
        omega
      · have e : (sameG g o (x :: xs) (y :: ys)) = sameG (both (odd g x y).1 o (-(odd g x y).2)).1 (both (odd g x y).1 o (-(odd g x y).2)).2 xs ys := rfl
        rw [e, v3, v2, step_map t12 hxs, step_map t12 hys, t1.lit ho, lit_neg L1.1, v1, List.map_cons, List.map_cons]
        cases lit s o <;> cases lit s x <;> cases lit s y <;> simp
end Go.Proofs.YtmaogkgjiplckaaGreat
namespace Go.Proofs.YtmaogkgjiplckaaGreat
open Go.RowKit
theorem sameG_snoc : ∀ (xs ys : List Int) (g : G) (c x y : Int), xs.length = ys.length → sameG g c (xs ++ [x]) (ys ++ [y]) = (let t := sameG g c xs ys; sameG t.1 t.2 [x] [y]) := by
  intro xs
  induction xs with
  | nil => intro ys g c x y h; cases ys with
    | nil => rfl
    | cons => simp at h
  | cons a xs ih => intro ys g c x y h; cases ys with
    | nil => simp at h
    | cons b ys =>
      simp only [List.length_cons, Nat.add_right_cancel_iff] at h
      simp only [List.cons_append, sameG, ih ys _ _ x y h]
structure SM2 (g : G) (fr : List Int) (s : Nat → Bool) (xs ys : List Int) (c : Int) (k : Nat) (gk : G) (ck : Int) (sk : Nat → Bool) : Prop where
  eq : sameG g c (xs.take k) (ys.take k) = (gk, ck)
  gi : GI gk fr sk
  st : Step g s gk sk
  le : gk.n ≤ g.n + 2 * k
  cc : isL gk.n ck
structure Duo (fr : List Int) (gk : G) (sk : Nat → Bool) (x y c : Int) (d b : G × Int) : Prop where
  ed : odd gk x y = d
  eb : both d.1 c (-d.2) = b
  x0 : ∀ p ∈ gk.xo, isL gk.n p.2
  Ld : isL d.1.n (-d.2) ∧ isL d.1.n c ∧ d.1.n ≤ gk.n + 1 ∧ isL d.1.n d.2
  fin : ∃ s5, GI b.1 fr s5 ∧ Step gk sk b.1 s5 ∧ b.1.n ≤ gk.n + 2 ∧ isL b.1.n b.2
theorem duo {fr : List Int} {gk : G} {sk : Nat → Bool} {x y c : Int} (hI : GI gk fr sk) (Lx : isL gk.n x) (Ly : isL gk.n y) (hc : isL gk.n c) : ∃ d b, Duo fr gk sk x y c d b := by
  obtain ⟨s1, i1, t1, n1, L1, _⟩ := odd_ok hI Lx Ly
  obtain ⟨d, hd⟩ : ∃ d, odd gk x y = d := ⟨_, rfl⟩
  rw [hd] at i1 t1 n1 L1
  obtain ⟨s2, i2, t2, n2, L2, _⟩ := both_ok i1 (t1.isL hc) L1.neg
  obtain ⟨b, hb⟩ : ∃ b, both d.1 c (-d.2) = b := ⟨_, rfl⟩
  rw [hb] at i2 t2 n2 L2
  exact ⟨d, b, hd, hb, fun p hp => (hI.xo p hp).2.2.1, ⟨L1.neg, t1.isL hc, n1, L1⟩, s2, i2, t1.trans t2, by omega, L2⟩
theorem SM2.next {g : G} {fr : List Int} {s : Nat → Bool} {xs ys : List Int} {c : Int} {k : Nat} {gk : G} {ck : Int} {sk : Nat → Bool} (h : SM2 g fr s xs ys c k gk ck sk)
    {x y : Int} (ex : xs[k]? = some x) (ey : ys[k]? = some y) {d b : G × Int} (F : Duo fr gk sk x y ck d b) : ∃ s', SM2 g fr s xs ys c (k + 1) b.1 b.2 s' := by
  obtain ⟨s', h1, h2, h3, h4⟩ := F.fin
  refine ⟨s', ⟨?_, h1, h.st.trans h2, by have := h.le; omega, h4⟩⟩
  have lx := (List.getElem?_eq_some_iff.1 ex).1
  have ly := (List.getElem?_eq_some_iff.1 ey).1
  rw [list_upto ex, list_upto ey, sameG_snoc _ _ _ _ _ _ (by rw [List.length_take, List.length_take]; omega), h.eq]
  simp only [sameG, F.ed, F.eb]
set_option maxRecDepth 100000 in
set_option maxHeartbeats 1000000 in
theorem same_any {X : Nat → Prop} {base gb : Nat} {g : G} {fr : List Int} {s : Nat → Bool} (w : World) (hG : GR X base w gb g) (hba : base ≤ w.heap.size) (vx vy : Value) (xs ys : List Int) (hX : SlX X w vx xs) (hY : SlX X w vy ys) (hxy : ys.length = xs.length) (hn : g.n + 2 * xs.length ≤ 1048576) (hn1 : xs.length ≤ 1000000) (hc : isL g.n 1) (hx : ∀ x ∈ xs, isL g.n x) (hy : ∀ y ∈ ys, isL g.n y) (hI : GI g fr s) (r : G × Int) (hr : sameG g 1 xs ys = r) :
    Calls Tryz.prog 117 #[.pointer (some ⟨gb, 0, none⟩), vx, vy] w fun e w' => e = .returned (.int .i64 r.2) ∧ GR X base w' gb r.1 ∧ Kept X w w' := by
  obtain ⟨ax, cx, rfl⟩ := hX.shape
  obtain ⟨ay, cy, rfl⟩ := hY.shape
  have HX := Lib.hid hX
  have HY := Lib.hid hY
  have Hxy := Lib.hid hxy
  have Hn := Lib.hid hn
  have Hn1 := Lib.hid hn1
  have Hx := Lib.hid hx
  have Hy := Lib.hid hy
  have HI := Lib.hid hI
  have Hr := Lib.hid hr
  have HBA := Lib.hid hba
  have HG := Lib.hid hG
  have Hc := Lib.hid hc
  have hnb : (xs.length : Int) ≤ 1000000 := by omega
  clear hX hY hxy hn hn1 hc hx hy hI hr hba hG
  go_enter Tryz.func117, Tryz.ntmps117
  (repeat (first | (with_reducible first | refine xA ?_ | refine xB ?_ | refine xC ?_ | refine xD ?_ | refine xH ?_ | refine xI rfl ?_ | refine xE ?_ | refine xF ?_ | refine xG ?_) | go_values | go_skip | go_guarded | go_step | go_upon | go_back | ((with_reducible show Oper.upon _ _ _ _ _ _); go_simp) | (dsimp only)))
  go_loopw [7, 11] (fun cv i wr => ∃ (k : Nat) (gk : G) (ck : Int) (sk : Nat → Bool), k ≤ xs.length ∧ i = .int .i64 k ∧ cv = .int .i64 ck ∧ Hid (SM2 g fr s xs ys 1 k gk ck sk) ∧ GR X base wr gb gk ∧ Kept X w wr) (fun _ i _ => xs.length - (intOf i).toNat)
  case atStart => exact ⟨0, g, 1, s, Nat.zero_le _, rfl, rfl, Lib.hid ⟨rfl, HI.out, Step.refl _ _, Nat.le_refl _, Hc.out⟩, HG.out, Kept.refl _ _⟩
  case round =>
    obtain ⟨k, gk, ck, sk, hk, rfl, rfl, hZ, hG, hK⟩ := hrel
    rcases Nat.lt_or_ge k xs.length with hlt | hge
    · obtain ⟨bx, ox, rfl, xbx, lbx, cbx, HRx⟩ := HX.out.row (by omega)
      obtain ⟨by', oy, rfl, xby, lby, cby, HRy⟩ := HY.out.row (by have := Hxy.out; omega)
      obtain ⟨x, hx⟩ : ∃ x, xs[k]? = some x := ⟨_, List.getElem?_eq_getElem hlt⟩
      obtain ⟨y, hy⟩ : ∃ y, ys[k]? = some y := ⟨_, List.getElem?_eq_getElem (by have := Hxy.out; omega)⟩
      have hcx := hK.cell (HRx k x hx) xbx
      have hcy := hK.cell (HRy k y hy) xby
      have hyl : ys.length = xs.length := Hxy.out
      have i0 : (0 : Int) ≤ (k : Int) := by omega
      have i1 : (k : Int) < (xs.length : Int) := by omega
      have i2 : (k : Int) < (ys.length : Int) := by omega
      have hst := hZ.out.st
      obtain ⟨d, b, hF⟩ := duo hZ.out.gi (hst.isL (Hx.out x (List.mem_of_getElem? hx))) (hst.isL (Hy.out y (List.mem_of_getElem? hy))) hZ.out.cc
      have hgk : gk.n + 2 ≤ 1048576 := by have := hZ.out.le; have := Hn.out; omega
      have hdb := rng_of hF.Ld.2.2.2 (show d.1.n ≤ 1048576 by have := hF.Ld; omega)
      have HF := Lib.hid hF
      have N0 := Lib.hid (show gk.n < 1048576 by omega)
      have N1 := Lib.hid (show d.1.n < 1048576 by have := hF.Ld; omega)
      have L0 := Lib.hid (hst.isL (Hx.out x (List.mem_of_getElem? hx)))
      have L1 := Lib.hid (hst.isL (Hy.out y (List.mem_of_getElem? hy)))
      have L2 := Lib.hid hF.Ld.1
      have L3 := Lib.hid hF.Ld.2.1
      have Q0 := Lib.hid hF.x0
      have E0 := Lib.hid hF.ed
      have E1 := Lib.hid hF.eb
      obtain ⟨s5, hZ5⟩ := hZ.out.next hx hy hF
      have HZ5 := Lib.hid hZ5
      have HCx := Lib.hid hcx
      have HCy := Lib.hid hcy
      clear hx hy HRx HRy hcx hcy hyl hst hF hgk hZ5
      (repeat (first | (with_reducible first | refine xA ?_ | refine xB ?_ | refine xC ?_ | refine xD ?_ | refine xH ?_ | refine xI rfl ?_ | refine xE ?_ | refine xF ?_ | refine xG ?_) | go_values | go_skip | go_guarded | go_step | go_upon | go_back | ((with_reducible show Oper.upon _ _ _ _ _ _); go_simp) | (dsimp only)))
      refine wp_region_held (S := fun u => u.cell? ⟨bx, ox + k, none⟩ = some (.int .i64 x) ∧ u.cell? ⟨by', oy + k, none⟩ = some (.int .i64 y)) (by kernel_rfl) ?_
      have HS : (({ wr with drawn := wr.drawn + 1 } : World)).cell? ⟨bx, ox + k, none⟩ = some (.int .i64 x) ∧ (({ wr with drawn := wr.drawn + 1 } : World)).cell? ⟨by', oy + k, none⟩ = some (.int .i64 y) := ⟨HCx.out, HCy.out⟩
      replace hG : GR _ base ({ wr with drawn := wr.drawn + 1 } : World) gb gk := hG.same ⟨rfl, rfl, rfl, Nat.le_refl _, fun _ _ _ => rfl⟩
      replace hK : Kept X w ({ wr with drawn := wr.drawn + 1 } : World) := hK.drew 1
      clear HCx HCy
      generalize ({ wr with drawn := wr.drawn + 1 } : World) = u0 at *
      refine wpAnyH_take (i := 0) (v := .pointer (some ⟨gb, 0, none⟩)) rfl (by kernel_rfl) (by kernel_rfl) (by kernel_rfl) (fun _ _ _ h => h) (Or.inl ⟨rfl, fun w _ => by go_simp⟩) HS ?_; simp only [Act.put, qz1, qz2, qz3, qz4, qz5, qz6]
      refine wpAnyH_take (i := 1) (v := .int .i64 ck) rfl (by kernel_rfl) (by kernel_rfl) (by kernel_rfl) (fun _ _ _ h => h) (Or.inl ⟨rfl, fun w _ => by go_simp⟩) HS ?_; simp only [Act.put, qz1, qz2, qz3, qz4, qz5, qz6]
      refine wpAnyH_take (i := 2) (v := .pointer (some ⟨gb, 0, none⟩)) rfl (by kernel_rfl) (by kernel_rfl) (by kernel_rfl) (fun _ _ _ h => h) (Or.inl ⟨rfl, fun w _ => by go_simp⟩) HS ?_; simp only [Act.put, qz1, qz2, qz3, qz4, qz5, qz6]
      refine wpAnyH_take (i := 3) (v := .slice (some ⟨bx, ox, none⟩) xs.length cx) rfl (by kernel_rfl) (by kernel_rfl) (by kernel_rfl) (fun _ _ _ h => h) (Or.inl ⟨rfl, fun w _ => by go_simp⟩) HS ?_; simp only [Act.put, qz1, qz2, qz3, qz4, qz5, qz6]
      refine wpAnyH_take (i := 4) (v := .int .i64 k) rfl (by kernel_rfl) (by kernel_rfl) (by kernel_rfl) (fun _ _ _ h => h) (Or.inl ⟨rfl, fun w _ => by go_simp⟩) HS ?_; simp only [Act.put, qz1, qz2, qz3, qz4, qz5, qz6]
      refine wpAnyH_take (i := 5) (v := .pointer (some ⟨bx, ox + k, none⟩)) rfl (by kernel_rfl) (by kernel_rfl) (by kernel_rfl) (fun _ _ _ h => h) (Or.inl ⟨rfl, fun w _ => by go_simp⟩) HS ?_; simp only [Act.put, qz1, qz2, qz3, qz4, qz5, qz6]
      refine wpAnyH_take (i := 6) (v := .int .i64 x) rfl (by kernel_rfl) (by kernel_rfl) (by kernel_rfl) (fun _ _ _ h => h) (Or.inl ⟨rfl, fun w hw => by have hx := hw.1; go_simp⟩) HS ?_
      simp only [Act.put, qz1, qz2, qz3, qz4, qz5, qz6]
      refine wpAnyH_take (i := 7) (v := .slice (some ⟨by', oy, none⟩) ys.length cy) rfl (by kernel_rfl) (by kernel_rfl) (by kernel_rfl) (fun _ _ _ h => h) (Or.inl ⟨rfl, fun w _ => by go_simp⟩) HS ?_; simp only [Act.put, qz1, qz2, qz3, qz4, qz5, qz6]
      refine wpAnyH_take (i := 8) (v := .int .i64 k) rfl (by kernel_rfl) (by kernel_rfl) (by kernel_rfl) (fun _ _ _ h => h) (Or.inl ⟨rfl, fun w _ => by go_simp⟩) HS ?_; simp only [Act.put, qz1, qz2, qz3, qz4, qz5, qz6]
      refine wpAnyH_take (i := 9) (v := .pointer (some ⟨by', oy + k, none⟩)) rfl (by kernel_rfl) (by kernel_rfl) (by kernel_rfl) (fun _ _ _ h => h) (Or.inl ⟨rfl, fun w _ => by go_simp⟩) HS ?_; simp only [Act.put, qz1, qz2, qz3, qz4, qz5, qz6]
      refine wpAnyH_take (i := 10) (v := .int .i64 y) rfl (by kernel_rfl) (by kernel_rfl) (by kernel_rfl) (fun _ _ _ h => h) (Or.inl ⟨rfl, fun w hw => by have hx := hw.2; go_simp⟩) HS ?_
      simp only [Act.put, qz1, qz2, qz3, qz4, qz5, qz6]
      refine wpAnyH_all (rs := [11]) (by kernel_rfl) (by simp) (fun i hi => ?_)
      obtain rfl : i = 11 := by simpa using hi
      refine wpOp_one rfl ?_
      have hba1 : base ≤ u0.heap.size := Nat.le_trans HBA.out hK.size
      (repeat (first | (with_reducible first | refine xA ?_ | refine xB ?_ | refine xC ?_ | refine xD ?_ | refine xH ?_ | refine xI rfl ?_ | refine xE ?_ | refine xF ?_ | refine xG ?_) | go_skip | go_guarded | (go_at_call 114; (with_reducible refine (odd_any _ hG N0 hba1 _ _ L0 L1 Q0 d E0).mono ?_); rintro _ w2 ⟨rfl, hG2, hk2⟩) | go_values | go_skip | go_guarded | go_step | go_upon | go_back | ((with_reducible show Oper.upon _ _ _ _ _ _); go_simp) | (dsimp only)))
      have hS2 : w2.cell? ⟨bx, ox + k, none⟩ = some (.int .i64 x) ∧ w2.cell? ⟨by', oy + k, none⟩ = some (.int .i64 y) := ⟨hk2.cell HS.1 xbx, hk2.cell HS.2 xby⟩
      have hK2 := hK.trans hk2
      clear HS
      have HS := hS2
      clear hS2 hG hK hk2 hba1
      refine ⟨HS, ?_⟩
      refine wpAnyH_take (i := 12) (v := .int .i64 (-d.2)) rfl (by kernel_rfl) (by kernel_rfl) (by kernel_rfl) (fun _ _ _ h => h) (Or.inl ⟨rfl, fun w _ => by have e : IntKind.i64.wrap (-d.2) = -d.2 := IntWalk.i64_in _ ⟨by omega, by omega⟩; go_simp⟩) HS ?_
      simp only [Act.put, qz1, qz2, qz3, qz4, qz5, qz6]
      refine wpAnyH_all (rs := [13]) (by kernel_rfl) (by simp) (fun i hi => ?_)
      obtain rfl : i = 13 := by simpa using hi
      refine wpOp_one rfl ?_
      have hba2 : base ≤ w2.heap.size := Nat.le_trans HBA.out hK2.size
      (repeat (first | (with_reducible first | refine xA ?_ | refine xB ?_ | refine xC ?_ | refine xD ?_ | refine xH ?_ | refine xI rfl ?_ | refine xE ?_ | refine xF ?_ | refine xG ?_) | go_skip | go_guarded | (go_at_call 112; (with_reducible refine (both_any _ hG2 N1 hba2 _ _ L3 L2 b E1).mono ?_); rintro _ w3 ⟨rfl, hG3, hk3⟩) | go_values | go_skip | go_guarded | go_step | go_upon | go_back | ((with_reducible show Oper.upon _ _ _ _ _ _); go_simp) | (dsimp only)))
      have hS3 : w3.cell? ⟨bx, ox + k, none⟩ = some (.int .i64 x) ∧ w3.cell? ⟨by', oy + k, none⟩ = some (.int .i64 y) := ⟨hk3.cell HS.1 xbx, hk3.cell HS.2 xby⟩
      have hK3 := hK2.trans hk3
      clear HS
      have HS := hS3
      clear hS3 hG2 hK2 hk3 hba2
      refine ⟨HS, ?_⟩
      refine wpAnyH_all (rs := [14]) (by kernel_rfl) (by simp) (fun i hi => ?_)
      obtain rfl : i = 14 := by simpa using hi
      refine wpOp_one rfl ?_
      (repeat (first | (with_reducible first | refine xA ?_ | refine xB ?_ | refine xC ?_ | refine xD ?_ | refine xH ?_ | refine xI rfl ?_ | refine xE ?_ | refine xF ?_ | refine xG ?_) | go_values | go_skip | go_guarded | go_step | go_upon | go_back | ((with_reducible show Oper.upon _ _ _ _ _ _); go_simp) | (dsimp only)))
      refine ⟨HS, ?_⟩
      refine wpAnyH_done (by kernel_rfl) ?_ _
      clear HS
      (repeat (first | (with_reducible first | refine xA ?_ | refine xB ?_ | refine xC ?_ | refine xD ?_ | refine xH ?_ | refine xI rfl ?_ | refine xE ?_ | refine xF ?_ | refine xG ?_) | go_values | go_skip | go_guarded | go_step | go_upon | go_back | ((with_reducible show Oper.upon _ _ _ _ _ _); go_simp) | (dsimp only)))
      exact ⟨⟨k + 1, b.1, b.2, s5, by omega, by go_num, rfl, HZ5, hG3, hK3⟩, by simp [intOf]; omega⟩
    · obtain rfl : k = xs.length := by omega
      have e1 := hZ.out.eq
      rw [List.take_of_length_le (Nat.le_refl _), List.take_of_length_le (Nat.le_of_eq Hxy.out)] at e1
      have hR : Hid (r = (gk, ck)) := Lib.hid (by rw [← Hr.out]; exact e1)
      clear e1
      (repeat (first | (with_reducible first | refine xA ?_ | refine xB ?_ | refine xC ?_ | refine xD ?_ | refine xH ?_ | refine xI rfl ?_ | refine xE ?_ | refine xF ?_ | refine xG ?_) | go_values | go_skip | go_guarded | go_step | go_upon | go_back | ((with_reducible show Oper.upon _ _ _ _ _ _); go_simp) | (dsimp only)))
      go_ret
      rw [hR.out]
      exact ⟨rfl, hG, hK⟩
end Go.Proofs.YtmaogkgjiplckaaGreat
namespace Go.Proofs.YtmaogkgjiplckaaGreat
open Go.RowKit
def badL (n x : Int) : Bool := x == 0 || decide (n < x) || decide (x < -n)
theorem bad_no {n : Nat} {x : Int} : badL n x = false ↔ isL n x := by
  unfold badL isL
  simp only [Bool.or_eq_false_iff, beq_eq_false_iff_ne, ne_eq, decide_eq_false_iff_not]
  omega
theorem isc_any (gb bx : Nat) (N x : Int) (w : World) (hb : w.cell? ⟨bx, 0, none⟩ = some (.pointer (some ⟨gb, 0, none⟩))) (hg : w.cell? ⟨gb, 0, none⟩ = some (.int .i64 N)) (hN : 0 ≤ N ∧ N ≤ 1048576) (r : Bool) (hr : Hid (badL N x = r)) :
    Calls Tryz.prog 121 #[.int .i64 x, .pointer (some ⟨bx, 0, none⟩)] w fun e w' => e = .returned (.bool r) ∧ w = w' := by
  by_cases h0 : x = 0
  · subst h0
    go_enter Tryz.func121, Tryz.ntmps121
    (repeat (first | (with_reducible first | refine xA ?_ | refine xB ?_ | refine xC ?_ | refine xD ?_ | refine xH ?_ | refine xI rfl ?_ | refine xE ?_ | refine xF ?_ | refine xG ?_) | go_values | go_skip | go_guarded | go_step | go_upon | go_back | ((with_reducible show Oper.upon _ _ _ _ _ _); go_simp) | (dsimp only)))
    go_ret
    exact ⟨ret_bool (by rw [← hr.out]; simp [badL]), rfl⟩
  have f0 : (x == 0) = false := by simpa using h0
  by_cases h1 : N < x
  · have d1 : decide (N < x) = true := by simpa using h1
    clear h0
    go_enter Tryz.func121, Tryz.ntmps121
    (repeat (first | (with_reducible first | refine xA ?_ | refine xB ?_ | refine xC ?_ | refine xD ?_ | refine xH ?_ | refine xI rfl ?_ | refine xE ?_ | refine xF ?_ | refine xG ?_) | go_values | go_skip | go_guarded | go_step | go_upon | go_back | ((with_reducible show Oper.upon _ _ _ _ _ _); go_simp) | (dsimp only)))
    go_ret
    exact ⟨ret_bool (by rw [← hr.out]; simp [badL, h1]), rfl⟩
  have d1 : decide (N < x) = false := by simpa using h1
  by_cases h2 : x < -N
  · clear h0
    go_enter Tryz.func121, Tryz.ntmps121
    (repeat (first | (with_reducible first | refine xA ?_ | refine xB ?_ | refine xC ?_ | refine xD ?_ | refine xH ?_ | refine xI rfl ?_ | refine xE ?_ | refine xF ?_ | refine xG ?_) | go_values | go_skip | go_guarded | go_step | go_upon | go_back | ((with_reducible show Oper.upon _ _ _ _ _ _); go_simp) | (dsimp only)))
    go_ret
    exact ⟨ret_bool (by rw [← hr.out]; simp [badL, h2]), rfl⟩
  · clear h0
    go_enter Tryz.func121, Tryz.ntmps121
    (repeat (first | (with_reducible first | refine xA ?_ | refine xB ?_ | refine xC ?_ | refine xD ?_ | refine xH ?_ | refine xI rfl ?_ | refine xE ?_ | refine xF ?_ | refine xG ?_) | go_values | go_skip | go_guarded | go_step | go_upon | go_back | ((with_reducible show Oper.upon _ _ _ _ _ _); go_simp) | (dsimp only)))
    go_ret
    exact ⟨ret_bool (by rw [← hr.out]; simp [badL, f0, d1, h2]), rfl⟩
set_option maxRecDepth 100000 in
theorem index_any {X : Nat → Prop} (gb bx : Nat) (N : Int) (v : Value) (l : List Int) (w : World) (hl : SlX X w v l) (hll : l.length ≤ 1000000) (hb : w.cell? ⟨bx, 0, none⟩ = some (.pointer (some ⟨gb, 0, none⟩))) (hg : w.cell? ⟨gb, 0, none⟩ = some (.int .i64 N)) (hN : 0 ≤ N ∧ N ≤ 1048576) :
    Calls Tryz.prog 135 #[v, .func (Fn.func 121) #[] #[.pointer (some ⟨bx, 0, none⟩)]] w fun e w' => (∃ r : Int, e = .returned (.int .i64 r) ∧ decide (0 ≤ r) = l.any (badL N) ∧ -1 ≤ r ∧ r ≤ 1000000) ∧ w = w' := by
  obtain ⟨ao, c, rfl⟩ := hl.shape
  have HL := Lib.hid hl
  have hlb : (l.length : Int) ≤ 1000000 := by omega
  clear hl hll
  go_enter Tryz.func135, Tryz.ntmps135
  (repeat (first | (with_reducible first | refine xA ?_ | refine xB ?_ | refine xC ?_ | refine xD ?_ | refine xH ?_ | refine xI rfl ?_ | refine xE ?_ | refine xF ?_ | refine xG ?_) | go_values | go_skip | go_guarded | go_step | go_upon | go_back | ((with_reducible show Oper.upon _ _ _ _ _ _); go_simp) | (dsimp only)))
  go_loop [8] (fun i => ∃ k : Nat, k ≤ l.length ∧ i = .int .i64 k ∧ Hid (∀ j x, j < k → l[j]? = some x → badL N x = false)) (fun i => l.length - (intOf i).toNat)
  case atStart => exact ⟨0, Nat.zero_le _, rfl, Lib.hid (fun j x h => by omega)⟩
  case round =>
    obtain ⟨k, hk, rfl, hgood⟩ := hrel
    rcases Nat.lt_or_ge k l.length with hlt | hge
    · obtain ⟨b, o, rfl, xb, lb, cb, HR⟩ := HL.out.row (by omega)
      obtain ⟨x, hx⟩ : ∃ x, l[k]? = some x := ⟨_, List.getElem?_eq_getElem hlt⟩
      have hcx := HR k x hx
      have Hx := Lib.hid hx
      obtain ⟨r, hr⟩ : ∃ r, Hid (badL N x = r) := ⟨_, Lib.hid rfl⟩
      clear HR hx
      cases r
      · (repeat (first | (with_reducible first | refine xA ?_ | refine xB ?_ | refine xC ?_ | refine xD ?_ | refine xH ?_ | refine xI rfl ?_ | refine xE ?_ | refine xF ?_ | refine xG ?_) | go_skip | go_guarded | (go_at_call 121; (with_reducible refine (isc_any gb bx N x _ hb hg hN _ hr).mono ?_); rintro _ _ ⟨rfl, rfl⟩) | go_values | go_skip | go_guarded | go_step | go_upon | go_back | ((with_reducible show Oper.upon _ _ _ _ _ _); go_simp) | (dsimp only)))
        refine ⟨⟨k + 1, by omega, by go_num, Lib.hid (fun j y hj hy => ?_)⟩, by simp [intOf]; omega⟩
        rcases Nat.lt_or_ge j k with h | h
        · exact hgood.out j y h hy
        · have : j = k := by omega
          subst this
          rw [Hx.out] at hy
          cases hy
          exact hr.out
      · (repeat (first | (with_reducible first | refine xA ?_ | refine xB ?_ | refine xC ?_ | refine xD ?_ | refine xH ?_ | refine xI rfl ?_ | refine xE ?_ | refine xF ?_ | refine xG ?_) | go_skip | go_guarded | (go_at_call 121; (with_reducible refine (isc_any gb bx N x _ hb hg hN _ hr).mono ?_); rintro _ _ ⟨rfl, rfl⟩) | go_values | go_skip | go_guarded | go_step | go_upon | go_back | ((with_reducible show Oper.upon _ _ _ _ _ _); go_simp) | (dsimp only)))
        go_ret
        refine ⟨⟨_, rfl, ?_, by omega, by omega⟩, rfl⟩
        rw [decide_eq_true (by omega)]
        symm
        rw [List.any_eq_true]
        exact ⟨x, List.mem_of_getElem? Hx.out, hr.out⟩
    · obtain rfl : k = l.length := by omega
      (repeat (first | (with_reducible first | refine xA ?_ | refine xB ?_ | refine xC ?_ | refine xD ?_ | refine xH ?_ | refine xI rfl ?_ | refine xE ?_ | refine xF ?_ | refine xG ?_) | go_values | go_skip | go_guarded | go_step | go_upon | go_back | ((with_reducible show Oper.upon _ _ _ _ _ _); go_simp) | (dsimp only)))
      go_ret
      refine ⟨⟨_, rfl, ?_, by decide, by decide⟩, rfl⟩
      rw [decide_eq_false (by decide)]
      symm
      rw [List.any_eq_false]
      intro x hx
      obtain ⟨j, hj⟩ := List.mem_iff_getElem?.1 hx
      rw [hgood.out j x (List.getElem?_eq_some_iff.1 hj).1 hj]
      simp
set_option maxRecDepth 100000 in
theorem contains_any {X : Nat → Prop} (gb bx : Nat) (N : Int) (v : Value) (l : List Int) (w : World) (hl : SlX X w v l) (hll : l.length ≤ 1000000) (hb : w.cell? ⟨bx, 0, none⟩ = some (.pointer (some ⟨gb, 0, none⟩))) (hg : w.cell? ⟨gb, 0, none⟩ = some (.int .i64 N)) (hN : 0 ≤ N ∧ N ≤ 1048576) (r : Bool) (hr : Hid (l.any (badL N) = r)) :
    Calls Tryz.prog 120 #[v, .func (Fn.func 121) #[] #[.pointer (some ⟨bx, 0, none⟩)]] w fun e w' => e = .returned (.bool r) ∧ w = w' := by
  have HL := Lib.hid hl
  have Hll := Lib.hid hll
  clear hl hll
  go_enter Tryz.func120, Tryz.ntmps120
  (repeat (first | (with_reducible first | refine xA ?_ | refine xB ?_ | refine xC ?_ | refine xD ?_ | refine xH ?_ | refine xI rfl ?_ | refine xE ?_ | refine xF ?_ | refine xG ?_) | go_skip | go_guarded | (go_at_call 135; (with_reducible refine (index_any gb bx N v l _ HL.out Hll.out hb hg hN).mono ?_); rintro _ _ ⟨⟨q, rfl, hq, b1, b2⟩, rfl⟩; rw [hr.out] at hq) | go_values | go_skip | go_guarded | go_step | go_upon | go_back | ((with_reducible show Oper.upon _ _ _ _ _ _); go_simp) | (dsimp only)))
  go_ret
  exact ⟨rfl, rfl⟩
def allL (n : Nat) (l : List Int) : Bool := !l.any (badL n)
theorem allL_iff {n : Nat} {l : List Int} : allL n l = true ↔ ∀ x ∈ l, isL n x := by
  unfold allL
  rw [Bool.not_eq_true', List.any_eq_false]
  constructor
  · intro h x hx
    exact bad_no.1 (by simpa using h x hx)
  · intro h x hx
    rw [bad_no.2 (h x hx)]; simp
theorem GR.alloc {X : Nat → Prop} {base gb : Nat} {w : World} {g : G} (h : GR X base w gb g) (o : Obj) : GR X base (w.alloc o) gb g := by
  obtain ⟨v, ma, mx, xs, h⟩ := h; exact ⟨v, ma, mx, xs, h.alloc o⟩
theorem GR.cell0 {X : Nat → Prop} {base gb : Nat} {w : World} {g : G} (h : GR X base w gb g) : w.cell? ⟨gb, 0, none⟩ = some (.int .i64 (g.n : Int)) := by
  obtain ⟨v, ma, mx, xs, h⟩ := h; exact (box4g h.box).1
set_option maxRecDepth 100000 in
theorem is_any {X Y : Nat → Prop} {base gb : Nat} {g : G} (v : Value) (l : List Int) (w : World) (hG : GR X base w gb g) (hl : SlX Y w v l) (hll : l.length ≤ 1000000) (r : Bool) (hr : Hid (allL g.n l = r)) :
    Calls Tryz.prog 81 #[.pointer (some ⟨gb, 0, none⟩), v] w fun e w' => e = .returned (.bool r) ∧ GR X base w' gb g ∧ Below w.heap.size w w' := by
  have hG1 := hG.alloc (.cells #[.pointer (some ⟨gb, 0, none⟩)] 68)
  have hl1 := hl.kept ((Kept.refl Y w).alloc (.cells #[.pointer (some ⟨gb, 0, none⟩)] 68))
  have hbx : (w.alloc (.cells #[.pointer (some ⟨gb, 0, none⟩)] 68)).cell? ⟨w.heap.size, 0, none⟩ = some (.pointer (some ⟨gb, 0, none⟩)) := by rw [World.cell?_alloc_new]; rfl
  have hc := hG1.cell0
  have hN : (0 : Int) ≤ g.n ∧ (g.n : Int) ≤ 1048576 := by have := hG.n1; omega
  obtain ⟨N, hNe⟩ : ∃ N : Int, (g.n : Int) = N := ⟨_, rfl⟩
  obtain ⟨q, hq⟩ : ∃ q, Hid (l.any (badL N) = q) := ⟨_, Lib.hid rfl⟩
  have hrq : Hid (r = !q) := Lib.hid (by rw [← hr.out, ← hq.out, ← hNe]; rfl)
  rw [hNe] at hc hN
  have HL := Lib.hid hl1
  have HG1 := Lib.hid hG1
  have Hll := Lib.hid hll
  have HNe := Lib.hid hNe
  clear hG hl hl1 hG1 hll hNe hr
  go_enter Tryz.func81, Tryz.ntmps81
  (repeat (first | (with_reducible first | refine xA ?_ | refine xB ?_ | refine xC ?_ | refine xD ?_ | refine xH ?_ | refine xI rfl ?_ | refine xE ?_ | refine xF ?_ | refine xG ?_) | go_skip | go_guarded | (go_at_call 120; (with_reducible refine (contains_any gb w.heap.size N v l _ HL.out Hll.out hbx hc hN q hq).mono ?_); rintro _ _ ⟨rfl, rfl⟩) | go_values | go_skip | go_guarded | go_step | go_upon | go_back | ((with_reducible show Oper.upon _ _ _ _ _ _); go_simp) | (dsimp only)))
  go_ret
  exact ⟨ret_bool hrq.out.symm, HG1.out, Below.alloc (Below.refl _ _) (Nat.le_refl _) _⟩
end Go.Proofs.YtmaogkgjiplckaaGreat

