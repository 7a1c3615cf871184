import Derived.Test.YtmaogkgjiplckaaGN
set_option linter.unusedSimpArgs false
set_option linter.unusedVariables false
namespace Go.Proofs.Ytmaogkgjiplckaa
open Go.RowKit

theorem Word1.from {X : Nat → Prop} {base gb n : Nat} {w w2 w' : World} {r : G × List Int} {e : Ending} (h : Word1 X base gb n w2 r e w') (hk : Kept X w w2) : Word1 X base gb n w r e w' := by
  obtain ⟨q, h1, h2, h3, h4, h5⟩ := h
  exact ⟨q, h1, h2, Nat.le_trans hk.size h3, h4, hk.trans h5⟩
theorem allL_mem {n : Nat} {l : List Int} (h : allL n l = true) : ∀ x ∈ l, isL n x := (allL_iff).1 h
theorem wordB_two {n : Nat} {xs ys : List Int} (h : [xs, ys].all (wordB n xs.length) = true) : xs.length ≤ 64 ∧ ys.length = xs.length ∧ (∀ x ∈ xs, isL n x) ∧ ∀ y ∈ ys, isL n y := by
  simp only [List.all_cons, List.all_nil, Bool.and_true, Bool.and_eq_true, wordB, decide_eq_true_eq] at h
  exact ⟨h.1.1.2.1, h.2.1.2.2, allL_mem h.1.2, allL_mem h.2.2⟩

/-- the deferring call, from where the boxes stand -/
theorem tryc2 {X : Nat → Prop} {base gb : Nat} {g : G} {fr : List Int} {s : Nat → Bool} (w : World) (hG : GR X base w gb g) (hba : base ≤ w.heap.size) (c : Int) (vx vy : Value) (xs ys : List Int) (hX : SlX X w vx xs) (hY : SlX X w vy ys) (hn : g.n + 192 ≤ 1048576) (hq1 : allL g.n [c] = true) (hq2 : [xs, ys].all (wordB g.n xs.length) = true) (hI : GI g fr s)
    (b0 b1 b2 b3 : Nat) (c0 : w.cell? ⟨b0, 0, none⟩ = some (.pointer (some ⟨gb, 0, none⟩))) (c1 : w.cell? ⟨b1, 0, none⟩ = some (.int .i64 c)) (c2 : w.cell? ⟨b2, 0, none⟩ = some vx) (c3 : w.cell? ⟨b3, 0, none⟩ = some vy) :
    Calls Try.prog 39 #[.func (Fn.func 40) #[] #[.pointer (some ⟨b0, 0, none⟩), .pointer (some ⟨b1, 0, none⟩), .pointer (some ⟨b2, 0, none⟩), .pointer (some ⟨b3, 0, none⟩)]] w (Word1 X base gb xs.length w (chooseG g c xs ys)) := by
  obtain ⟨h64, hxy, hx, hy⟩ := wordB_two hq2
  have hk := (Kept.refl X w).alloc (.cells #[.slice none 0 0] 26)
  refine tryc_any w b0 b1 b2 b3 _ hG.xb (chooseC_any (fr := fr) (s := s) _ (hG.owned (w' := w.alloc (.cells #[.slice none 0 0] 26)) ⟨rfl, rfl, rfl, by simp, fun k hk _ => Below.heap_alloc w _ k hk⟩ (Nat.le_refl _) (by simp)) (by simp; omega) c vx vy xs ys ((hX.kept hk).mono fun _ _ h => .inl h) ((hY.kept hk).mono fun _ _ h => .inl h) hxy (by omega) (by omega) (allL_mem hq1 c (by simp)) hx hy hI _ (Lib.hid rfl) b0 b1 b2 b3 (cell_al _ _ c0) (cell_al _ _ c1) (cell_al _ _ c2) (cell_al _ _ c3))

set_option maxRecDepth 100000 in
set_option maxHeartbeats 1000000 in
theorem Choose_any {X : Nat → Prop} {base gb : Nat} {g : G} {fr : List Int} {s : Nat → Bool} (w : World) (hG : GR X base w gb g) (hba : base ≤ w.heap.size) (c : Int) (vx vy : Value) (xs ys : List Int) (hX : SlX X w vx xs) (hY : SlX X w vy ys) (hxl : xs.length ≤ 1000000) (hyl : ys.length ≤ 1000000) (hn : g.n + 192 ≤ 1048576) (hI : GI g fr s) (r : Option (G × List Int)) (hr : Hid (ChooseR g c xs ys = r)) :
    Calls Try.prog 13 #[.pointer (some ⟨gb, 0, none⟩), .int .i64 c, vx, vy] w (WordR X base gb g xs.length w r) := by
  have hmf : ∀ (fn : Fn) (first cap : Array Value) (w : World), (Instr.makeFunc fn first cap).run Try.prog w = .ok (.func fn first cap) w := fun _ _ _ _ => rfl
  obtain ⟨ax, cx, rfl⟩ := hX.shape
  obtain ⟨ay, cy, rfl⟩ := hY.shape
  have hB := box4_new w gb c (.slice ax xs.length cx) (.slice ay ys.length cy) 24 3 26 26
  have hG4 := (((hG.alloc (.cells #[.pointer (some ⟨gb, 0, none⟩)] 24)).alloc (.cells #[.int .i64 c] 3)).alloc (.cells #[.slice ax xs.length cx] 26)).alloc (.cells #[.slice ay ys.length cy] 26)
  have HK4 := Lib.hid (show Kept X w ((((w.alloc (.cells #[.pointer (some ⟨gb, 0, none⟩)] 24)).alloc (.cells #[.int .i64 c] 3)).alloc (.cells #[.slice ax xs.length cx] 26)).alloc (.cells #[.slice ay ys.length cy] 26)) from ((((Kept.refl X w).alloc _).alloc _).alloc _).alloc _)
  have hs4 : (((((w.alloc (.cells #[.pointer (some ⟨gb, 0, none⟩)] 24)).alloc (.cells #[.int .i64 c] 3)).alloc (.cells #[.slice ax xs.length cx] 26)).alloc (.cells #[.slice ay ys.length cy] 26))).heap.size = w.heap.size + 1 + 1 + 1 + 1 := by simp
  obtain ⟨q1, hq1⟩ : ∃ q, Hid (allL g.n [c] = q) := ⟨_, Lib.hid rfl⟩
  obtain ⟨q2, hq2⟩ : ∃ q, Hid ([xs, ys].all (wordB g.n xs.length) = q) := ⟨_, Lib.hid rfl⟩
  have hi := is_any (Y := fun _ => True) (.slice (some ⟨w.heap.size + 1 + 1 + 1 + 1, 0, none⟩) 1 1) [c] ((((((w.alloc (.cells #[.pointer (some ⟨gb, 0, none⟩)] 24)).alloc (.cells #[.int .i64 c] 3)).alloc (.cells #[.slice ax xs.length cx] 26)).alloc (.cells #[.slice ay ys.length cy] 26))).alloc (.cells #[.int .i64 c] 3)) (hG4.alloc _) (by have := slx_lit ((((w.alloc (.cells #[.pointer (some ⟨gb, 0, none⟩)] 24)).alloc (.cells #[.int .i64 c] 3)).alloc (.cells #[.slice ax xs.length cx] 26)).alloc (.cells #[.slice ay ys.length cy] 26)) [c]; rw [hs4] at this; exact this) (by simp) q1 hq1
  have HI := Lib.hid hi
  have hB4 : Box4 ((((((w.alloc (.cells #[.pointer (some ⟨gb, 0, none⟩)] 24)).alloc (.cells #[.int .i64 c] 3)).alloc (.cells #[.slice ax xs.length cx] 26)).alloc (.cells #[.slice ay ys.length cy] 26))).alloc (.cells #[.int .i64 c] 3)) w.heap.size gb c (.slice ax xs.length cx) (.slice ay ys.length cy) := ⟨cell_al _ _ hB.c0, cell_al _ _ hB.c1, cell_al _ _ hB.c2, cell_al _ _ hB.c3⟩
  obtain ⟨c0, c1, c2, c3⟩ := hB
  have HX := Lib.hid hX
  have HY := Lib.hid hY
  have Hxl := Lib.hid hxl
  have Hyl := Lib.hid hyl
  have Hba := Lib.hid hba
  have Hn := Lib.hid hn
  have HII := Lib.hid hI
  have HK5 := Lib.hid (HK4.out.alloc (.cells #[.int .i64 c] 3))
  clear hX hY hxl hyl hba hn hI hi hG4 hG hs4
  cases q1
  · obtain rfl : r = none := by rw [← hr.out]; unfold ChooseR; rw [hq1.out]; rfl
    go_enter Try.func13, Try.ntmps13
    (repeat (first | (with_reducible first | refine xA ?_ | refine xB ?_ | refine xC ?_ | refine xD ?_ | refine xH ?_ | refine xI rfl ?_ | refine xE ?_ | refine xF ?_ | refine xG ?_) | go_skip | go_guarded | (go_at_call 37; (with_reducible refine (HI.out).mono ?_); rintro _ w1 ⟨rfl, hG1, hb1⟩) | go_values | go_skip | go_guarded | go_step | go_upon | go_back | ((with_reducible show Oper.upon _ _ _ _ _ _); go_simp) | (dsimp only)))
    go_ret
    exact ⟨rfl, hG1, HK5.out.trans (Kept.ofBelow hb1)⟩
  cases q2
  · obtain rfl : r = none := by rw [← hr.out]; unfold ChooseR; rw [hq1.out, hq2.out]; rfl
    go_enter Try.func13, Try.ntmps13
    (repeat (first | (with_reducible first | refine xA ?_ | refine xB ?_ | refine xC ?_ | refine xD ?_ | refine xH ?_ | refine xI rfl ?_ | refine xE ?_ | refine xF ?_ | refine xG ?_) | go_skip | go_guarded | (go_at_call 37; (with_reducible refine (HI.out).mono ?_); rintro _ w1 ⟨rfl, hG1, hb1⟩; have hB1 := hB4.kept hb1; obtain ⟨d0, d1, d2, d3⟩ := hB1; have hK1 := HK5.out.trans (Kept.ofBelow hb1); clear c0 c1 c2 c3 hb1; have hX1 := HX.out.kept hK1; have hY1 := HY.out.kept hK1) | (go_at_call 38; (with_reducible refine (words_two w1 hG1 _ _ xs ys hX1 hY1 Hxl.out Hyl.out _ hq2).mono ?_); rintro _ w2 ⟨rfl, hG2, hb2⟩) | go_values | go_skip | go_guarded | go_step | go_upon | go_back | ((with_reducible show Oper.upon _ _ _ _ _ _); go_simp) | (dsimp only)))
    go_ret
    exact ⟨rfl, hG2, hK1.trans (Kept.ofBelow hb2)⟩
  · obtain rfl : r = some (chooseG g c xs ys) := by rw [← hr.out]; unfold ChooseR; rw [hq1.out, hq2.out]; rfl
    have Hq1 := Lib.hid hq1.out
    have Hq2 := Lib.hid hq2.out
    go_enter Try.func13, Try.ntmps13
    (repeat (first | (with_reducible first | refine xA ?_ | refine xB ?_ | refine xC ?_ | refine xD ?_ | refine xH ?_ | refine xI rfl ?_ | refine xE ?_ | refine xF ?_ | refine xG ?_) | go_skip | go_guarded | (go_at_call 37; (with_reducible refine (HI.out).mono ?_); rintro _ w1 ⟨rfl, hG1, hb1⟩; have hB1 := hB4.kept hb1; obtain ⟨d0, d1, d2, d3⟩ := hB1; have hK1 := HK5.out.trans (Kept.ofBelow hb1); clear c0 c1 c2 c3 hb1; have hX1 := HX.out.kept hK1; have hY1 := HY.out.kept hK1) | (go_at_call 38; (with_reducible refine (words_two w1 hG1 _ _ xs ys hX1 hY1 Hxl.out Hyl.out _ hq2).mono ?_); rintro _ w2 ⟨rfl, hG2, hb2⟩) | (have e0 := cell_keep hb2 d0; have e1 := cell_keep hb2 d1; have e2 := cell_keep hb2 d2; have e3 := cell_keep hb2 d3; have hk2 := Kept.ofBelow (X := X) hb2; go_at_call 39; (with_reducible refine (tryc2 w2 hG2 (Nat.le_trans Hba.out (hK1.trans hk2).size) c _ _ xs ys (hX1.kept hk2) (hY1.kept hk2) Hn.out Hq1.out Hq2.out HII.out _ _ _ _ e0 e1 e2 e3).mono ?_); rintro _ w3 ⟨q, rfl, hr⟩) | go_values | go_skip | go_guarded | go_step | go_upon | go_back | ((with_reducible show Oper.upon _ _ _ _ _ _); go_simp) | (dsimp only)))
    go_ret
    exact (show Word1 X base gb xs.length w2 _ _ w3 from ⟨q, rfl, hr⟩).from (hK1.trans hk2)

end Go.Proofs.Ytmaogkgjiplckaa
