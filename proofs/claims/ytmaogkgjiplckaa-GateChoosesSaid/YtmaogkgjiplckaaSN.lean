import Derived.Test.YtmaogkgjiplckaaSM
set_option linter.unusedSimpArgs false
set_option linter.unusedVariables false
namespace Go.Proofs.Ytmaogkgjiplckaa
open Go.RowKit
theorem told_sl {w : World} {B n : Nat} {v : Value} {s : Nat → Bool} (h : w.ownsRow B 3 1 v n ((toldL n s).map (Value.int .i64))) : SlX (fun _ => True) w v (toldL n s) := by
  refine SlX.ofOwns (base := B) (T := 3) ?_ (fun _ _ _ => trivial)
  rw [toldL_len]; exact h
theorem Free_at {X : Nat → Prop} {base gb : Nat} {g : G} (w : World) (z : Int) (hG : GR X base w gb g) (hn : g.n < 1048576) (hz : (g.n : Int) + 1 = z) :
    Calls Try.prog 12 #[.pointer (some ⟨gb, 0, none⟩)] w fun e w' => e = .returned (.int .i64 z) ∧ GR X base w' gb ⟨g.n + 1, g.cl, g.an, g.xo⟩ ∧ Kept X w w' := by
  subst hz; exact Free_any w hG hn
def g3A : G := ⟨4, [[1], [-4, 2], [-4, 3], [4, -2, -3]], [((2, 3), 4)], []⟩
theorem and_at (x : Nat) : ∃ s, GI g3A (fromL 1 2 x) s ∧ lit s 4 = (x.testBit 0 && x.testBit 1) := by
  obtain ⟨s1, h1, h2, h3⟩ := free_many newG_ok x 2
  rw [List.nil_append] at h1
  obtain ⟨s2, h4, h5, h6, h7, h8⟩ := both_ok h1 (x := 2) (y := 3) (by unfold isL addV newG; decide) (by unfold isL addV newG; decide)
  have e : both (addV newG 2) 2 3 = (g3A, 4) := rfl
  rw [e] at h4 h8
  refine ⟨s2, h4, h8.trans ?_⟩
  have a := h3 0 (by decide)
  have b := h3 1 (by decide)
  show (s1 2 && s1 3) = _
  rw [← a, ← b]; rfl
theorem and_awake {X : Nat → Prop} {base gb : Nat} (w : World) (hG : GR X base w gb ⟨newG.n + 1 + 1, newG.cl, newG.an, newG.xo⟩) (hba : base ≤ w.heap.size) :
    Calls Try.prog 33 #[.pointer (some ⟨gb, 0, none⟩), .int .i64 2, .int .i64 3] w fun e w' => e = .returned (.int .i64 4) ∧ GR X base w' gb g3A ∧ Kept X w w' := by
  obtain ⟨s1, h1, _, _⟩ := free_many newG_ok 0 2
  exact And_any (g := ⟨newG.n + 1 + 1, newG.cl, newG.an, newG.xo⟩) (fr := [] ++ fromL newG.n 2 0) (s := s1) w hG hba 2 3 (by decide) h1 (some (g3A, 4)) (Lib.hid rfl)
theorem clauses_awake {X : Nat → Prop} {base gb : Nat} (w : World) (hG : GR X base w gb g3A) :
    Calls Try.prog 28 #[.pointer (some ⟨gb, 0, none⟩)] w fun e w' => e = .returned (.slice (some ⟨w.heap.size, 0, none⟩) 4 4) ∧ (∃ vs, OwnW w' w.heap.size 4 vs ∧ SlsX (fun k => w.heap.size < k) w' vs g3A.cl) ∧ GR X base w' gb g3A ∧ Below w.heap.size w w' :=
  Clauses_any w hG (by decide) (by decide)
theorem spread_awake {X Z : Nat → Prop} {base gb : Nat} {a b : Int} {s : Nat → Bool} (q : Nat) (w : World) (hG : GR X base w gb g3A) {vs : List Value} (hO : OwnW w q 4 vs) (hS : SlsX Z w vs g3A.cl) (hI : GI g3A [a, b] s) :
    Calls Try.prog 34 #[.slice (some ⟨q, 0, none⟩) 4 4, .slice (some ⟨w.heap.size, 0, none⟩) 2 2] (w.alloc (.cells #[.int .i64 a, .int .i64 b] 3)) fun e w' => ∃ v, e = .returned (.tuple #[v, .bool true]) ∧ (∃ a c, v = .slice a 4 c) ∧ w'.ownsRow (w.alloc (.cells #[.int .i64 a, .int .i64 b] 3)).heap.size 3 1 v 4 ((toldL 4 s).map (Value.int .i64)) ∧ GR X base w' gb g3A ∧ Below (w.alloc (.cells #[.int .i64 a, .int .i64 b] 3)).heap.size (w.alloc (.cells #[.int .i64 a, .int .i64 b] 3)) w' := by
  have al : Kept (fun _ => True) w (w.alloc (.cells #[.int .i64 a, .int .i64 b] 3)) := (Kept.refl _ w).alloc _
  exact spread_q (Y := fun _ => True) q _ (hG.alloc _) hI (hO.kept al trivial) (hS.kept (al.mono fun _ _ _ => trivial)) (slx_lit w [a, b]) (by simp)

set_option maxRecDepth 100000 in
set_option maxHeartbeats 2000000 in
theorem awake_any (w : World) : Calls Try.prog 9 #[] w fun e w' => e = .returned (.bool true) ∧ Below w.heap.size w w' := by
  obtain ⟨s1, ha1, hl1⟩ := and_at 3
  obtain ⟨s2, ha2, hl2⟩ := and_at 1
  have HA1 := Lib.hid (show GI g3A [2, 3] s1 from ha1)
  have HA2 := Lib.hid (show GI g3A [2, -3] s2 from ha2)
  have HL1 := Lib.hid (show lit s1 4 = true from hl1)
  have HL2 := Lib.hid (show lit s2 4 = false from hl2)
  clear ha1 ha2 hl1 hl2
  go_enter Try.func9, Try.ntmps9
  (repeat (first | (with_reducible first | refine xA ?_ | refine xB ?_ | refine xC ?_ | refine xD ?_ | refine xH ?_ | refine xI rfl ?_ | refine xE ?_ | refine xF ?_ | refine xG ?_) | go_skip | go_guarded | (go_at_call 10; (with_reducible refine (New_any (X := fun k => k < w.heap.size) _ (fun _ h => h)).mono ?_); rintro _ w1 ⟨gb, rfl, hG, hb1⟩; have HB : Kept (fun k => k < w.heap.size) w w1 := Kept.ofBelow hb1) | (go_at_call 18; (with_reducible refine (Vars_any _ hG).mono ?_); rintro _ w2 ⟨rfl, rfl⟩; (rw [show ((newG.n : Nat) : Int) = 1 from rfl])) | (go_at_call 12; (with_reducible refine (Free_at _ 2 hG (by decide) rfl).mono ?_); rintro _ w3 ⟨rfl, hG3, hk3⟩; replace HB := HB.trans hk3) | (go_at_call 12; (with_reducible refine (Free_at _ 3 hG3 (by decide) rfl).mono ?_); rintro _ w4 ⟨rfl, hG4, hk4⟩; replace HB := HB.trans hk4) | (go_at_call 33; (with_reducible refine (and_awake _ hG4 HB.size).mono ?_); rintro _ w5 ⟨rfl, hG5, hk5⟩; replace HB := HB.trans hk5; clear hG hG3 hG4 hk3 hk4 hk5 hb1; have HCL := Lib.hid (clauses_awake w5 hG5)) | (go_at_call 28; (with_reducible refine (HCL.out).mono ?_); rintro _ w6 ⟨rfl, ⟨vs, hO6, hS6⟩, hG6, hb6⟩; replace HB := HB.trans (Kept.ofBelow hb6); have HSP := Lib.hid (spread_awake w5.heap.size w6 hG6 hO6 hS6 HA1.out); clear hO6 hS6 hG6 hb6) | (go_at_call 28; (with_reducible refine (HCL.out).mono ?_); rintro _ w8 ⟨rfl, ⟨us, hO8, hS8⟩, hG8, hb8⟩; replace HB := HB.trans (Kept.ofBelow hb8); replace HT1 := Lib.hid (HT1.out.kept (Kept.ofBelow hb8)); have HSP := Lib.hid (spread_awake w7.heap.size w8 hG8 hO8 hS8 HA2.out); clear hO8 hS8 hG8 hb8) | (go_at_call 34; (with_reducible refine (HSP.out).mono ?_); rintro _ w7 ⟨v, rfl, hv, hO7, hG7, hb7⟩; replace HB := (HB.alloc (.cells #[.int .i64 2, .int .i64 3] 3)).trans (Kept.ofBelow hb7); obtain ⟨av, cv, rfl⟩ := hv; clear HSP HCL; have HT1 := Lib.hid (told_sl hO7); have HCL := Lib.hid (clauses_awake w7 hG7); have e7 := hb7.size; clear hO7 hG7 hb7) | (go_at_call 34; (with_reducible refine (HSP.out).mono ?_); rintro _ w9 ⟨v2, rfl, hv2, hO9, hG9, hb9⟩; replace HB := (HB.alloc (.cells #[.int .i64 2, .int .i64 (-3)] 3)).trans (Kept.ofBelow hb9); replace HT1 := Lib.hid ((HT1.out.kept ((Kept.refl _ w8).alloc (.cells #[.int .i64 2, .int .i64 (-3)] 3))).kept (Kept.ofBelow hb9)); obtain ⟨av2, cv2, rfl⟩ := hv2; clear HSP HCL; have HT2 := Lib.hid (told_sl hO9); clear hO9 hG9 hb9) | (go_at_call 23; (with_reducible refine (Is_any _ _ 4 s1 HT1.out 4 (by unfold isL; decide) (by decide) true (Lib.hid HL1.out)).mono ?_); rintro _ wa ⟨rfl, rfl⟩) | (go_at_call 23; (with_reducible refine (Is_any _ _ 4 s2 HT2.out 4 (by unfold isL; decide) (by decide) false (Lib.hid HL2.out)).mono ?_); rintro _ wa ⟨rfl, rfl⟩) | go_values | go_skip | go_guarded | go_step | go_upon | go_back | (show Oper.upon _ _ _ _ _ _; go_simp) | (dsimp only)))
  go_ret
  exact ⟨rfl, HB.toBelow (Nat.le_refl _) fun _ h => h⟩

end Go.Proofs.Ytmaogkgjiplckaa
