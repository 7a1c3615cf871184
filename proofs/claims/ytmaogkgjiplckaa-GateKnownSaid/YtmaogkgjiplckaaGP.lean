import Derived.Test.YtmaogkgjiplckaaGO
set_option linter.unusedSimpArgs false
set_option linter.unusedVariables false
namespace Go.Proofs.Ytmaogkgjiplckaa
open Go.RowKit

theorem ld_i (w : World) (b : Nat) (x : Int) (h : w.cell? ⟨b, 0, none⟩ = some (.int .i64 x)) : (loadVar 3 ⟨b, 0, none⟩).run Try.prog w = .ok (.int .i64 x) w := by go_simp

theorem door_i {R : Ending → World → Prop} {tmps : Array Value} {w1 : World} {q : Nat} {x : Int} (h2 : tmps.getD 2 undef = .pointer (some ⟨q, 0, none⟩))
    (HO : w1.cell? ⟨q, 0, none⟩ = some (.int .i64 x)) (h : R (.returned (.int .i64 x)) w1) :
    bodyPostD Try.prog Try.f35 R Exit.ret { tmps := tmps, defers := [{ target := Target.fn (Fn.func 71) #[.pointer (some ⟨q, 0, none⟩)], args := #[] }] } w1 := by
  refine leaves_cons (f := 71) (args := #[.pointer (some ⟨q, 0, none⟩)]) (by simp) (by simp [go_sem]) ?_
  refine (idle_i ⟨q, 0, none⟩ _).mono ?_
  rintro e u' w'' ⟨rfl, rfl, rfl⟩
  have h2' : tmps[2]?.getD undef = .pointer (some ⟨q, 0, none⟩) := by simpa using h2
  exact ⟨_, by simp [results, Try.results35, h2', asAddr, ld_i _ q x HO], h⟩

set_option maxRecDepth 100000 in
theorem tryf_any {X : Nat → Prop} {base gb : Nat} {g : G} (w : World) (hG : GR X base w gb g) (hn : g.n < 1048576) :
    Calls Try.prog 35 #[.func (Fn.func 36) #[.pointer (some ⟨gb, 0, none⟩)] #[]] w fun e w' => e = .returned (.int .i64 ((g.n : Int) + 1)) ∧ GR X base w' gb ⟨g.n + 1, g.cl, g.an, g.xo⟩ ∧ Kept X w w' := by
  have hmf : ∀ (fn : Fn) (first cap : Array Value) (w : World), (Instr.makeFunc fn first cap).run Try.prog w = .ok (.func fn first cap) w := fun _ _ _ _ => rfl
  have HX := Lib.hid hG.xb
  obtain ⟨v, ma, mx, xs, hR⟩ := hG.owned (w' := w.alloc (.cells #[.int .i64 0] 3)) ⟨rfl, rfl, rfl, by simp, fun k hk _ => Below.heap_alloc w _ k hk⟩ (Nat.le_refl _) (by simp)
  have HC := Lib.hid (fresh_any _ hR hn)
  clear hG hR hn
  go_enter_defers Try.func35, Try.ntmps35
  (repeat (first | (with_reducible first | refine xA ?_ | refine xB ?_ | refine xC ?_ | refine xD ?_ | refine xH ?_ | refine xI rfl ?_ | refine xE ?_ | refine xF ?_ | refine xG ?_) | go_skip | go_guarded | (go_at_call 36; (with_reducible refine (HC.out).mono ?_); rintro _ w1 ⟨rfl, hG, hK⟩; have hh := hK.at (heap_alloc_new w _) (.inr rfl); have hc0 := cell_of_row w1 w.heap.size 0 _ _ _ hh; have hz0 := frozen_of_row w1 w.heap.size 0 _ _ hh; simp at hc0) | go_values | go_skip | go_guarded | go_step | go_upon | go_back | ((with_reducible show Oper.upon _ _ _ _ _ _); go_simp) | (dsimp only)))
  have hg : w1.grownBy (w1.setCell ⟨w.heap.size, 0, none⟩ (.int .i64 ((g.n : Int) + 1))) (some w.heap.size) := ⟨rfl, rfl, rfl, by simp, fun k hk hn => heap_setCell_other _ _ k _ (fun e => hn (by rw [e]))⟩
  refine door_i (q := w.heap.size) (x := (g.n : Int) + 1) rfl (by simp [World.cell?, heap_setCell_same _ _ _ _ _ _ hh]) ⟨rfl, GR.less ⟨_, _, _, _, hG.other hg (.inr rfl)⟩ fun k h => .inl h, ?_⟩
  refine (((Kept.refl X w).alloc (.cells #[.int .i64 0] 3)).trans (hK.mono fun k _ h => .inl h)).grown hg ?_
  intro g e h1 h2
  injection e with e
  omega

set_option maxRecDepth 100000 in
theorem Free_any {X : Nat → Prop} {base gb : Nat} {g : G} (w : World) (hG : GR X base w gb g) (hn : g.n < 1048576) :
    Calls Try.prog 12 #[.pointer (some ⟨gb, 0, none⟩)] w fun e w' => e = .returned (.int .i64 ((g.n : Int) + 1)) ∧ GR X base w' gb ⟨g.n + 1, g.cl, g.an, g.xo⟩ ∧ Kept X w w' := by
  have hmf : ∀ (fn : Fn) (first cap : Array Value) (w : World), (Instr.makeFunc fn first cap).run Try.prog w = .ok (.func fn first cap) w := fun _ _ _ _ => rfl
  have H := Lib.hid (tryf_any w hG hn)
  clear hG hn
  go_enter Try.func12, Try.ntmps12
  (repeat (first | (with_reducible first | refine xA ?_ | refine xB ?_ | refine xC ?_ | refine xD ?_ | refine xH ?_ | refine xI rfl ?_ | refine xE ?_ | refine xF ?_ | refine xG ?_) | go_skip | go_guarded | (go_at_call 35; (with_reducible refine (H.out).mono ?_); rintro _ w1 ⟨rfl, hG, hK⟩) | go_values | go_skip | go_guarded | go_step | go_upon | go_back | ((with_reducible show Oper.upon _ _ _ _ _ _); go_simp) | (dsimp only)))
  go_ret
  exact ⟨rfl, hG, hK⟩

theorem Vars_any {X : Nat → Prop} {base gb : Nat} {g : G} (w : World) (hG : GR X base w gb g) :
    Calls Try.prog 18 #[.pointer (some ⟨gb, 0, none⟩)] w fun e w' => e = .returned (.int .i64 g.n) ∧ w' = w := by
  have hc := hG.cell0
  clear hG
  go_enter Try.func18, Try.ntmps18
  (repeat (first | (with_reducible first | refine xA ?_ | refine xB ?_ | refine xC ?_ | refine xD ?_ | refine xH ?_ | refine xI rfl ?_ | refine xE ?_ | refine xF ?_ | refine xG ?_) | go_values | go_skip | go_guarded | go_step | go_upon | go_back | ((with_reducible show Oper.upon _ _ _ _ _ _); go_simp) | (dsimp only)))
  go_ret
  exact ⟨rfl, rfl⟩

end Go.Proofs.Ytmaogkgjiplckaa
