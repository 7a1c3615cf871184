import Derived.Test.YtmaogkgjiplckaaSI
set_option linter.unusedSimpArgs false
set_option linter.unusedVariables false
namespace Go.Proofs.Ytmaogkgjiplckaa
open Go.RowKit
theorem isL_ok {n : Nat} {x : Int} (h : isL n x) (hn : n ≤ 1048576) : okL x := ⟨h.1, by have := h.2.2; omega, by have := h.2.1; omega⟩
theorem GI.ne {g : G} {fr : List Int} {s : Nat → Bool} (h : GI g fr s) : ∀ c ∈ g.cl, c ≠ [] := by
  rintro c hc rfl
  obtain ⟨x, hx, _⟩ := h.sat [] hc
  cases hx
theorem GI.der1 {g : G} {fr : List Int} {s : Nat → Bool} (h : GI g fr s) : ∃ x, Der g.cl fr x := ⟨_, h.det 1 (Nat.le_refl _) h.pos⟩
/-- what spreads over a Gates value's clauses from literals that go with its ground -/
theorem spread_q {X Y Z : Nat → Prop} {base gb : Nat} {g : G} {fr : List Int} {s : Nat → Bool} (q : Nat) (w1 : World) (hG : GR X base w1 gb g) (hI : GI g fr s) {vs : List Value} (hO : OwnW w1 q g.cl.length vs) (hS : SlsX Z w1 vs g.cl) {vf : Value} (hF : SlX Y w1 vf fr) (hfl : fr.length ≤ 1000000) :
    Calls Try.prog 34 #[.slice (some ⟨q, 0, none⟩) g.cl.length g.cl.length, vf] w1 fun e w' => ∃ v, e = .returned (.tuple #[v, .bool true]) ∧ (∃ a c, v = .slice a g.n c) ∧ w'.ownsRow w1.heap.size 3 1 v g.n ((toldL g.n s).map (Value.int .i64)) ∧ GR X base w' gb g ∧ Below w1.heap.size w1 w' := by
  have hn := hG.n1
  obtain ⟨_, _, _, _, _, hm, _⟩ := hG.clauses
  have hc := hm
  refine (Spread_any (Y := fun _ => True) w1 q g.cl.length vs g.cl vf fr hO.rows hO.lt (hS.mono fun _ _ _ => trivial) rfl (hF.mono fun _ _ _ => trivial) (fun c hc x hx => isL_ok (hI.rng c hc x hx) hn) (fun x hx => isL_ok (hI.frm x hx).1 hn) (by omega) (fun c hc => by have := hI.len c hc; omega) hfl hI.der1).mono ?_
  rintro e w' (⟨hcf, _⟩ | ⟨v, out, is, rfl, hO2, hi, hcons, hnod, hp, hs, _, hb⟩)
  · exact absurd hcf (no_conflict hI)
  · have ht := told_of hI hi hcons hnod hp hs
    subst ht
    rw [toldL_len] at hO2
    refine ⟨v, rfl, ?_, hO2, hG.below hb, hb⟩
    rcases hO2.2 with ⟨rfl, h0⟩ | ⟨q, cap, cur, rfl, _⟩
    · exact ⟨none, 0, by rw [h0]⟩
    · exact ⟨_, _, rfl⟩

set_option maxRecDepth 100000 in
set_option maxHeartbeats 1000000 in
theorem told_any {X Y : Nat → Prop} {base gb : Nat} {g : G} {fr : List Int} {s : Nat → Bool} (w : World) (hG : GR X base w gb g) (hI : GI g fr s) (vf : Value) (hF : SlX Y w vf fr) (hfl : fr.length ≤ 1000000) :
    Calls Try.prog 14 #[.pointer (some ⟨gb, 0, none⟩), vf] w fun e w' => ∃ v, e = .returned (.tuple #[v, .bool true]) ∧ (∃ a c, v = .slice a g.n c) ∧ w'.ownsRow w.heap.size 3 1 v g.n ((toldL g.n s).map (Value.int .i64)) ∧ GR X base w' gb g ∧ Below w.heap.size w w' := by
  have HCL := Lib.hid (Clauses_any w hG hI.ne (fun c hc => by have := hI.len c hc; omega))
  have HI := Lib.hid hI
  have HF := Lib.hid hF
  have HFL := Lib.hid hfl
  have hnn := hG.n1
  have hnI : (g.n : Int) ≤ 1048576 := by omega
  obtain ⟨af, cf, rfl⟩ := hF.shape
  clear hG hI hF hfl hnn
  go_enter Try.func14, Try.ntmps14
  (repeat (first | (with_reducible first | refine xA ?_ | refine xB ?_ | refine xC ?_ | refine xD ?_ | refine xH ?_ | refine xI rfl ?_ | refine xE ?_ | refine xF ?_ | refine xG ?_) | go_skip | go_guarded | (go_at_call 28; (with_reducible refine (HCL.out).mono ?_); rintro _ w1 ⟨rfl, ⟨vs, hO1, hS1⟩, hG1, hb1⟩; have HSP := Lib.hid (spread_q w.heap.size w1 hG1 HI.out hO1 hS1 (HF.out.kept (Kept.ofBelow hb1)) HFL.out); clear hO1 hS1) | (go_at_call 34; (with_reducible refine (HSP.out).mono ?_); rintro _ w2 ⟨v, rfl, hv, hO2, hG2, hb2⟩; obtain ⟨av, cv, rfl⟩ := hv) | (go_at_call 18; (with_reducible refine (Vars_any _ hG2).mono ?_); rintro _ w3 ⟨rfl, rfl⟩) | go_values | go_skip | go_guarded | go_step | go_upon | go_back | (dsimp only)))
  go_ret2
  exact ⟨_, rfl, ⟨_, _, rfl⟩, owns_base hO2 hb1.size, hG2, hb1.trans (hb2.mono hb1.size)⟩

end Go.Proofs.Ytmaogkgjiplckaa
