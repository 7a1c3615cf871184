import Derived.Test.YtmaogkgjiplckaaGW0
set_option linter.unusedSimpArgs false
set_option linter.unusedVariables false
namespace Go.Proofs.Ytmaogkgjiplckaa
open Go.RowKit
section
variable {X Y Y' S : Nat → Prop} {base gb ma mx : Nat} {w w' : World} {g : G} {v : Value} {xs : List Value}
theorem GRep.turn (h : GRep Y base w gb g v ma mx xs) {r : Option Nat} (hg : w.grownBy w' r) (hr : ∀ q, r = some q → Y q) (h1 : ∀ k, Y' k → Y k ∨ w.heap.size ≤ k) (h2 : ∀ k, Y' k → k < w'.heap.size) : GRep Y' base w' gb g v ma mx xs := by
  obtain ⟨l1, l2, l3⟩ := h.lt
  have hk : Kept (fun k => ¬ Y k) w w' := ⟨hg.os, hg.tape, hg.output, hg.size, fun i hi hx => hg.block i hi (fun e => hx (hr i e.symm))⟩
  have no : ∀ k, k < w.heap.size → ¬ Y k → ¬ Y' k := fun k hk hy hy' => (h1 k hy').elim hy (fun h => by omega)
  refine ⟨hk.at h.box h.xg, h.row.kept hg ?_, ?_, h.an.kept hk h.xa, h.xo.kept hk h.xx, h.ne, h2, no _ l1 h.xg, no _ l2 h.xa, no _ l3 h.xx, fun k e => no k ((h.row.lt k e.symm).2) (h.xv k e), h.n1, h.cl⟩
  · rcases hv : v.ownBlock with _ | k
    · exact .inl rfl
    · right
      intro e
      exact h.xv k hv.symm (hr k e.symm)
  · have c1 := h.cls.mono (Z := fun k => ¬ Y k ∧ ¬ Y' k ∧ k ≠ gb ∧ some k ≠ v.ownBlock) fun k hk hx => ⟨hx.1, no k hk hx.1, hx.2⟩
    exact (c1.kept (hk.mono fun _ _ h => h.1)).mono fun _ _ h => h.2
theorem GR.turn (h : GR Y base w gb g) {r : Option Nat} (hg : w.grownBy w' r) (hr : ∀ q, r = some q → Y q) (h1 : ∀ k, Y' k → Y k ∨ w.heap.size ≤ k) (h2 : ∀ k, Y' k → k < w'.heap.size) : GR Y' base w' gb g := by
  obtain ⟨v, ma, mx, xs, h⟩ := h; exact ⟨v, ma, mx, xs, h.turn hg hr h1 h2⟩
end
theorem owns_kept {w w' : World} {B T n : Nat} {v : Value} {l : List Value} (h : w.ownsRow B T 1 v n l) {Y : Nat → Prop} (hk : Kept Y w w') (hy : ∀ k, v.ownBlock = some k → Y k) : w'.ownsRow B T 1 v n l := by
  rcases h with ⟨b2, hr⟩
  refine ⟨b2, ?_⟩
  rcases hr with ⟨e, r⟩ | ⟨g, cap, cur, e, hb, hh, r⟩
  · exact .inl ⟨e, r⟩
  · refine .inr ⟨g, cap, cur, e, hb, ?_, r⟩
    subst e
    exact hk.at hh (hy g rfl)

/-- two rows of ints of one's own beside a Gates value -/
structure Two (X : Nat → Prop) (base gb B : Nat) (w : World) (g : G) (v u : Value) (l m : List Int) : Prop where
  one : w.ownsRow B 3 1 v l.length (l.map (Value.int .i64))
  two : w.ownsRow B 3 1 u m.length (m.map (Value.int .i64))
  ap : ∀ k, v.ownBlock = some k → u.ownBlock ≠ some k
  gr : ∃ S : Nat → Prop, GR (fun k => X k ∨ S k) base w gb g ∧ (∀ k, v.ownBlock = some k → S k) ∧ (∀ k, u.ownBlock = some k → S k)
section
variable {X : Nat → Prop} {base gb B : Nat} {w w' : World} {g : G} {v u v' : Value} {l m : List Int}
theorem Two.swap (h : Two X base gb B w g v u l m) : Two X base gb B w g u v m l := by
  obtain ⟨h1, h2, h3, S, h4, h5, h6⟩ := h
  exact ⟨h2, h1, fun k e e' => h3 k e' e, S, h4, h6, h5⟩
theorem Two.alloc (h : Two X base gb B w g v u l m) (o : Obj) : Two X base gb B (w.alloc o) g v u l m := by
  obtain ⟨h1, h2, h3, S, h4, h5, h6⟩ := h
  exact ⟨h1.alloc o, h2.alloc o, h3, S, h4.alloc o, h5, h6⟩
theorem Two.push (h : Two X base gb B w g v u l m) {x : Int} (ho : w'.ownsRow B 3 1 v' (l.length + 1) ((l ++ [x]).map (Value.int .i64))) (hg : w.grownBy w' v.ownBlock) (hv : v'.ownBlock = v.ownBlock ∨ v'.ownBlock = some w.heap.size) : Two X base gb B w' g v' u (l ++ [x]) m := by
  obtain ⟨h1, h2, h3, S, h4, h5, h6⟩ := h
  have hlt := h4.xb
  refine ⟨by simpa using ho, h2.kept hg ?_, ?_, fun k => S k ∨ v'.ownBlock = some k, h4.turn hg (fun q e => .inr (h5 q e)) ?_ ?_, fun k e => .inr e, fun k e => .inl (h6 k e)⟩
  · rcases hu : u.ownBlock with _ | k
    · exact .inl rfl
    · right
      intro e
      exact h3 k e.symm hu
  · intro k e e'
    rcases hv with hv | hv
    · exact h3 k (hv ▸ e) e'
    · rw [hv] at e
      cases e
      have := (h2.lt _ e').2
      omega
  · rintro k (a | a | a)
    · exact .inl (.inl a)
    · exact .inl (.inr a)
    · rcases hv with hv | hv
      · exact .inl (.inr (h5 k (hv ▸ a)))
      · rw [hv] at a; cases a; exact .inr (Nat.le_refl _)
  · rintro k (a | a | a)
    · exact Nat.lt_of_lt_of_le (hlt k (.inl a)) hg.size
    · exact Nat.lt_of_lt_of_le (hlt k (.inr a)) hg.size
    · exact (ho.lt k a).2
theorem Two.base' (h : Two X base gb B w g v u l m) : (∀ k, v.ownBlock = some k → B ≤ k) ∧ ∀ k, u.ownBlock = some k → B ≤ k := ⟨fun k e => (h.one.lt k e).1, fun k e => (h.two.lt k e).1⟩
end

end Go.Proofs.Ytmaogkgjiplckaa
