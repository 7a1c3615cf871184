import Derived.Test.YtmaogkgjiplckaaGS
set_option linter.unusedSimpArgs false
set_option linter.unusedVariables false
namespace Go.Proofs.Ytmaogkgjiplckaa
open Go.RowKit

theorem GR.below {X : Nat → Prop} {base gb : Nat} {w w' : World} {g : G} (h : GR X base w gb g) (hb : Below w.heap.size w w') : GR X base w' gb g :=
  h.same ⟨hb.os, hb.tape, hb.output, hb.size, fun k hk _ => hb.block k hk⟩
theorem GR.clauses {X : Nat → Prop} {base gb : Nat} {w : World} {g : G} (h : GR X base w gb g) : ∃ (ao : Option Addr) (cap : Nat) (xs : List Value), xs.length = g.cl.length ∧ w.cell? ⟨gb, 1, none⟩ = some (.slice ao g.cl.length cap) ∧ g.cl.length ≤ 4194304 ∧ ∀ k x l, xs[k]? = some x → g.cl[k]? = some l → ∃ b, ao = some ⟨b, 0, none⟩ ∧ w.cell? ⟨b, k, none⟩ = some x ∧ SlX (fun _ => True) w x l := by
  obtain ⟨v, ma, mx, xs, h⟩ := h
  obtain ⟨c0, c1, c2, c3, cf⟩ := box4g h.box
  have hl := h.cls.1
  have hn := h.cl
  have hn1 := h.n1
  have key : ∀ k x l, xs[k]? = some x → g.cl[k]? = some l → SlX (fun _ => True) w x l := fun k x l h1 h2 => (h.cls.2 k x l h1 h2).mono fun _ _ _ => trivial
  rcases h.row with ⟨e1, ⟨rfl, e2⟩ | ⟨b, cap, cur, rfl, e2, e3, e4, e5, e6, e7⟩⟩
  · rw [← hl, e2]
    refine ⟨none, 0, xs, by omega, by rw [c1], by omega, fun k x l h1 => ?_⟩
    rw [List.length_eq_zero_iff.1 e2] at h1
    simp at h1
  · refine ⟨some ⟨b, 0, none⟩, cap, xs, hl, by rw [c1, hl], by omega, fun k x l h1 h2 => ⟨b, rfl, ?_, key k x l h1 h2⟩⟩
    have := cell_of_row w b k _ _ _ e3
    rw [this, ← Array.getElem?_toList]
    rw [← e7, List.getElem?_take] at h1
    split at h1
    · exact h1
    · cases h1

end Go.Proofs.Ytmaogkgjiplckaa
