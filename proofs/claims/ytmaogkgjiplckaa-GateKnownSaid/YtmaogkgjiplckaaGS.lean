import Derived.Test.YtmaogkgjiplckaaGR
set_option linter.unusedSimpArgs false
set_option linter.unusedVariables false
namespace Go.Proofs.Ytmaogkgjiplckaa
open Go.RowKit

/-- a row of slices of one's own -/
def OwnW (w : World) (q n : Nat) (vs : List Value) : Prop := vs.length = n ∧ w.ownsRow q 26 1 (.slice (some ⟨q, 0, none⟩) n n) n vs
theorem OwnW.kept {w w' : World} {q n : Nat} {l : List Value} (h : OwnW w q n l) {X : Nat → Prop} (hk : Kept X w w') (hx : X q) : OwnW w' q n l := by
  refine ⟨h.1, ?_⟩
  rcases h.2 with ⟨b2, hr⟩
  refine ⟨b2, ?_⟩
  rcases hr with ⟨e, _⟩ | ⟨g, cap, cur, e, hb, hh, r⟩
  · cases e
  · refine .inr ⟨g, cap, cur, e, hb, ?_, r⟩
    simp only [Value.slice.injEq, Option.some.injEq, Addr.mk.injEq, and_true] at e
    obtain ⟨rfl, _⟩ := e
    exact hk.at hh hx
section
variable {ops : Array Oper} {rest : List Oper} {o : Oper} {a : Act} {w : World} {Q : Exit → Act → World → Prop}
theorem wl_store_ownw (hgd : o.guard = none) (x y : Operand) (ho : o.op = .store 26 x y) (q n : Nat) (l : List Value) (j : Nat) (hx : a.eval x = .pointer (some ⟨q, j, none⟩)) (ad : Option Addr) (m c : Nat) (hy : a.eval y = .slice ad m c) (hO : OwnW w q n l) (hj : j < n) (hsl : ∀ v ∈ l, ∃ a m c, v = .slice a m c)
    (h : ∀ w', OwnW w' q n (l.set j (.slice ad m c)) → w.grownBy w' (some q) → wpList Try.prog ops Q rest (a.put o.dst undef) w') : wpList Try.prog ops Q (o :: rest) a w :=
  wpList_plain hgd fun _ hK => by
    obtain ⟨hl, hO2⟩ := hO
    have hc := hO2.cellAt j (by omega)
    have hlt : j < l.length := by omega
    rw [List.getElem?_eq_getElem hlt] at hc
    obtain ⟨a', m', c', e⟩ := hsl _ (List.getElem_mem hlt)
    rw [e] at hc
    have hf := hO2.frozenAt j
    have hst : (Instr.storeAt 26 (.pointer (some ⟨q, j, none⟩)) (.slice ad m c)).run Try.prog w = .ok () (w.setCell ⟨q, j, none⟩ (.slice ad m c)) := by
      go_simp
    obtain ⟨s1, s2⟩ := hO2.stored j (.slice ad m c)
    unfold Oper.wp execOp
    simp only [ho, hx, hy, Sem.run_bind, hst, Result.andThen_ok]
    exact hK _ _ (h _ ⟨by simp [hl], s1⟩ s2)
theorem wl_make_ownw (hgd : o.guard = none) (l c : Operand) (hop : o.op = Op.makeSlice 55 l c) (n : Nat) (hl : a.eval l = .int .i64 n) (hc : a.eval c = .int .i64 n) (hn : n ≤ 100000000)
    (h : ∀ w', OwnW w' w.heap.size n (List.replicate n (.slice none 0 0)) → w.grownBy w' none → wpList Try.prog ops Q rest (a.put o.dst (.slice (some ⟨w.heap.size, 0, none⟩) n n)) w') : wpList Try.prog ops Q (o :: rest) a w := by
  obtain ⟨i0, hi0, hz0, hz1, hz2⟩ := info_parts info26
  refine wpList_make_full w hgd l c 55 hop w.heap.size 26 i0 (.slice none 0 0) 1 Try.underlying55 hi0 hz0 hz1 .i64 .i64 n n n hl hc rfl rfl (by rw [hz2]; omega) (by unfold maxLen; omega) (Nat.le_refl _) ?_
  intro w' h1 h2
  refine h w' ⟨by simp, ?_⟩ h2
  have e : (madeCells (Value.slice none 0 0).cells (n * 1)).toList = List.replicate n (.slice none 0 0) := by
    rw [Nat.mul_one]
    unfold madeCells
    rw [Array.toList_map, Array.toList_range]
    apply List.ext_getElem?
    intro i
    rw [List.getElem?_map, List.getElem?_replicate]
    by_cases hi : i < n
    · rw [List.getElem?_range hi, if_pos hi]
      simp [Value.cells, Nat.mod_one]
    · rw [if_neg hi, List.getElem?_eq_none (by simpa using hi)]
      rfl
  rw [← e]; exact h1
end

end Go.Proofs.Ytmaogkgjiplckaa
