import Derived.Test.YtafjllfmagmhbaaU
set_option linter.unusedSimpArgs false
set_option linter.unusedVariables false
namespace Go.Proofs.Ytafjllfmagmhbaa
open Go.RowKit

/-- from block B on lie these blocks, nothing of them frozen -/
def MemL (w : World) (B : Nat) (l : List (Array Value × TypeId)) : Prop :=
  B + l.length ≤ w.heap.size ∧ ∀ i c t, l[i]? = some (c, t) → w.heap[B + i]? = some (.cells c t (0, 0))

theorem MemL.get {w : World} {B : Nat} {l : List (Array Value × TypeId)} (h : MemL w B l) (i : Nat) {c : Array Value} {t : TypeId} (hi : l[i]? = some (c, t)) : w.heap[B + i]? = some (.cells c t (0, 0)) := h.2 i c t hi
theorem MemL.size {w : World} {B : Nat} {l : List (Array Value × TypeId)} (h : MemL w B l) : B + l.length ≤ w.heap.size := h.1

theorem MemL.below {w w' : World} {B : Nat} {l : List (Array Value × TypeId)} (h : MemL w B l) (hb : Below w.heap.size w w') : MemL w' B l :=
  ⟨Nat.le_trans h.1 hb.size, fun i c t hi => by
    have hl : i < l.length := by
      rcases Nat.lt_or_ge i l.length with h1 | h1
      · exact h1
      · rw [List.getElem?_eq_none h1] at hi; cases hi
    exact (hb.block _ (by have := h.1; omega)).trans (h.2 i c t hi)⟩

theorem MemL.pre {w : World} {B : Nat} {l : List (Array Value × TypeId)} (h : MemL w B l) (k : Nat) : MemL w B (l.take k) :=
  ⟨Nat.le_trans (by have := List.length_take_le k l; have := List.length_take_le' k l; omega) h.1, fun i c t hi => by
    rw [List.getElem?_take] at hi
    split at hi
    · exact h.get i hi
    · cases hi⟩
theorem MemL.under {w w' : World} {B B' : Nat} {l : List (Array Value × TypeId)} (h : MemL w B l) (hb : Below B' w w') (hl : B + l.length ≤ B') : MemL w' B l :=
  ⟨Nat.le_trans h.1 hb.size, fun i c t hi => by
    have hlt : i < l.length := by
      rcases Nat.lt_or_ge i l.length with h1 | h1
      · exact h1
      · rw [List.getElem?_eq_none h1] at hi; cases hi
    exact (hb.block _ (by omega)).trans (h.get i hi)⟩
theorem MemL.apart {w : World} {B b : Nat} {l : List (Array Value × TypeId)} (h : MemL w B l) (hb : b < B) (c : Array Value) : MemL (w.setRow b c) B l :=
  ⟨by simpa using h.1, fun i d t hi => (setRow_other w b _ c (by omega)).trans (h.get i hi)⟩

theorem MemL.row {w : World} {B : Nat} {l : List (Array Value × TypeId)} (h : MemL w B l) (i : Nat) {c c' : Array Value} {t : TypeId} (hi : l[i]? = some (c, t)) : MemL (w.setRow (B + i) c') B (l.set i (c', t)) :=
  ⟨by simpa using h.1, fun j d s hj => by
    by_cases e : j = i
    · subst e
      have hl : j < l.length := by
        rcases Nat.lt_or_ge j l.length with h1 | h1
        · exact h1
        · rw [List.getElem?_eq_none h1] at hi; cases hi
      simp [hl] at hj
      obtain ⟨rfl, rfl⟩ := hj
      exact setRow_heap w _ _ _ _ _ (h.get j hi)
    · rw [List.getElem?_set_ne (fun h => e h.symm)] at hj
      exact (setRow_other w _ _ _ (by omega)).trans (h.get j hj)⟩

theorem MemL.cell {w : World} {B : Nat} {l : List (Array Value × TypeId)} (h : MemL w B l) (i j : Nat) (v : Value) {c : Array Value} {t : TypeId} (hi : l[i]? = some (c, t)) : MemL (w.setCell ⟨B + i, j, none⟩ v) B (l.set i (c.setIfInBounds j v, t)) := by
  rw [setCell_eq_setRow w _ _ _ _ _ _ (h.get i hi)]
  exact h.row i hi

theorem MemL.al {w : World} {B : Nat} {l : List (Array Value × TypeId)} (h : MemL w B l) (hs : w.heap.size = B + l.length) (c : Array Value) (t : TypeId) : MemL (w.alloc (.cells c t)) B (l ++ [(c, t)]) ∧ (w.alloc (.cells c t)).heap.size = B + (l ++ [(c, t)]).length := by
  have e : (w.alloc (.cells c t)).heap.size = B + (l ++ [(c, t)]).length := by simp [hs]; omega
  refine ⟨⟨by omega, fun i d s hi => ?_⟩, e⟩
  rcases Nat.lt_trichotomy i l.length with h1 | h1 | h1
  · rw [List.getElem?_append_left h1] at hi
    exact (heap_old _ _ _ (by omega)).trans (h.get i hi)
  · subst h1
    simp at hi
    obtain ⟨rfl, rfl⟩ := hi
    exact heap_new _ _ _ (by omega)
  · rw [List.getElem?_append_right (by omega), List.getElem?_eq_none (by simp; omega)] at hi
    cases hi
theorem mem0 (w : World) : MemL w w.heap.size [] ∧ w.heap.size = w.heap.size + ([] : List (Array Value × TypeId)).length := ⟨⟨by simp, fun i c t h => by simp at h⟩, by simp⟩
theorem mem1 (w : World) (c1 : Array Value) (t1 : TypeId) : MemL (w.alloc (.cells c1 t1)) w.heap.size [(c1, t1)] ∧ (w.alloc (.cells c1 t1)).heap.size = w.heap.size + 1 := (mem0 w).1.al (mem0 w).2 c1 t1
theorem mem2 (w : World) (c1 c2 : Array Value) (t1 t2 : TypeId) : MemL ((w.alloc (.cells c1 t1)).alloc (.cells c2 t2)) w.heap.size [(c1, t1), (c2, t2)] ∧ ((w.alloc (.cells c1 t1)).alloc (.cells c2 t2)).heap.size = w.heap.size + 2 := (mem1 w c1 t1).1.al (mem1 w c1 t1).2 c2 t2
theorem mem3 (w : World) (c1 c2 c3 : Array Value) (t1 t2 t3 : TypeId) : MemL (((w.alloc (.cells c1 t1)).alloc (.cells c2 t2)).alloc (.cells c3 t3)) w.heap.size [(c1, t1), (c2, t2), (c3, t3)] ∧ (((w.alloc (.cells c1 t1)).alloc (.cells c2 t2)).alloc (.cells c3 t3)).heap.size = w.heap.size + 3 := (mem2 w c1 c2 t1 t2).1.al (mem2 w c1 c2 t1 t2).2 c3 t3
theorem mem4 (w : World) (c1 c2 c3 c4 : Array Value) (t1 t2 t3 t4 : TypeId) : MemL ((((w.alloc (.cells c1 t1)).alloc (.cells c2 t2)).alloc (.cells c3 t3)).alloc (.cells c4 t4)) w.heap.size [(c1, t1), (c2, t2), (c3, t3), (c4, t4)] ∧ ((((w.alloc (.cells c1 t1)).alloc (.cells c2 t2)).alloc (.cells c3 t3)).alloc (.cells c4 t4)).heap.size = w.heap.size + 4 := (mem3 w c1 c2 c3 t1 t2 t3).1.al (mem3 w c1 c2 c3 t1 t2 t3).2 c4 t4

section
variable {ops : Array Oper} {rest : List Oper} {o : Oper} {a : Act} {w : World} {Q : Exit → Act → World → Prop} {B : Nat} {l : List (Array Value × TypeId)}
theorem wl_id {P : Program} (h : wpList P ops Q (o :: rest) a w) : wpList P ops Q (o :: rest) a w := h
theorem wl_loadL (HM : MemL w B l) (i n : Nat) (hi : l[i]? = some (bw n, 29)) (hgd : o.guard = none) (x : Operand) (ho : o.op = .load 29 x)
    (hx : a.eval x = .pointer (some ⟨B + i, 0, none⟩)) (h : wpList Try.prog ops Q rest (a.put o.dst (.agg (bw n))) w) : wpList Try.prog ops Q (o :: rest) a w :=
  wl_load29 hgd x ho ⟨_, n, hx, HM.get i hi, h⟩
theorem wl_storeL (HM : MemL w B l) (i n m : Nat) (hi : l[i]? = some (bw n, 29)) (hgd : o.guard = none) (x y : Operand) (ho : o.op = .store 29 x y)
    (hx : a.eval x = .pointer (some ⟨B + i, 0, none⟩)) (hy : a.eval y = .agg (bw m))
    (h : ∀ w', MemL w' B (l.set i (bw m, 29)) → Below B w w' → wpList Try.prog ops Q rest (a.put o.dst undef) w') : wpList Try.prog ops Q (o :: rest) a w :=
  wl_store29 hgd x y ho ⟨_, n, m, hx, hy, HM.get i hi, h _ (HM.row i hi) (Below.setRow (Below.refl _ _) (by omega) _)⟩
end

theorem bitL {w : World} {B : Nat} {l : List (Array Value × TypeId)} (HM : MemL w B l) (i n : Nat) (hi : l[i]? = some (bw n, 29)) (k : Nat) (hk : k < 64) : w.cell? ⟨B + i, k, none⟩ = some (.bool (n.testBit k)) := heap_row w _ n (HM.get i hi) k hk

theorem resL {fn : Func} {p : Tmp} (h : fn.results = #[.cell p 29]) (tmps : Array Value) {w : World} {B : Nat} {l : List (Array Value × TypeId)} (HM : MemL w B l) (i n : Nat) (hi : l[i]? = some (bw n, 29)) (hp : tmps.getD p undef = .pointer (some ⟨B + i, 0, none⟩)) :
    (results fn tmps).run Try.prog w = .ok (.agg (bw n)) w := res29 h tmps w _ n hp (HM.get i hi)

end Go.Proofs.Ytafjllfmagmhbaa
