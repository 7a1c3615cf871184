import Derived.Test.YtmaogkgjiplckaaGM
set_option linter.unusedSimpArgs false
set_option linter.unusedVariables false
namespace Go.Proofs.Ytmaogkgjiplckaa
open Go.RowKit

/-- what a call for words answers: nothing, or a word -/
def WordR (X : Nat → Prop) (base gb : Nat) (g : G) (n : Nat) (w : World) : Option (G × List Int) → Ending → World → Prop
  | none, e, w' => e = .returned (.slice none 0 0) ∧ GR X base w' gb g ∧ Kept X w w'
  | some r, e, w' => Word1 X base gb n w r e w'
def ChooseR (g : G) (c : Int) (xs ys : List Int) : Option (G × List Int) := if allL g.n [c] && [xs, ys].all (wordB g.n xs.length) then some (chooseG g c xs ys) else none

theorem cell_keep {w w' : World} (hb : Below w.heap.size w w') {p : Addr} {c : Value} (h : w.cell? p = some c) : w'.cell? p = some c :=
  (Kept.ofBelow (X := fun _ => True) hb).cell h trivial
theorem cell_new (w : World) (v : Value) (t : TypeId) : (w.alloc (.cells #[v] t)).cell? ⟨w.heap.size, 0, none⟩ = some v := by
  have h := cell_of_row _ w.heap.size 0 _ _ _ (heap_alloc_new w (.cells #[v] t)); exact h
theorem cell_al (w : World) (o : Obj) {p : Addr} {c : Value} (h : w.cell? p = some c) : (w.alloc o).cell? p = some c :=
  ((Kept.refl (fun _ => True) w).alloc o).cell h trivial

/-- four boxes, and what a later world keeps of them -/
structure Box4 (w : World) (b gb : Nat) (c : Int) (vx vy : Value) : Prop where
  c0 : w.cell? ⟨b, 0, none⟩ = some (.pointer (some ⟨gb, 0, none⟩))
  c1 : w.cell? ⟨b + 1, 0, none⟩ = some (.int .i64 c)
  c2 : w.cell? ⟨b + 1 + 1, 0, none⟩ = some vx
  c3 : w.cell? ⟨b + 1 + 1 + 1, 0, none⟩ = some vy
theorem Box4.kept {w w' : World} {b gb : Nat} {c : Int} {vx vy : Value} (h : Box4 w b gb c vx vy) (hb : Below w.heap.size w w') : Box4 w' b gb c vx vy :=
  ⟨cell_keep hb h.c0, cell_keep hb h.c1, cell_keep hb h.c2, cell_keep hb h.c3⟩
theorem box4_new (w : World) (gb : Nat) (c : Int) (vx vy : Value) (t1 t2 t3 t4 : TypeId) : Box4 ((((w.alloc (.cells #[.pointer (some ⟨gb, 0, none⟩)] t1)).alloc (.cells #[.int .i64 c] t2)).alloc (.cells #[vx] t3)).alloc (.cells #[vy] t4)) w.heap.size gb c vx vy := by
  have s1 : (w.alloc (.cells #[.pointer (some ⟨gb, 0, none⟩)] t1)).heap.size = w.heap.size + 1 := by simp
  have s2 : ((w.alloc (.cells #[.pointer (some ⟨gb, 0, none⟩)] t1)).alloc (.cells #[.int .i64 c] t2)).heap.size = w.heap.size + 1 + 1 := by simp
  have s3 : (((w.alloc (.cells #[.pointer (some ⟨gb, 0, none⟩)] t1)).alloc (.cells #[.int .i64 c] t2)).alloc (.cells #[vx] t3)).heap.size = w.heap.size + 1 + 1 + 1 := by simp
  have k1 := cell_new (w.alloc (.cells #[.pointer (some ⟨gb, 0, none⟩)] t1)) (.int .i64 c) t2
  have k2 := cell_new ((w.alloc (.cells #[.pointer (some ⟨gb, 0, none⟩)] t1)).alloc (.cells #[.int .i64 c] t2)) vx t3
  have k3 := cell_new (((w.alloc (.cells #[.pointer (some ⟨gb, 0, none⟩)] t1)).alloc (.cells #[.int .i64 c] t2)).alloc (.cells #[vx] t3)) vy t4
  rw [s1] at k1
  rw [s2] at k2
  rw [s3] at k3
  exact ⟨cell_al _ _ (cell_al _ _ (cell_al _ _ (cell_new _ _ _))), cell_al _ _ (cell_al _ _ k1), cell_al _ _ k2, k3⟩

theorem slx_lit (w : World) (l : List Int) : SlX (fun _ => True) (w.alloc (.cells (l.map (Value.int .i64)).toArray 3)) (.slice (some ⟨w.heap.size, 0, none⟩) l.length l.length) l := by
  refine ⟨_, l.length, rfl, Nat.le_refl _, by simp, fun _ => ⟨w.heap.size, 0, rfl, trivial, by simp, fun i x hi => ?_⟩⟩
  rw [World.cell?_alloc_new]
  simp [hi]
theorem GR.xb {X : Nat → Prop} {base gb : Nat} {w : World} {g : G} (h : GR X base w gb g) : ∀ k, X k → k < w.heap.size := by obtain ⟨v, ma, mx, xs, h⟩ := h; exact h.xb

/-- the two words, in a fresh row -/
theorem words_two {X : Nat → Prop} {base gb : Nat} {g : G} (w : World) (hG : GR X base w gb g) (vx vy : Value) (xs ys : List Int) (hX : SlX X w vx xs) (hY : SlX X w vy ys) (hxl : xs.length ≤ 1000000) (hyl : ys.length ≤ 1000000) (r : Bool) (hr : Hid ([xs, ys].all (wordB g.n xs.length) = r)) :
    Calls Try.prog 38 #[.pointer (some ⟨gb, 0, none⟩), .slice (some ⟨w.heap.size, 0, none⟩) 2 2] (w.alloc (.cells #[vx, vy] 26)) fun e w' => e = .returned (.bool r) ∧ GR X base w' gb g ∧ Below w.heap.size w w' := by
  have kx := hX.kept ((Kept.refl X w).alloc (.cells #[vx, vy] 26))
  have ky := hY.kept ((Kept.refl X w).alloc (.cells #[vx, vy] 26))
  refine (words_any _ (hG.alloc _) w.heap.size 2 [vx, vy] [xs, ys] xs (heap_alloc_new w _) rfl ⟨rfl, ?_⟩ rfl ?_ (by omega) r hr).mono ?_
  · intro i x l h1 h2
    rcases i with _ | _ | i
    · simp at h1 h2; subst h1; subst h2; exact kx.mono fun _ _ _ => trivial
    · simp at h1 h2; subst h1; subst h2; exact ky.mono fun _ _ _ => trivial
    · simp at h1
  · intro l hl
    simp at hl
    rcases hl with rfl | rfl <;> assumption
  · rintro e w' ⟨h1, h2, h3⟩
    exact ⟨h1, h2, (Kept.toBelow (((Kept.refl (fun _ => True) w).alloc _).trans (Kept.mono (Kept.ofBelow (X := fun _ => True) h3) fun _ _ _ => trivial)) (Nat.le_refl _) fun _ _ => trivial)⟩

end Go.Proofs.Ytmaogkgjiplckaa
