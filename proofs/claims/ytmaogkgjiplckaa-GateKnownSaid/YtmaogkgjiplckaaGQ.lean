import Derived.Test.YtmaogkgjiplckaaGP
import Derived.Carry
set_option linter.unusedSimpArgs false
set_option linter.unusedVariables false
namespace Go.Proofs.Ytmaogkgjiplckaa
open Go.RowKit

theorem hp_al (w : World) (o : Obj) {k : Nat} {p : Obj} (h : w.heap[k]? = some p) : (w.alloc o).heap[k]? = some p := (Below.heap_alloc w o k (lt_of_block h)).trans h

theorem grep_new {X : Nat → Prop} (w : World) (hX : ∀ k, X k → k < w.heap.size) : GR X w.heap.size (((((w.alloc (.cells #[.int .i64 1] 3)).alloc (.cells #[.slice (some ⟨w.heap.size, 0, none⟩) 1 1] 26)).alloc (.map #[] 0)).alloc (.map #[] 0)).alloc (.cells #[.int .i64 1, .slice (some ⟨w.heap.size + 1, 0, none⟩) 1 1, .map (some (w.heap.size + 1 + 1)), .map (some (w.heap.size + 1 + 1 + 1))] 72)) (w.heap.size + 1 + 1 + 1 + 1) newG := by
  have s1 : ((w.alloc (.cells #[.int .i64 1] 3))).heap.size = w.heap.size + 1 := by simp
  have s2 : (((w.alloc (.cells #[.int .i64 1] 3)).alloc (.cells #[.slice (some ⟨w.heap.size, 0, none⟩) 1 1] 26))).heap.size = w.heap.size + 1 + 1 := by simp
  have s3 : ((((w.alloc (.cells #[.int .i64 1] 3)).alloc (.cells #[.slice (some ⟨w.heap.size, 0, none⟩) 1 1] 26)).alloc (.map #[] 0))).heap.size = w.heap.size + 1 + 1 + 1 := by simp
  have s4 : (((((w.alloc (.cells #[.int .i64 1] 3)).alloc (.cells #[.slice (some ⟨w.heap.size, 0, none⟩) 1 1] 26)).alloc (.map #[] 0)).alloc (.map #[] 0))).heap.size = w.heap.size + 1 + 1 + 1 + 1 := by simp
  have k1 := heap_alloc_new w (.cells #[.int .i64 1] 3)
  have k2 := heap_alloc_new (w.alloc (.cells #[.int .i64 1] 3)) (.cells #[.slice (some ⟨w.heap.size, 0, none⟩) 1 1] 26)
  have k3 := heap_alloc_new ((w.alloc (.cells #[.int .i64 1] 3)).alloc (.cells #[.slice (some ⟨w.heap.size, 0, none⟩) 1 1] 26)) (.map #[] 0)
  have k4 := heap_alloc_new (((w.alloc (.cells #[.int .i64 1] 3)).alloc (.cells #[.slice (some ⟨w.heap.size, 0, none⟩) 1 1] 26)).alloc (.map #[] 0)) (.map #[] 0)
  have k5 := heap_alloc_new ((((w.alloc (.cells #[.int .i64 1] 3)).alloc (.cells #[.slice (some ⟨w.heap.size, 0, none⟩) 1 1] 26)).alloc (.map #[] 0)).alloc (.map #[] 0)) (.cells #[.int .i64 1, .slice (some ⟨w.heap.size + 1, 0, none⟩) 1 1, .map (some (w.heap.size + 1 + 1)), .map (some (w.heap.size + 1 + 1 + 1))] 72)
  rw [s1] at k2
  rw [s2] at k3
  rw [s3] at k4
  rw [s4] at k5
  have j1 := hp_al ((((w.alloc (.cells #[.int .i64 1] 3)).alloc (.cells #[.slice (some ⟨w.heap.size, 0, none⟩) 1 1] 26)).alloc (.map #[] 0)).alloc (.map #[] 0)) (.cells #[.int .i64 1, .slice (some ⟨w.heap.size + 1, 0, none⟩) 1 1, .map (some (w.heap.size + 1 + 1)), .map (some (w.heap.size + 1 + 1 + 1))] 72) (hp_al (((w.alloc (.cells #[.int .i64 1] 3)).alloc (.cells #[.slice (some ⟨w.heap.size, 0, none⟩) 1 1] 26)).alloc (.map #[] 0)) (.map #[] 0) (hp_al ((w.alloc (.cells #[.int .i64 1] 3)).alloc (.cells #[.slice (some ⟨w.heap.size, 0, none⟩) 1 1] 26)) (.map #[] 0) (hp_al (w.alloc (.cells #[.int .i64 1] 3)) (.cells #[.slice (some ⟨w.heap.size, 0, none⟩) 1 1] 26) k1)))
  have j2 := hp_al ((((w.alloc (.cells #[.int .i64 1] 3)).alloc (.cells #[.slice (some ⟨w.heap.size, 0, none⟩) 1 1] 26)).alloc (.map #[] 0)).alloc (.map #[] 0)) (.cells #[.int .i64 1, .slice (some ⟨w.heap.size + 1, 0, none⟩) 1 1, .map (some (w.heap.size + 1 + 1)), .map (some (w.heap.size + 1 + 1 + 1))] 72) (hp_al (((w.alloc (.cells #[.int .i64 1] 3)).alloc (.cells #[.slice (some ⟨w.heap.size, 0, none⟩) 1 1] 26)).alloc (.map #[] 0)) (.map #[] 0) (hp_al ((w.alloc (.cells #[.int .i64 1] 3)).alloc (.cells #[.slice (some ⟨w.heap.size, 0, none⟩) 1 1] 26)) (.map #[] 0) k2))
  have j3 := hp_al ((((w.alloc (.cells #[.int .i64 1] 3)).alloc (.cells #[.slice (some ⟨w.heap.size, 0, none⟩) 1 1] 26)).alloc (.map #[] 0)).alloc (.map #[] 0)) (.cells #[.int .i64 1, .slice (some ⟨w.heap.size + 1, 0, none⟩) 1 1, .map (some (w.heap.size + 1 + 1)), .map (some (w.heap.size + 1 + 1 + 1))] 72) (hp_al (((w.alloc (.cells #[.int .i64 1] 3)).alloc (.cells #[.slice (some ⟨w.heap.size, 0, none⟩) 1 1] 26)).alloc (.map #[] 0)) (.map #[] 0) k3)
  have j4 := hp_al ((((w.alloc (.cells #[.int .i64 1] 3)).alloc (.cells #[.slice (some ⟨w.heap.size, 0, none⟩) 1 1] 26)).alloc (.map #[] 0)).alloc (.map #[] 0)) (.cells #[.int .i64 1, .slice (some ⟨w.heap.size + 1, 0, none⟩) 1 1, .map (some (w.heap.size + 1 + 1)), .map (some (w.heap.size + 1 + 1 + 1))] 72) k4
  have s5 : ((((((w.alloc (.cells #[.int .i64 1] 3)).alloc (.cells #[.slice (some ⟨w.heap.size, 0, none⟩) 1 1] 26)).alloc (.map #[] 0)).alloc (.map #[] 0)).alloc (.cells #[.int .i64 1, .slice (some ⟨w.heap.size + 1, 0, none⟩) 1 1, .map (some (w.heap.size + 1 + 1)), .map (some (w.heap.size + 1 + 1 + 1))] 72))).heap.size = w.heap.size + 1 + 1 + 1 + 1 + 1 := by simp
  clear k1 k2 k3 k4
  generalize (((((w.alloc (.cells #[.int .i64 1] 3)).alloc (.cells #[.slice (some ⟨w.heap.size, 0, none⟩) 1 1] 26)).alloc (.map #[] 0)).alloc (.map #[] 0)).alloc (.cells #[.int .i64 1, .slice (some ⟨w.heap.size + 1, 0, none⟩) 1 1, .map (some (w.heap.size + 1 + 1)), .map (some (w.heap.size + 1 + 1 + 1))] 72)) = u at *
  refine ⟨.slice (some ⟨w.heap.size + 1, 0, none⟩) 1 1, w.heap.size + 1 + 1, w.heap.size + 1 + 1 + 1, [.slice (some ⟨w.heap.size, 0, none⟩) 1 1], ⟨k5, ?_, ⟨rfl, ?_⟩, ?_, ?_, by omega, fun k h => by have := hX k h; omega, fun h => by have := hX _ h; omega, fun h => by have := hX _ h; omega, fun h => by have := hX _ h; omega, fun k e h => ?_, by decide, by decide⟩⟩
  · exact ⟨rfl, .inr ⟨w.heap.size + 1, 1, _, rfl, by omega, j2, Nat.le_refl _, by decide, rfl, rfl⟩⟩
  · intro i x l h1 h2
    rcases i with _ | i
    · simp [newG] at h1 h2
      subst h1; subst h2
      refine ⟨_, 1, rfl, Nat.le_refl _, by simp, fun _ => ⟨w.heap.size, 0, rfl, ⟨fun h => by have := hX _ h; omega, by omega, fun e => by injection e with e; change w.heap.size = w.heap.size + 1 at e; omega⟩, by omega, fun i x hi => ?_⟩⟩
      rcases i with _ | i
      · simp at hi; subst hi
        have := cell_of_row u w.heap.size 0 _ _ _ j1
        simpa using this
      · simp at hi
    · simp at h1
  · exact ⟨_, _, j3, rfl, List.nodup_nil, by simp [newG, mapOf], by simp, by simp⟩
  · exact ⟨_, _, j4, rfl, List.nodup_nil, by simp [newG, mapOf], by simp, by simp⟩
  · injection e with e
    have := hX k h
    change k = w.heap.size + 1 at e
    omega

set_option maxRecDepth 100000 in
theorem New_any {X : Nat → Prop} (w : World) (hX : ∀ k, X k → k < w.heap.size) :
    Calls Try.prog 10 #[] w fun e w' => ∃ gb, e = .returned (.pointer (some ⟨gb, 0, none⟩)) ∧ GR X w.heap.size w' gb newG ∧ Below w.heap.size w w' := by
  have hmm := @run_makeMap Try.prog
  have H := Lib.hid (grep_new w hX)
  clear hX
  go_enter Try.func10, Try.ntmps10
  (repeat (first | (with_reducible first | refine xA ?_ | refine xB ?_ | refine xC ?_ | refine xD ?_ | refine xH ?_ | refine xI rfl ?_ | refine xE ?_ | refine xF ?_ | refine xG ?_) | go_values | go_skip | go_guarded | go_step | go_upon | go_back | ((with_reducible show Oper.upon _ _ _ _ _ _); go_simp) | (dsimp only)))
  go_ret
  exact ⟨_, rfl, H.out, Kept.toBelow (X := fun _ => True) ((((((Kept.refl _ w).alloc _).alloc _).alloc _).alloc _).alloc _) (Nat.le_refl _) fun _ _ => trivial⟩

end Go.Proofs.Ytmaogkgjiplckaa
