import Derived.Test.YtmaogkgjiplckaaSF
set_option linter.unusedSimpArgs false
set_option linter.unusedVariables false
namespace Go.Proofs.Ytmaogkgjiplckaa
open Go.RowKit

def updG (gi : Int → List Int) (x i : Int) : Int → List Int := fun y => if y = x then gi x ++ [i] else gi y
structure GI2 (cl : List (List Int)) (gi : Int → List Int) (k j : Nat) : Prop where
  bd : ∀ x, ∀ i ∈ gi x, 0 ≤ i ∧ i < cl.length
  all : ∀ (x : Int) (k' : Nat) (c : List Int), k' < k → cl[k']? = some c → x ∈ c → (k' : Int) ∈ gi x
  cur : ∀ (x : Int) (c : List Int), cl[k]? = some c → x ∈ c.take j → (k : Int) ∈ gi x
  len : ∀ x, (gi x).length ≤ 64 * k + j
section
variable {cl : List (List Int)} {gi : Int → List Int} {k j : Nat}
theorem GI2.start : GI2 cl (fun _ => []) 0 0 := ⟨by simp, fun x k' c h => by omega, by simp, by simp⟩
theorem updG_mem {x i y u : Int} (h : u ∈ gi y) : u ∈ updG gi x i y := by
  unfold updG
  split
  · rename_i e; subst e; exact List.mem_append_left _ h
  · exact h
theorem GI2.nextJ (h : GI2 cl gi k j) {c : List Int} {x : Int} (hc : cl[k]? = some c) (hx : c[j]? = some x) : GI2 cl (updG gi x k) k (j + 1) := by
  have hk := (List.getElem?_eq_some_iff.1 hc).1
  refine ⟨fun y i hi => ?_, fun y k' c' a b d => updG_mem (h.all y k' c' a b d), fun y c' a b => ?_, fun y => ?_⟩
  · unfold updG at hi
    split at hi
    · rcases List.mem_append.1 hi with hi | hi
      · exact h.bd _ i hi
      · rw [List.mem_singleton] at hi; subst hi; omega
    · exact h.bd _ i hi
  · rw [hc] at a; cases a
    rw [list_upto hx] at b
    rcases List.mem_append.1 b with b | b
    · exact updG_mem (h.cur y c hc b)
    · rw [List.mem_singleton] at b; subst b
      unfold updG; rw [if_pos rfl]; simp
  · unfold updG
    have h1 := h.len x
    have h2 := h.len y
    split
    · rw [List.length_append, List.length_singleton]; omega
    · omega
theorem GI2.nextK (h : GI2 cl gi k j) {c : List Int} (hc : cl[k]? = some c) (hj : j = c.length) (hl : c.length ≤ 64) : GI2 cl gi (k + 1) 0 := by
  refine ⟨h.bd, fun y k' c' a b d => ?_, by simp, fun y => by have := h.len y; omega⟩
  rcases Nat.lt_or_ge k' k with hlt | hge
  · exact h.all y k' c' hlt b d
  · obtain rfl : k' = k := by omega
    rw [hc] at b; cases b
    exact h.cur y c hc (by rw [hj, List.take_of_length_le (Nat.le_refl _)]; exact d)
theorem GI2.done (h : GI2 cl gi k 0) (hk : k = cl.length) (hn : cl.length ≤ 10000000) : GIN cl gi :=
  ⟨h.bd, fun x k' c a b => h.all x k' c (by have := (List.getElem?_eq_some_iff.1 a).1; omega) a b, fun x => by have := h.len x; omega⟩
end

theorem get_put {κ : Type} [DecidableEq κ] (m : List (κ × Value)) (x y : κ) (v : Value) : getM (putM m x v) y = if y = x then some v else getM m y := by
  unfold putM
  by_cases hm : x ∈ m.map (·.1)
  · rw [if_pos hm]
    unfold getM
    induction m with
    | nil => simp at hm
    | cons p m ih =>
      rw [List.map_cons, List.find?_cons, List.find?_cons]
      by_cases e : p.1 = x
      · rw [if_pos e]
        by_cases hy : y = x
        · subst hy; simp
        · have : ¬ x = y := fun h => hy h.symm
          rw [if_neg hy, decide_eq_false this, e, decide_eq_false this]
          dsimp only
          by_cases hm2 : x ∈ m.map (·.1)
          · have := ih hm2; rw [if_neg hy] at this; exact this
          · have e2 : m.map (fun p => if p.1 = x then (x, v) else p) = m := by
              conv => rhs; rw [← List.map_id m]
              refine List.map_congr_left fun q hq => ?_
              have : q.1 ≠ x := fun h => hm2 (List.mem_map.2 ⟨q, hq, h⟩)
              rw [if_neg this]; rfl
            rw [e2]
      · rw [if_neg e]
        by_cases hy : p.1 = y
        · rw [decide_eq_true hy]
          have : ¬ y = x := fun h => e (hy.trans h)
          rw [if_neg this]
        · rw [decide_eq_false hy]
          rw [List.map_cons, List.mem_cons] at hm
          exact ih (hm.resolve_left (fun h => e h.symm))
  · rw [if_neg hm]
    unfold getM
    rw [List.find?_append]
    by_cases hy : y = x
    · subst hy
      have : m.find? (fun p => decide (p.1 = y)) = none := List.find?_eq_none.2 fun p hp => by
        simpa using fun h => hm (List.mem_map.2 ⟨p, hp, h⟩)
      rw [this, if_pos rfl]; simp
    · rw [if_neg hy]
      cases h : m.find? (fun p => decide (p.1 = y)) with
      | some q => rfl
      | none =>
        have : ¬ x = y := fun h => hy h.symm
        simp [this]

/-- a map of slices of ints, each in a row of its own -/
def Grp (w : World) (B b : Nat) (gi : Int → List Int) (m : List (Int × Value)) : Prop :=
  MapV encI okI w b m ∧ (∀ x, getM m x = none → gi x = []) ∧ (∀ x v, getM m x = some v → w.ownsRow B 3 1 v (gi x).length ((gi x).map (Value.int .i64))) ∧
    ∀ x y v u, getM m x = some v → getM m y = some u → x ≠ y → ∀ k, v.ownBlock = some k → u.ownBlock ≠ some k
theorem Grp.made {w : World} {B b : Nat} (h : MapV encI okI w b []) : Grp w B b (fun _ => []) [] := ⟨h, fun _ _ => rfl, by simp [getM], by simp [getM]⟩
theorem Grp.own {w : World} {B b : Nat} {gi : Int → List Int} {m : List (Int × Value)} (h : Grp w B b gi m) (x : Int) : w.ownsRow B 3 1 ((getM m x).getD (.slice none 0 0)) (gi x).length ((gi x).map (Value.int .i64)) := by
  rcases hx : getM m x with _ | v
  · rw [h.2.1 x hx]; exact World.ownsRow_nil _ _ _ _
  · exact h.2.2.1 x v hx
theorem Grp.put {w w2 w3 : World} {B b : Nat} {gi : Int → List Int} {m : List (Int × Value)} (h : Grp w B b gi m) {x i : Int} {v' : Value} (hg : w.grownBy w2 ((getM m x).getD (.slice none 0 0)).ownBlock)
    (ho : w2.ownsRow B 3 1 v' ((gi x).length + 1) ((gi x ++ [i]).map (Value.int .i64))) (hl : v'.ownBlock = ((getM m x).getD (.slice none 0 0)).ownBlock ∨ ∀ k, v'.ownBlock = some k → w.heap.size ≤ k)
    (hM : MapV encI okI w3 b (putM m x v')) (hg3 : w2.grownBy w3 (some b)) (hb : b < B) : Grp w3 B b (updG gi x i) (putM m x v') := by
  have keep3 : ∀ (v : Value) (n : Nat) (l : List Value), w2.ownsRow B 3 1 v n l → w3.ownsRow B 3 1 v n l := fun v n l h => h.kept hg3 (by
    rcases hv : v.ownBlock with _ | k
    · exact .inl rfl
    · right; intro e; injection e with e; have := (h.lt k hv).1; omega)
  have other : ∀ y u, y ≠ x → getM m y = some u → w3.ownsRow B 3 1 u (gi y).length ((gi y).map (Value.int .i64)) := fun y u hne hu => by
    refine keep3 _ _ _ ((h.2.2.1 y u hu).kept hg ?_)
    rcases hv : u.ownBlock with _ | k
    · exact .inl rfl
    · right
      intro e
      rcases hx : getM m x with _ | v
      · rw [hx] at e; simp [Value.ownBlock] at e
      · rw [hx] at e
        exact h.2.2.2 x y v u hx hu (Ne.symm hne) k e.symm hv
  have far : ∀ y u k, y ≠ x → getM m y = some u → v'.ownBlock = some k → u.ownBlock ≠ some k := fun y u k hne hu hk e => by
    rcases hl with hl | hl
    · rcases hx : getM m x with _ | v
      · rw [hl, hx] at hk; simp [Value.ownBlock] at hk
      · rw [hl, hx] at hk
        exact h.2.2.2 x y v u hx hu (Ne.symm hne) k hk e
    · have h1 := hl k hk
      have h2 := ((h.2.2.1 y u hu).lt k e).2
      omega
  refine ⟨hM, fun y hy => ?_, fun y u hu => ?_, fun y z u t hu ht hne k hk => ?_⟩
  · rw [get_put] at hy
    unfold updG
    split at hy
    · cases hy
    · rename_i hn; rw [if_neg hn]; exact h.2.1 y hy
  · rw [get_put] at hu
    unfold updG
    split at hu
    · rename_i e; cases hu; subst e; rw [if_pos rfl]
      have := keep3 _ _ _ ho
      simpa using this
    · rename_i e; rw [if_neg e]; exact other y u e hu
  · rw [get_put] at hu ht
    split at hu
    · rename_i ey; cases hu
      split at ht
      · rename_i ez; exact absurd (ey.trans ez.symm) hne
      · rename_i ez; exact far z t k ez ht hk
    · rename_i ey
      split at ht
      · cases ht; exact fun e => far y u k ey hu e hk
      · exact h.2.2.2 y z u t hu ht hne k hk

end Go.Proofs.Ytmaogkgjiplckaa
