import Derived.Test.YtmaogkgjiplckaaL
set_option linter.unusedSimpArgs false
set_option linter.unusedVariables false
namespace Go.Proofs.Ytmaogkgjiplckaa
open Go.RowKit

section
variable {P : Program} {κ : Type} [DecidableEq κ] {enc : κ → Value} {ok : κ → Prop} {k e t : TypeId}
open Go.ChangeMaps (setBlock heap_setBlock_same heap_setBlock_other)
open Go.ChangeShapes Go.WideShapes

theorem MapV.lookup {w : World} {b : Nat} {m : List (κ × Value)} (h : MapV enc ok w b m) (K : KeyE P k enc ok) (ht : P.underlying t = some (.map k e)) {z : Value} (hz : (zeroValue e).run P w = .ok z w) {x : κ} (hx : ok x) (c : Bool) :
    (Instr.lookup t (.map (some b)) (enc x) c).run P w = .ok (if c then .tuple #[(getM m x).getD z, .bool (getM m x).isSome] else (getM m x).getD z) w := by
  obtain ⟨es, clock, hb, he, hn, ho, _⟩ := h
  obtain ⟨lx, hlx⟩ := K.key x hx
  rcases MapV.find K he hn ho hx w with ⟨h1, h2, _⟩ | ⟨j, v, h1, h2, _⟩
  · rw [h2]
    simp [Instr.lookup, run_underlying ht, MapKept.run_getObj_map hb, K.law.check w _ hlx, h1, hz, Result.andThen]
  · rw [h2]
    simp [Instr.lookup, run_underlying ht, MapKept.run_getObj_map hb, K.law.check w _ hlx, h1, Result.andThen]

theorem nodup_idx {α : Type} {l : List α} (h : l.Nodup) {i j : Nat} {x : α} (hi : l[i]? = some x) (hj : l[j]? = some x) : i = j := by
  obtain ⟨hi', ei⟩ := List.getElem?_eq_some_iff.1 hi
  obtain ⟨hj', ej⟩ := List.getElem?_eq_some_iff.1 hj
  have hp := List.pairwise_iff_getElem.1 h
  rcases Nat.lt_trichotomy i j with hlt | rfl | hlt
  · exact absurd (ei.trans ej.symm) (hp i j hi' hj' hlt)
  · rfl
  · exact absurd (ej.trans ei.symm) (hp j i hj' hi' hlt)
theorem mod_ne {α : Type} (l : List α) (f : α → α) {j i : Nat} (h : j ≠ i) : (l.modify j f)[i]? = l[i]? := by rw [List.getElem?_modify]; simp [h]
theorem mod_eq {α : Type} (l : List α) (f : α → α) (j : Nat) : (l.modify j f)[j]? = (l[j]?).map f := by rw [List.getElem?_modify]; simp

theorem MapV.update {w : World} {b : Nat} {m : List (κ × Value)} (h : MapV enc ok w b m) (K : KeyE P k enc ok) (ht : P.underlying t = some (.map k e)) {x : κ} (hx : ok x) (v : Value) :
    ∃ w', (Instr.mapUpdate t (.map (some b)) (enc x) v).run P w = .ok () w' ∧ MapV enc ok w' b (putM m x v) ∧ w.grownBy w' (some b) := by
  obtain ⟨es, clock, hb, he, hn, ho, hp, hc⟩ := h
  obtain ⟨lx, hlx⟩ := K.key x hx
  have hg : ∀ o, w.grownBy (setBlock w b o) (some b) := fun o => ⟨rfl, rfl, rfl, by simp [setBlock], fun i _ hi => heap_setBlock_other hb _ (fun e => hi (by rw [e]))⟩
  rcases MapV.find K he hn ho hx w with ⟨h1, h2, h3⟩ | ⟨j, v0, h1, h2, h3⟩
  · refine ⟨setBlock w b (.map (es.push { key := enc x, val := v, born := clock }) (clock + 1)), ?_, ⟨_, _, heap_setBlock_same hb _, ?_, ?_, ?_, ?_, ?_⟩, hg _⟩
    · simp [Instr.mapUpdate, run_underlying ht, MapKept.run_getObj_map hb, K.law.check w _ hlx, h1, MapKept.run_setObj_map _ hb, Result.andThen, setBlock]
    · unfold putM; rw [if_neg h3]; simp [he]
    · unfold putM; rw [if_neg h3]
      rw [List.map_append]
      refine List.nodup_append.2 ⟨hn, by simp, fun a ha c hc => ?_⟩
      simp at hc
      subst hc
      exact fun e => h3 (e ▸ ha)
    · unfold putM; rw [if_neg h3]
      intro p hp
      rcases List.mem_append.1 hp with hp | hp
      · exact ho p hp
      · simp at hp; subst hp; exact hx
    · rw [Array.toList_push, List.map_append]
      refine List.pairwise_append.2 ⟨hp, by simp, fun a ha c hc' => ?_⟩
      simp at hc'
      subst hc'
      obtain ⟨e0, he0, rfl⟩ := List.mem_map.1 ha
      exact hc e0 he0
    · intro e0 he0
      rw [Array.toList_push] at he0
      rcases List.mem_append.1 he0 with he0 | he0
      · have := hc e0 he0; omega
      · simp at he0; subst he0; simp
  · have hmem : x ∈ m.map (·.1) := List.mem_map.2 ⟨_, List.mem_of_getElem? h3, rfl⟩
    have hj : ∃ e0, es.toList[j]? = some e0 ∧ e0.key = enc x := by
      have h5 : (m.map (fun p => (enc p.1, p.2)))[j]? = some (enc x, v0) := by rw [List.getElem?_map, h3]; rfl
      rw [← he, List.getElem?_map] at h5
      rcases hm : es.toList[j]? with _ | e0
      · rw [hm] at h5; simp at h5
      · rw [hm] at h5
        simp only [Option.map_some, Option.some.injEq, Prod.mk.injEq] at h5
        exact ⟨e0, rfl, h5.1⟩
    obtain ⟨e0, hj, hk0⟩ := hj
    have hj' : es[j]? = some e0 := by simpa using hj
    have hl : j < es.size := (Array.getElem?_eq_some_iff.1 hj').1
    have hset : (es.modify j fun e => { e with key := enc x, val := v }).toList = es.toList.modify j fun e => { e with key := enc x, val := v } := by simp
    refine ⟨setBlock w b (.map (es.modify j fun e => { e with key := enc x, val := v }) clock), ?_, ⟨_, _, heap_setBlock_same hb _, ?_, ?_, ?_, ?_, ?_⟩, hg _⟩
    · simp [Instr.mapUpdate, run_underlying ht, MapKept.run_getObj_map hb, K.law.check w _ hlx, h1, hj', hk0, K.law.stays w hlx, MapKept.run_setObj_map _ hb, Result.andThen, setBlock]
    · unfold putM; rw [if_pos hmem, hset]
      apply List.ext_getElem?
      intro i
      have hi := congrArg (fun l => l[i]?) he
      simp only [List.getElem?_map] at hi
      rw [List.getElem?_map, List.getElem?_map, List.getElem?_map]
      by_cases e : j = i
      · subst e
        rw [mod_eq, hj, h3]
        simp
      · rw [mod_ne _ _ e, hi]
        rcases hm : m[i]? with _ | p
        · rfl
        · simp only [Option.map_some]
          have hne : p.1 ≠ x := by
            intro e2
            have h6 : (m.map (·.1))[i]? = some x := by rw [List.getElem?_map, hm]; simp [e2]
            have h7 : (m.map (·.1))[j]? = some x := by rw [List.getElem?_map, h3]; rfl
            exact e (nodup_idx hn h7 h6)
          rw [if_neg hne]
    · unfold putM; rw [if_pos hmem]
      have : (m.map fun p => if p.1 = x then (x, v) else p).map (·.1) = m.map (·.1) := by
        rw [List.map_map]
        refine List.map_congr_left fun p _ => ?_
        show (if p.1 = x then (x, v) else p).1 = p.1
        split
        · rename_i e; exact e.symm
        · rfl
      rw [this]; exact hn
    · unfold putM; rw [if_pos hmem]
      intro p hp
      obtain ⟨q, hq, rfl⟩ := List.mem_map.1 hp
      split
      · exact hx
      · exact ho q hq
    · have : (es.modify j fun e => { e with key := enc x, val := v }).toList.map (·.born) = es.toList.map (·.born) := by
        rw [hset]
        apply List.ext_getElem?
        intro i
        rw [List.getElem?_map, List.getElem?_map]
        by_cases e : j = i
        · subst e; rw [mod_eq, hj]; simp
        · rw [mod_ne _ _ e]
      rw [this]; exact hp
    · intro e1 he1
      rw [hset] at he1
      obtain ⟨i, hi⟩ := List.mem_iff_getElem?.1 he1
      by_cases e : j = i
      · subst e; rw [mod_eq, hj] at hi; simp at hi; subst hi; exact hc e0 (List.mem_of_getElem? hj)
      · rw [mod_ne _ _ e] at hi
        exact hc e1 (List.mem_of_getElem? hi)
end

end Go.Proofs.Ytmaogkgjiplckaa
