import Derived.Test.YtmaogkgjiplckaaLM
import Derived.Maps.RangeRun
import Derived.Maps.RangeWalk
set_option linter.unusedSimpArgs false
set_option linter.unusedVariables false
namespace Go.Proofs.Ytmaogkgjiplckaa
open Go.RowKit

section
variable {P : Program} {κ : Type} {enc : κ → Value} {ok : κ → Prop} {k e t : TypeId}
open Go.ChangeMaps (setBlock heap_setBlock_same heap_setBlock_other)
open Go.ChangeShapes Go.WideShapes

theorem MapV.len {w : World} {b : Nat} {m : List (κ × Value)} (h : MapV enc ok w b m) (ht : P.underlying t = some (.map k e)) (ty : TypeId) : (Builtin.len_ #[t] ty #[.map (some b)]).run P w = .ok (.int .i64 m.length) w := by
  obtain ⟨es, clock, hb, he, _⟩ := h
  have : es.size = m.length := by have := congrArg List.length he; simpa using this
  rw [← this]
  simp [Builtin.len_, run_underlying ht, MapKept.run_getObj_map hb, goInt, Result.andThen]

theorem map_erIdx {α β : Type} (f : α → β) : ∀ (l : List α) (j : Nat), (l.eraseIdx j).map f = (l.map f).eraseIdx j := by
  intro l
  induction l with
  | nil => intro j; rfl
  | cons x l ih => intro j; cases j with
    | zero => rfl
    | succ j => simp [ih]
def remM [DecidableEq κ] (m : List (κ × Value)) (x : κ) : List (κ × Value) := m.filter fun p => decide (p.1 ≠ x)
theorem eraseIdx_rem [DecidableEq κ] {m : List (κ × Value)} (hn : (m.map (·.1)).Nodup) {x : κ} {v : Value} : ∀ {j : Nat}, m[j]? = some (x, v) → m.eraseIdx j = remM m x := by
  induction m with
  | nil => intro j hj; simp at hj
  | cons q m ih =>
    intro j hj
    rw [List.map_cons, List.nodup_cons] at hn
    rcases j with _ | j
    · simp only [List.getElem?_cons_zero, Option.some.injEq] at hj
      subst hj
      unfold remM
      rw [List.eraseIdx_cons_zero, List.filter_cons, if_neg (by simp), List.filter_eq_self.2]
      intro p hp
      simp only [ne_eq, decide_not, Bool.not_eq_eq_eq_not, Bool.not_true, decide_eq_false_iff_not]
      exact fun e => hn.1 (List.mem_map.2 ⟨p, hp, e⟩)
    · simp only [List.getElem?_cons_succ] at hj
      unfold remM
      have hne : q.1 ≠ x := fun e => hn.1 (List.mem_map.2 ⟨_, List.mem_of_getElem? hj, e.symm⟩)
      rw [List.eraseIdx_cons_succ, List.filter_cons, if_pos (by simpa using hne), ih hn.2 hj]
      rfl
theorem MapV.delete [DecidableEq κ] {w : World} {b : Nat} {m : List (κ × Value)} (h : MapV enc ok w b m) (K : KeyE P k enc ok) (ht : P.underlying t = some (.map k e)) {x : κ} (hx : ok x) (ty : TypeId) :
    ∃ w', (Builtin.delete_ #[t, k] ty #[.map (some b), enc x]).run P w = .ok (.tuple #[]) w' ∧ MapV enc ok w' b (remM m x) ∧ w.grownBy w' (some b) := by
  obtain ⟨es, clock, hb, he, hn, ho, hp, hc⟩ := h
  obtain ⟨lx, hlx⟩ := K.key x hx
  have hg : ∀ o, w.grownBy (setBlock w b o) (some b) := fun o => ⟨rfl, rfl, rfl, by simp [setBlock], fun i _ hi => heap_setBlock_other hb _ (fun e => hi (by rw [e]))⟩
  rcases MapV.find K he hn ho hx w with ⟨h1, h2, h3⟩ | ⟨j, v0, h1, h2, h3⟩
  · have hself : remM m x = m := by
      unfold remM
      rw [List.filter_eq_self]
      intro p hp
      simpa using fun e => h3 (List.mem_map.2 ⟨p, hp, e⟩)
    refine ⟨setBlock w b (.map es clock), ?_, ⟨_, _, heap_setBlock_same hb _, ?_⟩, hg _⟩
    · simp [Builtin.delete_, run_underlying ht, MapKept.run_getObj_map hb, K.law.check w _ hlx, h1, MapKept.run_setObj_map _ hb, Result.andThen, setBlock]
    · rw [hself]; exact ⟨he, hn, ho, hp, hc⟩
  · have hl : j < es.size := by
      have h5 := congrArg List.length he
      have h6 := (List.getElem?_eq_some_iff.1 h3).1
      simp at h5; omega
    have hto : (es.eraseIdxIfInBounds j).toList = es.toList.eraseIdx j := by simp [Array.eraseIdxIfInBounds, hl]
    refine ⟨setBlock w b (.map (es.eraseIdxIfInBounds j) clock), ?_, ⟨_, _, heap_setBlock_same hb _, ?_, ?_, ?_, ?_, ?_⟩, hg _⟩
    · simp [Builtin.delete_, run_underlying ht, MapKept.run_getObj_map hb, K.law.check w _ hlx, h1, MapKept.run_setObj_map _ hb, Result.andThen, setBlock]
    · rw [hto, ← eraseIdx_rem hn h3, map_erIdx, map_erIdx, he]
    · rw [← eraseIdx_rem hn h3, map_erIdx]
      exact hn.sublist (List.eraseIdx_sublist _ _)
    · intro p hp
      exact ho p (List.mem_filter.1 hp).1
    · rw [hto, map_erIdx]
      exact hp.sublist (List.eraseIdx_sublist _ _)
    · intro e0 he0
      rw [hto] at he0
      exact hc e0 ((List.eraseIdx_sublist _ _).subset he0)
end

/-! the operations -/
section
variable {P : Program} {κ : Type} [DecidableEq κ] {enc : κ → Value} {ok : κ → Prop} {k e t : TypeId} {ops : Array Oper} {rest : List Oper} {o : Oper} {a : Act} {w : World} {Q : Exit → Act → World → Prop}
theorem wl_lookup (hgd : o.guard = none) (m x : Operand) (t : TypeId) (c : Bool) (hop : o.op = Op.lookup t m x c) (k e : TypeId) (K : KeyE P k enc ok) (ht : P.underlying t = some (.map k e)) (z : Value) (hz : (zeroValue e).run P w = .ok z w)
    (b : Nat) (M : List (κ × Value)) (hm : a.eval m = .map (some b)) (hM : MapV enc ok w b M) (y : κ) (hx : a.eval x = enc y) (hy : ok y)
    (h : wpList P ops Q rest (a.put o.dst (if c then .tuple #[(getM M y).getD z, .bool (getM M y).isSome] else (getM M y).getD z)) w) : wpList P ops Q (o :: rest) a w :=
  wpList_plain hgd fun _ hK => by
    unfold Oper.wp
    simp only [execOp, hop, hm, hx, Sem.run_bind, hM.lookup K ht hz hy c, Result.andThen_ok]
    exact hK _ _ h
theorem wl_mapUpdate (hgd : o.guard = none) (m x v : Operand) (t : TypeId) (hop : o.op = Op.mapUpdate t m x v) (k e : TypeId) (K : KeyE P k enc ok) (ht : P.underlying t = some (.map k e))
    (b : Nat) (M : List (κ × Value)) (hm : a.eval m = .map (some b)) (hM : MapV enc ok w b M) (y : κ) (hx : a.eval x = enc y) (hy : ok y) (u : Value) (hv : a.eval v = u)
    (h : ∀ w', MapV enc ok w' b (putM M y u) → w.grownBy w' (some b) → wpList P ops Q rest (a.put o.dst undef) w') : wpList P ops Q (o :: rest) a w :=
  wpList_plain hgd fun _ hK => by
    obtain ⟨w', hr, h1, h2⟩ := hM.update K ht hy u
    unfold Oper.wp
    simp only [execOp, hop, hm, hx, hv, Sem.run_bind, hr, Result.andThen_ok]
    exact hK _ _ (h w' h1 h2)
theorem wl_delete (hgd : o.guard = none) (m x : Operand) (t k : TypeId) (hop : o.op = Op.call { callee := Callee.builtin Builtin.delete, args := #[m, x], argTypes := #[t, k] }) (e : TypeId) (K : KeyE P k enc ok) (ht : P.underlying t = some (.map k e))
    (b : Nat) (M : List (κ × Value)) (hm : a.eval m = .map (some b)) (hM : MapV enc ok w b M) (y : κ) (hx : a.eval x = enc y) (hy : ok y)
    (h : ∀ w', MapV enc ok w' b (remM M y) → w.grownBy w' (some b) → wpList P ops Q rest (a.put o.dst (.tuple #[])) w') : wpList P ops Q (o :: rest) a w :=
  wpList_plain hgd fun _ hK => by
    obtain ⟨w', hr, h1, h2⟩ := hM.delete K ht hy o.type
    unfold Oper.wp
    simp [execOp, hop, resolve, invoke, builtin, hm, hx, hr, Result.andThen]
    exact hK _ _ (h w' h1 h2)
theorem wl_len {κ : Type} {enc : κ → Value} {ok : κ → Prop} (hgd : o.guard = none) (m : Operand) (t : TypeId) (hop : o.op = Op.call { callee := Callee.builtin Builtin.len, args := #[m], argTypes := #[t] }) (k e : TypeId) (ht : P.underlying t = some (.map k e))
    (b : Nat) (M : List (κ × Value)) (hm : a.eval m = .map (some b)) (hM : MapV enc ok w b M)
    (h : wpList P ops Q rest (a.put o.dst (.int .i64 M.length)) w) : wpList P ops Q (o :: rest) a w :=
  wpList_plain hgd fun _ hK => by
    unfold Oper.wp
    simp [execOp, hop, resolve, invoke, builtin, hm, hM.len ht o.type, Result.andThen]
    exact hK _ _ h
end

end Go.Proofs.Ytmaogkgjiplckaa
