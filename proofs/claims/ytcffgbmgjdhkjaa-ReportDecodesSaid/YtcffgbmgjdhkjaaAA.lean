import Derived.Test.YtcffgbmgjdhkjaaZ
set_option linter.unusedSimpArgs false
set_option linter.unusedVariables false
namespace Go.Proofs.Ytcffgbmgjdhkjaa
open Go.RowKit

theorem SlIs.casesN {α : Type} {s : Nat} {f : α → List Value} {w : World} {v : Value} {ls : List α} (h : SlIs s f w v ls) :
    (v = .slice none 0 0 ∧ ls = []) ∨ (∃ b o k cap, v = .slice (some ⟨b, o, k⟩) 0 cap ∧ ls = []) ∨ (∃ b o cap, v = .slice (some ⟨b, o, none⟩) ls.length cap ∧ 0 < ls.length ∧ ls.length ≤ cap ∧ RowAt s f w b o ls) := by
  obtain ⟨ao, cap, rfl, hc, hn, h4⟩ := h
  by_cases e : ls = []
  · subst e
    rcases ao with _ | ⟨b, o, k⟩
    · left
      have := hn rfl
      subst this
      exact ⟨rfl, rfl⟩
    · exact .inr (.inl ⟨b, o, k, cap, rfl, rfl⟩)
  · obtain ⟨b, o, rfl, hr⟩ := h4 e
    exact .inr (.inr ⟨b, o, cap, rfl, List.length_pos_iff.2 e, hc, hr⟩)

theorem row_add {w : World} {b o : Nat} {l : List Int} (h : RowAt 1 u8c w b o l) : ∀ j u, (u8s l)[j]? = some u → w.cell? ((⟨b, o, none⟩ : Addr).add j) = some u := by
  intro j u hj
  simp only [u8s, List.getElem?_map, Option.map_eq_some_iff] at hj
  obtain ⟨y, hy, rfl⟩ := hj
  have := h j y hy 0 _ rfl
  rcases j with _ | j
  · simpa [Addr.add] using this
  · simpa [Addr.add] using this
theorem u8s_flat (l : List Int) : l.flatMap u8c = u8s l := by
  induction l with
  | nil => rfl
  | cons a l ih => rw [List.flatMap_cons, ih]; rfl

section
variable {P : Program} {w : World}
theorem wl_append_zero {ops : Array Oper} {rest : List Oper} {o : Oper} {a : Act} {Q : Exit → Act → World → Prop} (hgd : o.guard = none) (s x : Operand) (t : TypeId)
    (ho : o.op = .call { callee := .builtin .append, args := #[s, x], argTypes := #[t, t] })
    (e : TypeId) (i : TypeInfo) (ht : P.underlying t = some (.slice e)) (hi : P.info? e = some i)
    (g n cap : Nat) (hs : a.eval s = .slice (some ⟨g, 0, none⟩) n cap) (hnc : n ≤ cap) (ao : Option Addr) (c : Nat) (hx : a.eval x = .slice ao 0 c)
    (h : wpList P ops Q rest (a.put o.dst (.slice (some ⟨g, 0, none⟩) n cap)) w) : wpList P ops Q (o :: rest) a w :=
  wpList_plain hgd fun _ hK => by
    unfold Oper.wp execOp
    simp only [ho, resolve, invoke, builtin, Sem.run_bind, Sem.run_pure, Result.andThen_ok, List.map_toArray, List.map_cons, List.map_nil, hs, hx, run_append_zero w t o.type e i ht hi g n cap hnc ao c]
    exact hK _ _ h
theorem wl_append_owns {ops : Array Oper} {rest : List Oper} {o : Oper} {a : Act} {Q : Exit → Act → World → Prop} (hgd : o.guard = none) (s x : Operand) (t : TypeId)
    (ho : o.op = .call { callee := .builtin .append, args := #[s, x], argTypes := #[t, t] })
    (base : Nat) (i : TypeInfo) (ht : P.underlying t = some (.slice 5)) (hi : P.info? 5 = some i) (hz : i.zero = some (.int .u8 0)) (hsize : i.size = 1) (hby : i.bytes = 1)
    (v : Value) (bs : List Int) (hs : a.eval s = v) (hown : Owns w base v bs)
    (ad : Addr) (m c : Nat) (cs : List Int) (hx : a.eval x = .slice (some ad) m c) (hl : cs.length = m) (hnews : ∀ j u, (u8s cs)[j]? = some u → w.cell? (ad.add j) = some u)
    (hm : 0 < m) (h63 : bs.length + m ≤ 2000000000) (hbase : base ≤ w.heap.size)
    (h : ∀ v' w', w'.ownsRow base 5 1 v' (bs ++ cs).length (u8s (bs ++ cs)) → w.grownBy w' v.ownBlock → wpList P ops Q rest (a.put o.dst v') w') : wpList P ops Q (o :: rest) a w := by
  obtain ⟨g, c2, w', hr, h2, h3, h5⟩ := run_append_owns (P := P) w t o.type base i ht hi hz hsize hby v bs hown _ m c cs hl hnews hm h63 hbase
  refine wpList_plain hgd fun _ hK => ?_
  unfold Oper.wp execOp
  simp only [ho, resolve, invoke, builtin, Sem.run_bind, Sem.run_pure, Result.andThen_ok, List.map_toArray, List.map_cons, List.map_nil, hs, hx, hr]
  exact hK _ _ (h _ _ (by rw [u8s_append, List.length_append, hl]; exact h2) h3)
end

set_option maxRecDepth 100000 in
set_option maxHeartbeats 400000 in
theorem clone_any (v : Value) (b : List Int) (w : World) (h : SlIs 1 u8c w v b) (hl : b.length ≤ 1000000) :
    Calls Try.prog 48 #[v] w fun e w' => ∃ v', e = .returned v' ∧ SlT 5 1 u8c w' v' b ∧ Below w.heap.size w w' := by
  obtain ⟨i0, hi0, hz0, hz1, hz2⟩ := info_parts info5
  have q28 : ∀ (w : World) (a : Option Addr) (n c n' c' : Nat), (binOp .eql 28 (.slice a n c) (.slice none n' c')).run Try.prog w = .ok (.bool a.isNone) w := fun w a n c n' c' => Lib.run_eql_slice_nil w _ _ a n c n' c' Try.underlying28
  rcases h.casesN with ⟨rfl, rfl⟩ | ⟨bb, o, k, cap, rfl, rfl⟩ | ⟨bb, o, cap, rfl, hp, hc, HR⟩
  · go_enter Try.func48, Try.ntmps48
    (repeat (first | with_reducible refine xThenN ?_ | with_reducible refine xThenE ?_ | with_reducible refine xThenR ?_ | with_reducible refine xThenP ?_ | with_reducible refine xBlockEq ?_ | with_reducible refine xBlockNe rfl ?_ | with_reducible refine xBlockN ?_ | with_reducible refine xBlockR ?_ | with_reducible refine xBlockP ?_ | go_values | go_skip | go_guarded | go_step | go_upon | go_back | (dsimp only)))
    go_ret
    exact ⟨_, rfl, ⟨none, 0, rfl, by simp, by simp, by simp⟩, Below.refl _ _⟩
  · go_enter Try.func48, Try.ntmps48
    (repeat (first | with_reducible refine xThenN ?_ | with_reducible refine xThenE ?_ | with_reducible refine xThenR ?_ | with_reducible refine xThenP ?_ | with_reducible refine xBlockEq ?_ | with_reducible refine xBlockNe rfl ?_ | with_reducible refine xBlockN ?_ | with_reducible refine xBlockR ?_ | with_reducible refine xBlockP ?_ | (at_builtin; refine wl_append_zero rfl _ _ 28 rfl 5 i0 Try.underlying28 hi0 w.heap.size 0 0 (by rfl) (Nat.le_refl _) _ _ (by rfl) ?_; (try simp only [Act.put, List.setIfInBounds_toArray, List.set_cons_succ, List.set_cons_zero])) | go_values | go_skip | go_guarded | go_step | go_upon | go_back | (dsimp only)))
    go_ret
    exact ⟨_, rfl, ⟨_, 0, rfl, by simp, by simp, by simp⟩, by (repeat (first | with_reducible exact Below.refl _ _ | assumption | with_reducible refine below_drewN ?_ _ | with_reducible refine Below.drew ?_ | with_reducible refine Below.setRow ?_ ?_ _ | with_reducible refine Below.alloc ?_ ?_ _ | with_reducible refine Below.setCell ?_ ?_ _ | with_reducible exact Nat.le_refl _ | (focus (simp; done)) | (focus (simp; omega)) | omega))⟩
  · go_enter Try.func48, Try.ntmps48
    (repeat (first | with_reducible refine xThenN ?_ | with_reducible refine xThenE ?_ | with_reducible refine xThenR ?_ | with_reducible refine xThenP ?_ | with_reducible refine xBlockEq ?_ | with_reducible refine xBlockNe rfl ?_ | with_reducible refine xBlockN ?_ | with_reducible refine xBlockR ?_ | with_reducible refine xBlockP ?_ | (at_builtin; refine wl_append_owns rfl _ _ 28 rfl w.heap.size i0 Try.underlying28 hi0 hz0 hz1 hz2 (.slice (some ⟨w.heap.size, 0, none⟩) 0 0) [] (by rfl) (.inl (World.ownsRow_made w #[] 0 (Nat.le_refl _) (by decide) rfl)) ⟨bb, o, none⟩ b.length cap b (by rfl) rfl (row_add (HR.below (by (repeat (first | with_reducible exact Below.refl _ _ | assumption | with_reducible refine below_drewN ?_ _ | with_reducible refine Below.drew ?_ | with_reducible refine Below.setRow ?_ ?_ _ | with_reducible refine Below.alloc ?_ ?_ _ | with_reducible refine Below.setCell ?_ ?_ _ | with_reducible exact Nat.le_refl _ | (focus (simp; done)) | (focus (simp; omega)) | omega))))) hp (by simp; omega) (by simp) ?_; intro v2 w2 hO hg2; (try simp only [Act.put, List.setIfInBounds_toArray, List.set_cons_succ, List.set_cons_zero])) | go_values | go_skip | go_guarded | go_step | go_upon | go_back | (dsimp only)))
    go_ret
    refine ⟨_, rfl, ?_, Below.grown (Below.alloc (Below.refl _ _) (Nat.le_refl _) _) hg2 (by simp) (fun k hk => by simp [Value.ownBlock] at hk; omega)⟩
    exact SlT.ofOwns (f := u8c) (s := 1) (fun _ => rfl) (base := w.heap.size) (by rw [u8s_flat]; exact hO)

end Go.Proofs.Ytcffgbmgjdhkjaa
