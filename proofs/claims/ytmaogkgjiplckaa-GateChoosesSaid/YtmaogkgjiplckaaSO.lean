import Derived.Test.YtmaogkgjiplckaaSN
set_option linter.unusedSimpArgs false
set_option linter.unusedVariables false
namespace Go.Proofs.Ytmaogkgjiplckaa
open Go.RowKit
theorem chooseG_ok {g : G} {fr : List Int} {s : Nat → Bool} (hI : GI g fr s) {c : Int} (hc : isL g.n c) {xs ys : List Int} (hx : ∀ x ∈ xs, isL g.n x) (hy : ∀ y ∈ ys, isL g.n y) (hl : xs.length = ys.length) :
    WAns g fr s (3 * xs.length) (chooseG g c xs ys) (if lit s c then xs.map (lit s) else ys.map (lit s)) := by
  have h := zip_ok (f := fun g x y => choice g c x y) (k := 3) (b := fun p _ => p) (c := c) fr (fun g s x y a b d e => choice_ok a b d e) xs ys g s hI hc hx hy hl
  have e : (((xs.map (lit s)).zip (ys.map (lit s))).map fun p => if lit s c then p.1 else p.2) = if lit s c then xs.map (lit s) else ys.map (lit s) := by
    cases lit s c
    · simp only [Bool.false_eq_true, if_false]
      exact List.map_snd_zip (by simp; omega)
    · simp only [if_true]
      exact List.map_fst_zip (by simp; omega)
  rw [e] at h
  exact h
theorem wordB_ok {n N : Nat} {l : List Int} (h1 : 1 ≤ N) (h2 : N ≤ 64) (hl : l.length = N) (h : ∀ x ∈ l, isL n x) : wordB n N l = true := by
  unfold wordB
  rw [decide_eq_true ⟨by omega, by omega, by omega⟩, allL_iff.2 h]; rfl
theorem choose_law {X : Nat → Prop} {base gb : Nat} {g : G} {fr : List Int} {s : Nat → Bool} (w : World) (hG : GR X base w gb g) (hba : base ≤ w.heap.size) (c : Int) (N : Nat) (a1 a2 : Option Addr) (c1 c2 : Nat) (xs ys : List Int) (hxl : xs.length = N) (hyl : ys.length = N) (hX : SlX X w (.slice a1 N c1) xs) (hY : SlX X w (.slice a2 N c2) ys)
    (h1 : 1 ≤ N) (h64 : N ≤ 64) (hn : g.n + 192 ≤ 1048576) (hI : GI g fr s) (hc : isL g.n c) (hx : ∀ x ∈ xs, isL g.n x) (hy : ∀ y ∈ ys, isL g.n y) (r : G × List Int) (hr : Hid (chooseG g c xs ys = r)) :
    Calls Try.prog 13 #[.pointer (some ⟨gb, 0, none⟩), .int .i64 c, .slice a1 N c1, .slice a2 N c2] w fun e w' => ∃ q, e = .returned (.slice (some ⟨q, 0, none⟩) N N) ∧ OwnI w' q N r.2 ∧ w.heap.size ≤ q ∧ GR (fun k => X k ∨ k = q) base w' gb r.1 ∧ Kept X w w' := by
  have h := Choose_any w hG hba c _ _ xs ys hX hY (by omega) (by omega) hn hI (some r) (Lib.hid (by
    unfold ChooseR
    rw [allL_iff.2 (by intro x hx; rw [List.mem_singleton] at hx; subst hx; exact hc), List.all_cons, List.all_cons, List.all_nil, hxl, wordB_ok h1 h64 hxl hx, wordB_ok h1 h64 hyl hy, hr.out]
    rfl))
  rw [hxl] at h
  exact h
theorem free_law {X : Nat → Prop} {base gb : Nat} {g : G} (w : World) (hG : GR X base w gb g) (N : Nat) (x : Int) (hx0 : 0 ≤ x) (hx1 : x < 18446744073709551616) (hN : N ≤ 100) (hn : g.n + N ≤ 1048576) :
    Calls Try.prog 11 #[.pointer (some ⟨gb, 0, none⟩), .int .i64 N, .int .u64 x] w fun e w' => ∃ (a1 a2 : Option Addr) (c1 c2 : Nat) (S : Nat → Prop), e = .returned (.tuple #[.slice a1 N c1, .slice a2 N c2]) ∧ GR (fun k => X k ∨ S k) base w' gb (addV g N) ∧
      SlX (fun k => X k ∨ S k) w' (.slice a1 N c1) (freeL g.n N) ∧ w'.ownsRow w.heap.size 3 1 (.slice a2 N c2) N ((fromL g.n N x.toNat).map (Value.int .i64)) ∧ (∀ k, (Value.slice a2 N c2).ownBlock = some k → S k) ∧ Kept X w w' := by
  refine (free_any w hG N x hx0 hx1 hN hn).mono ?_
  rintro e w' ⟨v, u, rfl, ⟨o1, o2, _, S, hG, h8, h9⟩, hk⟩
  have s1 := SlX.ofOwns (X := fun k => X k ∨ S k) o1 (fun k _ e => .inr (h8 k e.symm))
  obtain ⟨a1, c1, rfl⟩ := s1.shape
  rw [fromL_len] at o2
  rw [freeL_len] at s1
  have hu : ∃ a c, u = .slice a N c := by
    rcases o2.2 with ⟨rfl, h0⟩ | ⟨q, cap, cur, rfl, _⟩
    · exact ⟨none, 0, by rw [h0]⟩
    · exact ⟨_, _, rfl⟩
  obtain ⟨a2, c2, rfl⟩ := hu
  rw [freeL_len]
  exact ⟨a1, a2, c1, c2, S, rfl, hG, s1, o2, h9, hk⟩
theorem OwnI.slx {w : World} {q n : Nat} {l : List Int} (h : OwnI w q n l) : SlX (fun k => k = q) w (.slice (some ⟨q, 0, none⟩) n n) l := by
  obtain ⟨rfl, h⟩ := h
  exact SlX.ofOwns h (fun g _ e => by injection e)

section
variable {ops : Array Oper} {rest : List Oper} {o : Oper} {a : Act} {w : World} {Q : Exit → Act → World → Prop}
/-- a row of ints, appended to one of one's own -/
theorem wl_appendI (hgd : o.guard = none) (s x : Operand) (ho : o.op = .call { callee := .builtin .append, args := #[s, x], argTypes := #[26, 26] }) (base : Nat) (v : Value) (n : Nat) (l : List Int) (hs : a.eval s = v) (hown : w.ownsRow base 3 1 v n (l.map (Value.int .i64))) (b oo m c : Nat) (us : List Int) (hx : a.eval x = .slice (some ⟨b, oo, none⟩) m c) (hm : us.length = m) (hb : RowI w b oo us) (hn : n + m ≤ 1000000000) (hbase : base ≤ w.heap.size)
    (h : ∀ v' w', w'.ownsRow base 3 1 v' (n + m) ((l ++ us).map (Value.int .i64)) → w.grownBy w' v.ownBlock → (v'.ownBlock = v.ownBlock ∨ v'.ownBlock = some w.heap.size) → wpList Try.prog ops Q rest (a.put o.dst v') w') : wpList Try.prog ops Q (o :: rest) a w := by
  obtain ⟨i0, hi0, hz0, hz1, hz2⟩ := info_parts info3
  refine wpList_append_own_at _ hgd s x 26 ho base 3 i0 (.int .i64 0) 1 8 Try.underlying26 hi0 hz0 hz1 hz2 rfl (by decide) v n _ hs hown ⟨b, oo, none⟩ m c (us.map (Value.int .i64)) hx (by simp [hm]) ?_ (by intro u hu; obtain ⟨i, _, rfl⟩ := List.mem_map.1 hu; rfl) (by simp only [maxLen]; omega) (by omega) hbase ?_
  · intro j y hj
    rw [List.getElem?_map] at hj
    rcases hu : us[j]? with _ | i
    · rw [hu] at hj; cases hj
    · rw [hu] at hj
      simp only [Option.map_some, Option.some.injEq] at hj
      subst hj
      have h := hb j i hu
      rcases j with _ | j
      · simpa [Addr.add] using h
      · simpa [Addr.add] using h
  · intro v' w' h1 h2 _ h4
    exact h v' w' (by rw [List.map_append]; exact h1) h2 h4
end

end Go.Proofs.Ytmaogkgjiplckaa
