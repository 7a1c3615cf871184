import Derived.Test.YtmaogkgjiplckaaGH
import Derived.OwnWalk
import Derived.Laws.OwnMore
set_option linter.unusedSimpArgs false
set_option linter.unusedVariables false
namespace Go.Proofs.Ytmaogkgjiplckaa
open Go.RowKit

/-! words, gate by gate -/
def zipG (f : G → Int → Int → G × Int) : G → List Int → List Int → G × List Int
  | g, x :: xs, y :: ys => let r := f g x y; let t := zipG f r.1 xs ys; (t.1, r.2 :: t.2)
  | g, _, _ => (g, [])
theorem zipG_snoc (f : G → Int → Int → G × Int) : ∀ (xs ys : List Int) (g : G) (x y : Int), xs.length = ys.length → zipG f g (xs ++ [x]) (ys ++ [y]) = ((f (zipG f g xs ys).1 x y).1, (zipG f g xs ys).2 ++ [(f (zipG f g xs ys).1 x y).2]) := by
  intro xs
  induction xs with
  | nil => intro ys g x y h; cases ys with
    | nil => rfl
    | cons => simp at h
  | cons a xs ih => intro ys g x y h; cases ys with
    | nil => simp at h
    | cons b ys =>
      simp only [List.length_cons, Nat.add_right_cancel_iff] at h
      simp only [List.cons_append, zipG, ih ys _ x y h]
theorem zipG_len (f : G → Int → Int → G × Int) : ∀ (xs ys : List Int) (g : G), xs.length = ys.length → (zipG f g xs ys).2.length = xs.length := by
  intro xs
  induction xs with
  | nil => intro ys g h; cases ys <;> rfl
  | cons a xs ih => intro ys g h; cases ys with
    | nil => simp at h
    | cons b ys => simp only [List.length_cons, Nat.add_right_cancel_iff] at h; simp [zipG, ih ys _ h]

/-- a word's answer: the later state, its literals, what they are worth -/
def WAns (g : G) (fr : List Int) (s : Nat → Bool) (k : Nat) (r : G × List Int) (bs : List Bool) : Prop :=
  ∃ s', GI r.1 fr s' ∧ Step g s r.1 s' ∧ r.1.n ≤ g.n + k ∧ (∀ x ∈ r.2, isL r.1.n x) ∧ r.2.map (lit s') = bs
theorem step_map {g g' : G} {s s' : Nat → Bool} (h : Step g s g' s') {l : List Int} (hl : ∀ x ∈ l, isL g.n x) : l.map (lit s') = l.map (lit s) := List.map_congr_left fun x hx => h.lit (hl x hx)
theorem zip_ok {f : G → Int → Int → G × Int} {k : Nat} {b : Bool → Bool → Bool} {c : Int} (fr : List Int) (hf : ∀ (g : G) (s : Nat → Bool) (x y : Int), GI g fr s → isL g.n c → isL g.n x → isL g.n y → Ans g fr s k (f g x y) (if lit s c then b (lit s x) (lit s y) else b (lit s y) (lit s x))) :
    ∀ (xs ys : List Int) (g : G) (s : Nat → Bool), GI g fr s → isL g.n c → (∀ x ∈ xs, isL g.n x) → (∀ y ∈ ys, isL g.n y) → xs.length = ys.length →
      WAns g fr s (k * xs.length) (zipG f g xs ys) (((xs.map (lit s)).zip (ys.map (lit s))).map fun p => if lit s c then b p.1 p.2 else b p.2 p.1) := by
  intro xs
  induction xs with
  | nil =>
    intro ys g s hI hc hx hy hl
    cases ys with
    | nil => exact ⟨s, hI, Step.refl _ _, by simp [zipG], by simp [zipG], rfl⟩
    | cons => simp at hl
  | cons x xs ih =>
    intro ys g s hI hc hx hy hl
    cases ys with
    | nil => simp at hl
    | cons y ys =>
      obtain ⟨s1, I1, st1, le1, L1, v1⟩ := hf g s x y hI hc (hx x (by simp)) (hy y (by simp))
      simp only [List.length_cons, Nat.add_right_cancel_iff] at hl
      have hxs : ∀ a ∈ xs, isL g.n a := fun a ha => hx a (by simp [ha])
      have hys : ∀ a ∈ ys, isL g.n a := fun a ha => hy a (by simp [ha])
      obtain ⟨s2, I2, st2, le2, L2, v2⟩ := ih ys (f g x y).1 s1 I1 (st1.isL hc) (fun a ha => st1.isL (hxs a ha)) (fun a ha => st1.isL (hys a ha)) hl
      refine ⟨s2, I2, st1.trans st2, ?_, ?_, ?_⟩
      · show (zipG f (f g x y).1 xs ys).1.n ≤ g.n + k * (xs.length + 1)
        rw [Nat.mul_add]; omega
      · intro a ha
        simp only [zipG, List.mem_cons] at ha
        rcases ha with rfl | ha
        · exact st2.isL L1
        · exact L2 a ha
      · simp only [zipG, List.map_cons, List.zip_cons_cons]
        rw [st2.lit L1, v1, v2, step_map st1 hxs, step_map st1 hys, st1.lit hc]

theorem GRep.owned {X : Nat → Prop} {base gb ma mx : Nat} {w w' : World} {g : G} {v : Value} {xs : List Value} (h : GRep X base w gb g v ma mx xs) (hg : w.grownBy w' none) {q : Nat} (h1 : w.heap.size ≤ q) (h2 : q < w'.heap.size) : GRep (fun k => X k ∨ k = q) base w' gb g v ma mx xs := by
  obtain ⟨l1, l2, l3⟩ := h.lt
  have h3 := h.same hg
  have hk : Kept (fun _ => True) w w' := ⟨hg.os, hg.tape, hg.output, hg.size, fun i hi _ => hg.block i hi (by simp)⟩
  refine ⟨h3.box, h3.row, ?_, h3.an, h3.xo, h3.ne, ?_, ?_, ?_, ?_, ?_, h.n1, h.cl⟩
  · exact ((h.cls.mono (Z := fun k => ¬ (X k ∨ k = q) ∧ k ≠ gb ∧ some k ≠ v.ownBlock) fun k hk hx => ⟨by rintro (a | rfl); exact hx.1 a; omega, hx.2⟩)).kept (hk.mono fun _ _ _ => trivial)
  · rintro k (a | rfl)
    · exact h3.xb k a
    · exact h2
  · rintro (a | rfl)
    · exact h.xg a
    · omega
  · rintro (a | rfl)
    · exact h.xa a
    · omega
  · rintro (a | rfl)
    · exact h.xx a
    · omega
  · intro k hk
    have hkl := (h.row.lt k hk.symm).2
    rintro (a | rfl)
    · exact h.xv k hk a
    · omega

/-- a row of ints of the call's own: the slice, its cells -/
def OwnI (w : World) (q n : Nat) (l : List Int) : Prop := l.length = n ∧ w.ownsRow q 3 1 (.slice (some ⟨q, 0, none⟩) n n) n (l.map (Value.int .i64))
theorem OwnI.row {w : World} {q n : Nat} {l : List Int} (h : OwnI w q n l) : RowI w q 0 l := by
  obtain ⟨rfl, h⟩ := h
  exact RowI.ofOwns h
theorem OwnI.lt {w : World} {q n : Nat} {l : List Int} (h : OwnI w q n l) : q < w.heap.size := (h.2.lt q rfl).2
theorem OwnI.kept {w w' : World} {q n : Nat} {l : List Int} (h : OwnI w q n l) {X : Nat → Prop} (hk : Kept X w w') (hx : X q) : OwnI w' q n l := by
  refine ⟨h.1, ?_⟩
  rcases h.2 with ⟨b2, hr⟩
  refine ⟨b2, ?_⟩
  rcases hr with ⟨e, _⟩ | ⟨g, cap, cur, e, hb, hh, r⟩
  · cases e
  · refine .inr ⟨g, cap, cur, e, hb, ?_, r⟩
    simp only [Value.slice.injEq, Option.some.injEq, Addr.mk.injEq, and_true] at e
    obtain ⟨rfl, _⟩ := e
    exact hk.at hh hx
section
variable {ops : Array Oper} {rest : List Oper} {o : Oper} {a : Act} {w : World} {Q : Exit → Act → World → Prop}
theorem wl_store_own (hgd : o.guard = none) (x y : Operand) (ho : o.op = .store 3 x y) (q n : Nat) (l : List Int) (j : Nat) (hx : a.eval x = .pointer (some ⟨q, j, none⟩)) (u : Int) (hy : a.eval y = .int .i64 u) (hO : OwnI w q n l) (hj : j < n)
    (h : ∀ w', OwnI w' q n (l.set j u) → w.grownBy w' (some q) → wpList Try.prog ops Q rest (a.put o.dst undef) w') : wpList Try.prog ops Q (o :: rest) a w :=
  wpList_plain hgd fun _ hK => by
    obtain ⟨hl, hO2⟩ := hO
    have hc := hO2.cellAt j (by omega)
    have hlt : j < l.length := by omega
    rw [List.getElem?_map, List.getElem?_eq_getElem hlt] at hc
    have hf := hO2.frozenAt j
    have hst : (Instr.storeAt 3 (.pointer (some ⟨q, j, none⟩)) (.int .i64 u)).run Try.prog w = .ok () (w.setCell ⟨q, j, none⟩ (.int .i64 u)) := by
      simp only [Option.map_some] at hc
      go_simp
    obtain ⟨s1, s2⟩ := hO2.stored j (.int .i64 u)
    unfold Oper.wp execOp
    simp only [ho, hx, hy, Sem.run_bind, hst, Result.andThen_ok]
    exact hK _ _ (h _ ⟨by simp [hl], by rw [List.map_set]; exact s1⟩ s2)
theorem wl_make_own (hgd : o.guard = none) (l c : Operand) (hop : o.op = Op.makeSlice 26 l c) (n : Nat) (hl : a.eval l = .int .i64 n) (hc : a.eval c = .int .i64 n) (hn : n ≤ 1000000)
    (h : ∀ w', OwnI w' w.heap.size n (List.replicate n 0) → w.grownBy w' none → wpList Try.prog ops Q rest (a.put o.dst (.slice (some ⟨w.heap.size, 0, none⟩) n n)) w') : wpList Try.prog ops Q (o :: rest) a w := by
  obtain ⟨i0, hi0, hz0, hz1, hz2⟩ := info_parts info3
  refine wpList_make_full w hgd l c 26 hop w.heap.size 3 i0 (.int .i64 0) 1 Try.underlying26 hi0 hz0 hz1 .i64 .i64 n n n hl hc rfl rfl (by rw [hz2]; omega) (by unfold maxLen; omega) (Nat.le_refl _) ?_
  intro w' h1 h2
  refine h w' ⟨by simp, ?_⟩ h2
  have e : (madeCells (Value.int .i64 0).cells (n * 1)).toList = (List.replicate n (0 : Int)).map (Value.int .i64) := by
    rw [Nat.mul_one, List.map_replicate]
    unfold madeCells
    rw [Array.toList_map, Array.toList_range]
    apply List.ext_getElem?
    intro i
    rw [List.getElem?_map, List.getElem?_replicate]
    by_cases hi : i < n
    · rw [List.getElem?_range hi, if_pos hi]
      simp [Value.cells, Nat.mod_one]
    · rw [if_neg hi, List.getElem?_eq_none (by simpa using hi)]
      rfl
  rw [← e]; exact h1
end

theorem list_upto {α : Type} {l : List α} {k : Nat} {x : α} (h : l[k]? = some x) : l.take (k + 1) = l.take k ++ [x] := by rw [List.take_add_one, h]; rfl
/-- what stands in a row after k rounds -/
def filled (outs : List Int) (n : Nat) : List Int := outs ++ List.replicate (n - outs.length) 0
theorem filled_set {outs : List Int} {n : Nat} (h : outs.length < n) (u : Int) : (filled outs n).set outs.length u = filled (outs ++ [u]) n := by
  unfold filled
  rw [List.set_append_right _ _ (Nat.le_refl _), Nat.sub_self, List.append_assoc, List.length_append, List.length_singleton]
  congr 1
  rw [show n - outs.length = (n - (outs.length + 1)) + 1 by omega, List.replicate_succ]
  rfl
theorem filled_full {outs : List Int} {n : Nat} (h : outs.length = n) : filled outs n = outs := by unfold filled; simp [h]
theorem filled_len {outs : List Int} {n : Nat} (h : outs.length ≤ n) : (filled outs n).length = n := by unfold filled; simp; omega
/-- one word's answer, its row -/
def Word1 (X : Nat → Prop) (base gb n : Nat) (w : World) (r : G × List Int) (e : Ending) (w' : World) : Prop :=
  ∃ q, e = .returned (.slice (some ⟨q, 0, none⟩) n n) ∧ OwnI w' q n r.2 ∧ w.heap.size ≤ q ∧ GR (fun k => X k ∨ k = q) base w' gb r.1 ∧ Kept X w w'
theorem GR.owned {X : Nat → Prop} {base gb : Nat} {w w' : World} {g : G} (h : GR X base w gb g) (hg : w.grownBy w' none) {q : Nat} (h1 : w.heap.size ≤ q) (h2 : q < w'.heap.size) : GR (fun k => X k ∨ k = q) base w' gb g := by
  obtain ⟨v, ma, mx, xs, h⟩ := h; exact ⟨v, ma, mx, xs, h.owned hg h1 h2⟩
theorem GR.other {X : Nat → Prop} {base gb : Nat} {w w' : World} {g : G} (h : GR X base w gb g) {q : Nat} (hg : w.grownBy w' (some q)) (hq : X q) : GR X base w' gb g := by
  obtain ⟨v, ma, mx, xs, h⟩ := h; exact ⟨v, ma, mx, xs, h.other hg hq⟩
theorem GR.same {X : Nat → Prop} {base gb : Nat} {w w' : World} {g : G} (h : GR X base w gb g) (hg : w.grownBy w' none) : GR X base w' gb g := by
  obtain ⟨v, ma, mx, xs, h⟩ := h; exact ⟨v, ma, mx, xs, h.same hg⟩
theorem Kept.owned {X : Nat → Prop} {w w' w'' : World} {q : Nat} (h : Kept X w w') (hg : w'.grownBy w'' (some q)) (hq : w.heap.size ≤ q) : Kept X w w'' := h.grown hg (fun g e hl => by injection e with e; omega)

def chooseG (g : G) (c : Int) (xs ys : List Int) : G × List Int := zipG (fun g x y => choice g c x y) g xs ys
/-- where a word's round stands -/
structure ZS (f : G → Int → Int → G × Int) (d : Nat) (g : G) (fr : List Int) (s : Nat → Bool) (xs ys : List Int) (k : Nat) (gk : G) (outs : List Int) (sk : Nat → Bool) : Prop where
  eq : zipG f g (xs.take k) (ys.take k) = (gk, outs)
  len : outs.length = k
  gi : GI gk fr sk
  st : Step g s gk sk
  le : gk.n ≤ g.n + d * k

end Go.Proofs.Ytmaogkgjiplckaa
