import Derived.Test.YtmaogkgjiplckaaQL8
set_option linter.unusedSimpArgs false
set_option linter.unusedVariables false
namespace Go.Proofs.Ytmaogkgjiplckaa
open Go.RowKit
open Go.ChangeShapes Go.WideShapes Go.Deep Go.Joins
set_option maxRecDepth 100000
section
variable {H : Type} {enc : TypeId × Value → H} {w : World}
theorem n_cells_int : Try.prog.cellsOf 3 = 1 := by kernel_rfl
theorem n_cells_u64 : Try.prog.cellsOf 22 = 1 := by kernel_rfl
theorem n_cells_3 : Try.prog.cellsOf 92 = 3 := by kernel_rfl
theorem n_cells_nd : Try.prog.cellsOf 94 = 6 := by kernel_rfl
theorem n_i64 {n : Int} (h : (Lit.int .i64 n).wf = true) : -9223372036854775808 ≤ n ∧ n ≤ 9223372036854775807 := by
  simp [Lit.wf, IntKind.min, IntKind.max, IntKind.bits, IntKind.signed] at h; omega
theorem n_u64 {n : Int} (h : (Lit.int .u64 n).wf = true) : 0 ≤ n ∧ n < 18446744073709551616 := by
  simp [Lit.wf, IntKind.min, IntKind.max, IntKind.bits, IntKind.signed] at h; omega
instance : Inhabited Nd := ⟨⟨0, 0, 0, 0, 0, 0⟩⟩
theorem n_six {l : List Value} (h : l.length = 6) : ∃ a b c d e f, l = [a, b, c, d, e, f] := by
  match l, h with
  | [a, b, c, d, e, f], _ => exact ⟨a, b, c, d, e, f, rfl⟩
theorem n_three {α : Type} {l : List α} (h : l.length = 3) : ∃ a b c, l = [a, b, c] := by
  match l, h with
  | [a, b, c], _ => exact ⟨a, b, c, rfl⟩
theorem n_struct4 {P : Program} {spare : Nat → Bool} {held : Bool} {base : Nat} {t : TypeId} {f0 f1 f2 f3 : Field} {fuel : Nat} {cs : List Value} {x : DataW H × List MemPlace} (ht : P.underlying t = some (.struct #[f0, f1, f2, f3])) (h : DataW.trod enc P w base spare held fuel t cs = some x) :
    ∃ y0 y1 y2 y3 n, DataW.trod enc P w base spare held n f0.type ((cs.drop f0.offset).take (P.cellsOf f0.type)) = some y0 ∧ DataW.trod enc P w base spare held n f1.type ((cs.drop f1.offset).take (P.cellsOf f1.type)) = some y1 ∧ DataW.trod enc P w base spare held n f2.type ((cs.drop f2.offset).take (P.cellsOf f2.type)) = some y2 ∧
      DataW.trod enc P w base spare held n f3.type ((cs.drop f3.offset).take (P.cellsOf f3.type)) = some y3 := by
  obtain ⟨xs, n, _, rfl, hl, hlen, hf⟩ := DataW.trod_struct ht h
  match xs, hlen with
  | [y0, y1, y2, y3], _ => exact ⟨y0, y1, y2, y3, n, by simpa using hf 0 f0 rfl, by simpa using hf 1 f1 rfl, by simpa using hf 2 f2 rfl, by simpa using hf 3 f3 rfl⟩
theorem open_slR {α : Type} (s : Nat) (hs0 : 0 < s) (f : α → List Value) (R : α → Prop) [Inhabited α] {t e : TypeId} {fuel : Nat} {v : Value} {x : DataW H × List MemPlace} (ht : Try.prog.underlying t = some (.slice e)) (hs : Try.prog.cellsOf e = s)
    (hone : ∀ n cs y, cs.length = s → DataW.trod enc Try.prog w 0 (fun _ => true) true n e cs = some y → ∃ a, cs = f a ∧ R a)
    (h : DataW.trod enc Try.prog w 0 (fun _ => true) true fuel t [v] = some x) : ∃ ls, SlIs s f w v ls ∧ ∀ a ∈ ls, R a := by
  rcases Go.Deep.open_slice ht h with ⟨h0, _⟩ | ⟨a, len, cap, m, n, D, Pl, hcs, _, hl, hm, hmm, _, hx⟩
  · injection h0 with h1 _
    subst h1
    exact ⟨[], ⟨none, 0, rfl, Nat.le_refl _, fun _ => rfl, fun h => absurd rfl h⟩, by simp⟩
  · injection hcs with h1 _
    subst h1
    simp only [if_true] at hmm
    subst hmm
    obtain ⟨A, hA⟩ := Go.Deep.choose_lt (α := α) (p := fun i y => w.cells? 0 (a.add (i * s)) s = some (f y) ∧ R y) (n := len) (fun i hi => by
      obtain ⟨cs', h1, h2⟩ := hx i (by omega)
      rw [hs] at h1
      obtain ⟨y, rfl, hy⟩ := hone n cs' _ (World.cells?_some h1).2.1 h2
      exact ⟨y, h1, hy⟩)
    refine ⟨(List.range len).map A, ⟨some a, m, by simp, by simpa using hl, fun h => by (cases h), fun hne => ?_⟩, ?_⟩
    · have hp : 0 < len := by
        rcases Nat.eq_zero_or_pos len with h | h
        · subst h; exact absurd rfl hne
        · exact h
      obtain ⟨_, hl0, hc0⟩ := World.cells?_some (hA 0 hp).1
      have hsp : a.spot = none := by
        have h1 := hc0 0 hs0
        rw [List.getElem?_eq_getElem (by omega)] at h1
        have h2 := World.cell?_spot h1
        simpa [Addr.add] using h2
      obtain ⟨b, o, sp⟩ := a
      dsimp only at hsp
      subst hsp
      refine ⟨b, o, rfl, fun i d hi j c hj => ?_⟩
      rw [List.getElem?_map] at hi
      have hil : i < len := by
        rcases Nat.lt_or_ge i len with h | h
        · exact h
        · rw [List.getElem?_eq_none (by simpa using h)] at hi; cases hi
      rw [List.getElem?_range hil] at hi
      obtain rfl := Option.some.inj hi
      obtain ⟨_, hln, hcn⟩ := World.cells?_some (hA i hil).1
      have hjl : j < s := by
        rcases Nat.lt_or_ge j s with h | h
        · exact h
        · rw [List.getElem?_eq_none (by omega)] at hj; cases hj
      have h3 := hcn j hjl
      rw [hj, Go.Deep.add_add] at h3
      have e1 : (⟨b, o, none⟩ : Addr).add (i * s + j) = ⟨b, o + (s * i + j), none⟩ := by
        unfold Addr.add
        rw [Nat.mul_comm i s]
        split
        · rename_i h0; rw [h0]; rfl
        · rfl
      rw [e1] at h3
      exact h3
    · intro y hy
      obtain ⟨i, hi, rfl⟩ := List.mem_map.1 hy
      exact (hA i (List.mem_range.1 hi)).2
theorem open_k3 {fuel : Nat} {a b c : Value} {x : DataW H × List MemPlace} (h : DataW.trod enc Try.prog w 0 (fun _ => true) true fuel 92 [a, b, c] = some x) :
    ∃ k0 k1 k2, a = .int .i64 k0 ∧ b = .int .i64 k1 ∧ c = .int .i64 k2 ∧ (-9223372036854775808 ≤ k0 ∧ k0 ≤ 9223372036854775807) ∧ (-9223372036854775808 ≤ k1 ∧ k1 ≤ 9223372036854775807) ∧ (-9223372036854775808 ≤ k2 ∧ k2 ≤ 9223372036854775807) := by
  obtain ⟨xs, m, _, _, _, hl, hx⟩ := DataW.trod_array Try.underlying92 h
  obtain ⟨y0, y1, y2, rfl⟩ := n_three hl
  have h0 := hx 0 (by decide)
  have h1 := hx 1 (by decide)
  have h2 := hx 2 (by decide)
  rw [n_cells_int] at h0 h1 h2
  simp only [List.drop_zero, Nat.zero_mul, Nat.one_mul, Nat.mul_one, List.drop_succ_cons, List.take_succ_cons, List.take_zero] at h0 h1 h2
  obtain ⟨k0, e0, _, w0⟩ := DataW.trod_int Try.underlying3 h0
  obtain ⟨k1, e1, _, w1⟩ := DataW.trod_int Try.underlying3 h1
  obtain ⟨k2, e2, _, w2⟩ := DataW.trod_int Try.underlying3 h2
  injection e0 with e0 _
  injection e1 with e1 _
  injection e2 with e2 _
  exact ⟨k0, k1, k2, e0, e1, e2, n_i64 w0, n_i64 w1, n_i64 w2⟩
theorem open_nodes {fuel : Nat} {v : Value} {x : DataW H × List MemPlace} (h : DataW.trod enc Try.prog w 0 (fun _ => true) true fuel 58 [v] = some x) :
    ∃ ls, SlIs 6 Nd.cells w v ls ∧ ∀ a ∈ ls, NdWf a :=
  open_slR 6 (by decide) Nd.cells _ Try.underlying58 n_cells_nd (fun n cs y hl h => by
    obtain ⟨c0, c1, c2, c3, c4, c5, rfl⟩ := n_six hl
    obtain ⟨y0, y1, y2, y3, m, h0, h1, h2, h3⟩ := n_struct4 Try.underlying94 h
    dsimp only at h0 h1 h2 h3
    rw [n_cells_int] at h0 h1
    rw [n_cells_u64] at h2
    rw [n_cells_3] at h3
    simp only [List.drop_zero, List.drop_succ_cons, List.take_succ_cons, List.take_zero] at h0 h1 h2 h3
    obtain ⟨k0, e0, _, w0⟩ := DataW.trod_int Try.underlying3 h0
    obtain ⟨k1, e1, _, w1⟩ := DataW.trod_int Try.underlying3 h1
    obtain ⟨k2, e2, _, w2⟩ := DataW.trod_int Try.underlying22 h2
    injection e0 with e0 _
    injection e1 with e1 _
    injection e2 with e2 _
    obtain ⟨k3, k4, k5, rfl, rfl, rfl, w3, w4, w5⟩ := open_k3 h3
    subst e0; subst e1; subst e2
    exact ⟨⟨k0, k1, k2, k3, k4, k5⟩, rfl, n_i64 w0, n_i64 w1, n_u64 w2, w3, w4, w5⟩) h
end
theorem leaves_law {H : Type} {enc : TypeId × Value → H} {base : Nat} {d0 : DataW H} {p0 : List MemPlace} (v0 : Value) (w : World) (o0 : Value.okWide Try.prog w .any base 58 v0) (k0 : DataW.Trod enc Try.prog w 0 (fun _ => true) true 58 v0 d0 p0) :
    Calls Try.prog 8 #[v0] w fun e w' => e = .returned (.bool true) ∧ Below w.heap.size w w' := by
  obtain ⟨a, l, c, rfl⟩ := okWide_slice Try.underlying58 o0
  obtain ⟨fuel, h⟩ := k0
  obtain ⟨ls, h1, h2⟩ := open_nodes (by simpa [Value.cells] using h)
  exact leaves_walk ls _ w h1 h2

end Go.Proofs.Ytmaogkgjiplckaa

