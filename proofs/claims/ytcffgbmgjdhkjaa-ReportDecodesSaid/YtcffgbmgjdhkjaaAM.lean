import Derived.Test.YtcffgbmgjdhkjaaAE
import Derived.OpenShut
import Derived.Lib.SmallJoins
import Derived.Deep.Slices
import Derived.Deep.Strs
set_option linter.unusedSimpArgs false
set_option linter.unusedVariables false
namespace Go.Proofs.Ytcffgbmgjdhkjaa
open Go.RowKit

/-! the arguments as they are read -/
open Go.ChangeShapes Go.WideShapes Go.Deep Go.Joins
set_option maxRecDepth 100000
section
variable {H : Type} {enc : TypeId × Value → H} {w : World}

theorem open_slR {α : Type} (s : Nat) (hs0 : 0 < s) (f : α → List Value) (R : α → Prop) [Inhabited α] {t e : TypeId} {fuel : Nat} {v : Value} {x : DataW H × List MemPlace} (ht : Try.prog.underlying t = some (.slice e)) (hs : Try.prog.cellsOf e = s)
    (hone : ∀ n cs y, cs.length = s → DataW.trod enc Try.prog w 0 (fun _ => true) true n e cs = some y → ∃ a, cs = f a ∧ R a)
    (h : DataW.trod enc Try.prog w 0 (fun _ => true) true fuel t [v] = some x) : ∃ ls, SlIs s f w v ls ∧ ∀ a ∈ ls, R a := by
  rcases Go.Deep.open_slice ht h with ⟨h0, _⟩ | ⟨a, len, cap, m, n, D, Pl, hcs, _, hl, hm, hmm, _, hx⟩
  · injection h0 with h1 _
    subst h1
    exact ⟨[], ⟨none, 0, rfl, Nat.le_refl _, fun _ => rfl, fun h => absurd rfl h⟩, by simp⟩
  · injection hcs with h1 _
    subst h1
    simp only [if_true] at hmm
    subst hmm
    obtain ⟨A, hA⟩ := Go.Deep.choose_lt (α := α) (p := fun i y => w.cells? 0 (a.add (i * s)) s = some (f y) ∧ R y) (n := len) (fun i hi => by
      obtain ⟨cs', h1, h2⟩ := hx i (by omega)
      rw [hs] at h1
      obtain ⟨y, rfl, hy⟩ := hone n cs' _ (World.cells?_some h1).2.1 h2
      exact ⟨y, h1, hy⟩)
    refine ⟨(List.range len).map A, ⟨some a, m, by simp, by simpa using hl, fun h => by (cases h), fun hne => ?_⟩, ?_⟩
    · have hp : 0 < len := by
        rcases Nat.eq_zero_or_pos len with h | h
        · subst h; exact absurd rfl hne
        · exact h
      obtain ⟨_, hl0, hc0⟩ := World.cells?_some (hA 0 hp).1
      have hsp : a.spot = none := by
        have h1 := hc0 0 hs0
        rw [List.getElem?_eq_getElem (by omega)] at h1
        have h2 := World.cell?_spot h1
        simpa [Addr.add] using h2
      obtain ⟨b, o, sp⟩ := a
      dsimp only at hsp
      subst hsp
      refine ⟨b, o, rfl, fun i d hi j c hj => ?_⟩
      rw [List.getElem?_map] at hi
      have hil : i < len := by
        rcases Nat.lt_or_ge i len with h | h
        · exact h
        · rw [List.getElem?_eq_none (by simpa using h)] at hi; cases hi
      rw [List.getElem?_range hil] at hi
      obtain rfl := Option.some.inj hi
      obtain ⟨_, hln, hcn⟩ := World.cells?_some (hA i hil).1
      have hjl : j < s := by
        rcases Nat.lt_or_ge j s with h | h
        · exact h
        · rw [List.getElem?_eq_none (by omega)] at hj; cases hj
      have h3 := hcn j hjl
      rw [hj, Go.Deep.add_add] at h3
      have e1 : (⟨b, o, none⟩ : Addr).add (i * s + j) = ⟨b, o + (s * i + j), none⟩ := by
        unfold Addr.add
        rw [Nat.mul_comm i s]
        split
        · rename_i h0; rw [h0]; rfl
        · rfl
      rw [e1] at h3
      exact h3
    · intro y hy
      obtain ⟨i, hi, rfl⟩ := List.mem_map.1 hy
      exact (hA i (List.mem_range.1 hi)).2

theorem cells3_26 : Try.prog.cellsOf 3 = 1 := by kernel_rfl
theorem cells5_26 : Try.prog.cellsOf 5 = 1 := by kernel_rfl
theorem cells22_26 : Try.prog.cellsOf 22 = 1 := by kernel_rfl
theorem cells23_26 : Try.prog.cellsOf 23 = 1 := by kernel_rfl
theorem cells28_26 : Try.prog.cellsOf 28 = 1 := by kernel_rfl
theorem cells40_26 : Try.prog.cellsOf 40 = 1 := by kernel_rfl
theorem cells41_26 : Try.prog.cellsOf 41 = 1 := by kernel_rfl
theorem cells46_26 : Try.prog.cellsOf 46 = 1 := by kernel_rfl
theorem cells47_26 : Try.prog.cellsOf 47 = 3 := by kernel_rfl
theorem cells49_26 : Try.prog.cellsOf 49 = 6 := by kernel_rfl
theorem cells43_26 : Try.prog.cellsOf 43 = 3 := by kernel_rfl
theorem cells25_26 : Try.prog.cellsOf 25 = 4 := by kernel_rfl

theorem open_ints40 {fuel : Nat} {v : Value} {x : DataW H × List MemPlace} (h : DataW.trod enc Try.prog w 0 (fun _ => true) true fuel 40 [v] = some x) :
    ∃ ls, SlIs 1 i64c w v ls ∧ ∀ a ∈ ls, -9223372036854775808 ≤ a ∧ a ≤ 9223372036854775807 :=
  open_slR 1 (by decide) i64c _ Try.underlying40 cells3_26 (fun n cs y _ h => by
    obtain ⟨n, rfl, _, hw⟩ := DataW.trod_int Try.underlying3 h
    exact ⟨n, rfl, bounds_i64 hw⟩) h
theorem open_bytes28 {fuel : Nat} {v : Value} {x : DataW H × List MemPlace} (h : DataW.trod enc Try.prog w 0 (fun _ => true) true fuel 28 [v] = some x) :
    ∃ ls, SlIs 1 u8c w v ls ∧ ∀ a ∈ ls, 0 ≤ a ∧ a < 256 :=
  open_slR 1 (by decide) u8c _ Try.underlying28 cells5_26 (fun n cs y _ h => by
    obtain ⟨n, rfl, _, hw⟩ := DataW.trod_int Try.underlying5 h
    have := bounds_u8 hw
    exact ⟨n, rfl, by omega, by omega⟩) h

instance : Inhabited Nd := ⟨⟨0, 0, 0, 0, 0, 0⟩⟩
theorem six {l : List Value} (h : l.length = 6) : ∃ a b c d e f, l = [a, b, c, d, e, f] := by
  match l, h with
  | [a, b, c, d, e, f], _ => exact ⟨a, b, c, d, e, f, rfl⟩
theorem three {α : Type} {l : List α} (h : l.length = 3) : ∃ a b c, l = [a, b, c] := by
  match l, h with
  | [a, b, c], _ => exact ⟨a, b, c, rfl⟩

theorem open_k47 {fuel : Nat} {a b c : Value} {x : DataW H × List MemPlace} (h : DataW.trod enc Try.prog w 0 (fun _ => true) true fuel 47 [a, b, c] = some x) :
    ∃ k0 k1 k2, a = .int .i64 k0 ∧ b = .int .i64 k1 ∧ c = .int .i64 k2 ∧ (-9223372036854775808 ≤ k0 ∧ k0 ≤ 9223372036854775807) ∧ (-9223372036854775808 ≤ k1 ∧ k1 ≤ 9223372036854775807) ∧ (-9223372036854775808 ≤ k2 ∧ k2 ≤ 9223372036854775807) := by
  obtain ⟨xs, m, _, _, _, hl, hx⟩ := DataW.trod_array Try.underlying47 h
  obtain ⟨y0, y1, y2, rfl⟩ := three hl
  have h0 := hx 0 (by decide)
  have h1 := hx 1 (by decide)
  have h2 := hx 2 (by decide)
  rw [cells3_26] at h0 h1 h2
  simp only [List.drop_zero, Nat.zero_mul, Nat.one_mul, Nat.mul_one, List.drop_succ_cons, List.take_succ_cons, List.take_zero] at h0 h1 h2
  obtain ⟨k0, e0, _, w0⟩ := DataW.trod_int Try.underlying3 h0
  obtain ⟨k1, e1, _, w1⟩ := DataW.trod_int Try.underlying3 h1
  obtain ⟨k2, e2, _, w2⟩ := DataW.trod_int Try.underlying3 h2
  injection e0 with e0 _
  injection e1 with e1 _
  injection e2 with e2 _
  exact ⟨k0, k1, k2, e0, e1, e2, bounds_i64 w0, bounds_i64 w1, bounds_i64 w2⟩

theorem open_nodes41 {fuel : Nat} {v : Value} {x : DataW H × List MemPlace} (h : DataW.trod enc Try.prog w 0 (fun _ => true) true fuel 41 [v] = some x) :
    ∃ ls, SlIs 6 Nd.cells w v ls ∧ ∀ a ∈ ls, NdWf a :=
  open_slR 6 (by decide) Nd.cells _ Try.underlying41 cells49_26 (fun n cs y hl h => by
    obtain ⟨c0, c1, c2, c3, c4, c5, rfl⟩ := six hl
    obtain ⟨y0, y1, y2, y3, m, _, _, h0, h1, h2, h3⟩ := trod_struct4 Try.underlying49 h
    dsimp only at h0 h1 h2 h3
    rw [cells3_26] at h0 h1
    rw [cells46_26] at h2
    rw [cells47_26] at h3
    simp only [List.drop_zero, List.drop_succ_cons, List.take_succ_cons, List.take_zero] at h0 h1 h2 h3
    obtain ⟨k0, e0, _, w0⟩ := DataW.trod_int Try.underlying3 h0
    obtain ⟨k1, e1, _, w1⟩ := DataW.trod_int Try.underlying3 h1
    obtain ⟨k2, e2, _, w2⟩ := DataW.trod_int Try.underlying46 h2
    injection e0 with e0 _
    injection e1 with e1 _
    injection e2 with e2 _
    obtain ⟨k3, k4, k5, rfl, rfl, rfl, w3, w4, w5⟩ := open_k47 h3
    subst e0; subst e1; subst e2
    have b2 := bounds_u64 w2
    exact ⟨⟨k0, k1, k2, k3, k4, k5⟩, rfl, bounds_i64 w0, bounds_i64 w1, ⟨b2.1, by have := b2.2; dsimp only; omega⟩, w3, w4, w5⟩) h

theorem open_pres23 {fuel : Nat} {v : Value} {x : DataW H × List MemPlace} (h : DataW.trod enc Try.prog w 0 (fun _ => true) true fuel 23 [v] = some x) :
    ∃ ps, PresIn w v ps ∧ ∀ p ∈ ps, PrWf p := by
  obtain ⟨vs, hS, hR⟩ := open_slR 3 (by decide) tripc (fun t => ∃ p, PrIn w t p ∧ PrWf p) Try.underlying23 cells43_26 (fun n cs y hl h => by
    obtain ⟨c0, c1, c2, rfl⟩ := three hl
    obtain ⟨y0, y1, y2, m, _, _, h0, h1, h2⟩ := trod_struct3 Try.underlying43 h
    dsimp only at h0 h1 h2
    rw [cells40_26] at h0
    rw [cells41_26] at h1
    rw [cells28_26] at h2
    simp only [List.drop_zero, List.drop_succ_cons, List.take_succ_cons, List.take_zero] at h0 h1 h2
    obtain ⟨l0, s0, r0⟩ := open_ints40 h0
    obtain ⟨l1, s1, r1⟩ := open_nodes41 h1
    obtain ⟨l2, s2, r2⟩ := open_bytes28 h2
    exact ⟨(c0, c1, c2), rfl, ⟨l0, l1, l2⟩, ⟨s0, s1, s2⟩, r0, r1, r2⟩) h
  clear h
  have key : ∀ vs : List Trip, (∀ t ∈ vs, ∃ p, PrIn w t p ∧ PrWf p) → ∃ ps : List Pr, vs.length = ps.length ∧ (∀ (i : Nat) (t : Trip) (p : Pr), vs[i]? = some t → ps[i]? = some p → PrIn w t p) ∧ ∀ p ∈ ps, PrWf p := by
    intro vs
    induction vs with
    | nil => intro _; exact ⟨[], rfl, fun i t p h => by simp at h, by simp⟩
    | cons t vs ih =>
      intro hR
      obtain ⟨p, hp, hw⟩ := hR t (by simp)
      obtain ⟨ps, hl, hP, hW⟩ := ih (fun t ht => hR t (by simp [ht]))
      refine ⟨p :: ps, by simp [hl], fun i t' p' h1 h2 => ?_, ?_⟩
      · cases i with
        | zero => simp at h1 h2; subst h1; subst h2; exact hp
        | succ i => exact hP i t' p' (by simpa using h1) (by simpa using h2)
      · intro q hq
        rcases List.mem_cons.1 hq with rfl | hq
        · exact hw
        · exact hW q hq
  obtain ⟨ps, hl, hP, hW⟩ := key vs hR
  exact ⟨ps, ⟨vs, hS, hl, hP⟩, hW⟩

/-- A REPORT, READ. -/
theorem open_report {r : Reach} {b0 : Nat} {v : Value} {d : DataW H} {p : List MemPlace} (hv : Value.okWide Try.prog w r b0 25 v) (h : DataW.Trod enc Try.prog w 0 (fun _ => true) true 25 v d p) :
    ∃ x : Rp, ∃ s, v = .agg #[.int .i64 x.v, .int .i64 x.e, .int .i64 x.a, s] ∧ PresIn w s x.pres ∧ RpWf x := by
  obtain ⟨v0, v1, v2, v3, y0, y1, y2, y3, n, rfl, _, _, h0, h1, h2, h3⟩ := open_agg4 Try.underlying25 (by kernel_rfl) cells25_26 hv h
  dsimp only at h0 h1 h2 h3
  obtain ⟨k0, e0, _, w0⟩ := DataW.trod_int Try.underlying3 h0
  obtain ⟨k1, e1, _, w1⟩ := DataW.trod_int Try.underlying22 h1
  obtain ⟨k2, e2, _, w2⟩ := DataW.trod_int Try.underlying3 h2
  injection e0 with e0 _
  injection e1 with e1 _
  injection e2 with e2 _
  subst e0; subst e1; subst e2
  obtain ⟨ps, hP, hW⟩ := open_pres23 h3
  exact ⟨⟨k0, k1, k2, ps⟩, v3, rfl, hP, bounds_i64 w0, bounds_i64 w1, bounds_i64 w2, hW⟩

/-- BYTES, READ. -/
theorem open_bytes {r : Reach} {b0 : Nat} {v : Value} {d : DataW H} {p : List MemPlace} (hv : Value.okWide Try.prog w r b0 28 v) (h : DataW.Trod enc Try.prog w 0 (fun _ => true) true 28 v d p) :
    ∃ b, SlIs 1 u8c w v b ∧ ByteL b := by
  obtain ⟨a, l, c, rfl⟩ := okWide_slice Try.underlying28 hv
  obtain ⟨fuel, h⟩ := h
  obtain ⟨b, h1, h2⟩ := open_bytes28 (by simpa [Value.cells] using h)
  exact ⟨b, h1, h2⟩
end

end Go.Proofs.Ytcffgbmgjdhkjaa
