import Derived.Test.YtcffgbmgjdhkjaaB
set_option linter.unusedSimpArgs false
set_option linter.unusedVariables false
namespace Go.Proofs.Ytcffgbmgjdhkjaa
open Go.RowKit

/-! slices that lie in memory, element by element -/
section
variable {α : Type}
/-- elements of s cells each lie from b, o on -/
def RowAt (s : Nat) (f : α → List Value) (w : World) (b o : Nat) (ls : List α) : Prop :=
  ∀ i d, ls[i]? = some d → ∀ j c, (f d)[j]? = some c → w.cell? ⟨b, o + (s * i + j), none⟩ = some c

theorem cell_keep {w w' : World} {p : Addr} {c : Value} (hb : Below w.heap.size w w') (h : w.cell? p = some c) : w'.cell? p = some c :=
  (hb.cell (World.block_lt_of_cell? w p h)).trans h
theorem RowAt.below {s : Nat} {f : α → List Value} {w w' : World} {b o : Nat} {ls : List α} (h : RowAt s f w b o ls) (hb : Below w.heap.size w w') : RowAt s f w' b o ls :=
  fun i d hi j c hj => cell_keep hb (h i d hi j c hj)
theorem RowAt.take {s : Nat} {f : α → List Value} {w : World} {b o : Nat} {ls : List α} (h : RowAt s f w b o ls) (k : Nat) : RowAt s f w b o (ls.take k) :=
  fun i d hi j c hj => h i d (by
    rw [List.getElem?_take] at hi
    split at hi
    · exact hi
    · cases hi) j c hj

/-- a slice value and what lies behind it -/
def SlIs (s : Nat) (f : α → List Value) (w : World) (v : Value) (ls : List α) : Prop :=
  ∃ ao cap, v = .slice ao ls.length cap ∧ ls.length ≤ cap ∧ (ao = none → cap = 0) ∧ (ls ≠ [] → ∃ b o, ao = some ⟨b, o, none⟩ ∧ RowAt s f w b o ls)
theorem SlIs.below {s : Nat} {f : α → List Value} {w w' : World} {v : Value} {ls : List α} (h : SlIs s f w v ls) (hb : Below w.heap.size w w') : SlIs s f w' v ls :=
  let ⟨ao, cap, h1, h2, h3, h4⟩ := h
  ⟨ao, cap, h1, h2, h3, fun hn => let ⟨b, o, e, hr⟩ := h4 hn; ⟨b, o, e, hr.below hb⟩⟩
end

theorem ld3 (w : World) (p : Addr) (n : Int) (h : w.cell? p = some (.int .i64 n)) : (Instr.loadAt 3 (.pointer (some p))).run Try.prog w = .ok (.int .i64 n) w := by go_simp
theorem ld49 (w : World) (b o : Nat) (d : Nd) (h : ∀ j c, d.cells[j]? = some c → w.cell? ⟨b, o + j, none⟩ = some c) : (Instr.loadAt 49 (.pointer (some ⟨b, o, none⟩))).run Try.prog w = .ok (.agg d.cells.toArray) w := by
  have h0 := h 0 _ rfl
  have h1 := h 1 _ rfl
  have h2 := h 2 _ rfl
  have h3 := h 3 _ rfl
  have h4 := h 4 _ rfl
  have h5 := h 5 _ rfl
  clear h
  simp only [Nat.add_zero] at h0
  unfold Nd.cells
  go_simp

def wAt (ls : List Nd) (k : Int) : Int := ((ls[k.toNat]?).map Nd.w).getD 0

section
variable {ops : Array Oper} {rest : List Oper} {o : Oper} {a : Act} {w : World} {Q : Exit → Act → World → Prop}
theorem wl_id {P : Program} (h : wpList P ops Q (o :: rest) a w) : wpList P ops Q (o :: rest) a w := h
theorem wl_ldW {w0 : World} {b off : Nat} {ls : List Nd} (HR : RowAt 6 Nd.cells w0 b off ls) (hb : Below w0.heap.size w0 w) (K : Int) (h0 : 0 ≤ K) (h1 : K < ls.length) (hgd : o.guard = none) (x : Operand) (ho : o.op = .load 3 x)
    (hx : a.eval x = .pointer (some ⟨b, off + K.toNat * 6 + 1, none⟩)) (h : wpList Try.prog ops Q rest (a.put o.dst (.int .i64 (wAt ls K))) w) : wpList Try.prog ops Q (o :: rest) a w :=
  wpList_plain hgd fun _ hK => by
    have hlt : K.toNat < ls.length := by omega
    have hc := cell_keep hb (HR K.toNat _ (List.getElem?_eq_getElem hlt) 1 _ rfl)
    rw [Nat.mul_comm, ← Nat.add_assoc] at hc
    unfold Oper.wp execOp
    simp only [ho, hx, Sem.run_bind, ld3 w _ _ hc, Result.andThen_ok]
    have e : wAt ls K = ls[K.toNat].w := by unfold wAt; rw [List.getElem?_eq_getElem hlt]; rfl
    rw [← e]
    exact hK _ _ h
end

theorem kids_anyX (op h : Int) (w : World) (e : kidsI op = h) :
    Calls Try.prog 58 #[.int .i64 op] w fun e w' => e = .returned (.int .i64 h) ∧ w = w' := by
  rw [← e]; exact kids_any op w

end Go.Proofs.Ytcffgbmgjdhkjaa
