import Derived.Test.YtmaogkgjiplckaaGU
set_option linter.unusedSimpArgs false
set_option linter.unusedVariables false
namespace Go.Proofs.Ytmaogkgjiplckaa
open Go.RowKit

section
variable {ops : Array Oper} {rest : List Oper} {o : Oper} {a : Act} {w : World} {Q : Exit → Act → World → Prop}
/-- one int, appended to a row of one's own -/
theorem wl_push (hgd : o.guard = none) (s x : Operand) (ho : o.op = .call { callee := .builtin .append, args := #[s, x], argTypes := #[26, 26] }) (base : Nat) (v : Value) (n : Nat) (l : List Int) (hs : a.eval s = v) (hown : w.ownsRow base 3 1 v n (l.map (Value.int .i64))) (b : Nat) (u : Int) (hx : a.eval x = .slice (some ⟨b, 0, none⟩) 1 1) (hb : w.cell? ⟨b, 0, none⟩ = some (.int .i64 u)) (hn : n ≤ 1000000000) (hbase : base ≤ w.heap.size)
    (h : ∀ v' w', w'.ownsRow base 3 1 v' (n + 1) ((l ++ [u]).map (Value.int .i64)) → w.grownBy w' v.ownBlock → (v'.ownBlock = v.ownBlock ∨ v'.ownBlock = some w.heap.size) → wpList Try.prog ops Q rest (a.put o.dst v') w') : wpList Try.prog ops Q (o :: rest) a w := by
  obtain ⟨i0, hi0, hz0, hz1, hz2⟩ := info_parts info3
  refine wpList_append_own_at _ hgd s x 26 ho base 3 i0 (.int .i64 0) 1 8 Try.underlying26 hi0 hz0 hz1 hz2 rfl (by decide) v n _ hs hown ⟨b, 0, none⟩ 1 1 [.int .i64 u] hx rfl ?_ (by simp [Value.oneCell']) (by simp only [maxLen]; omega) (by omega) hbase ?_
  · intro j y hj
    rcases j with _ | j
    · simp at hj; subst hj
      simpa [Addr.add] using hb
    · simp at hj
  · intro v' w' h1 h2 _ h4
    exact h v' w' (by rw [List.map_append]; exact h1) h2 h4
end

/-- free variables behind the n there are, and the literals that give a number's bits to them -/
def freeL (n k : Nat) : List Int := (List.range k).map fun i => ((n + 1 + i : Nat) : Int)
def fromL (n k x : Nat) : List Int := (List.range k).map fun i => if x.testBit i then ((n + 1 + i : Nat) : Int) else -((n + 1 + i : Nat) : Int)
theorem freeL_succ (n k : Nat) : freeL n (k + 1) = freeL n k ++ [((n + 1 + k : Nat) : Int)] := by simp [freeL, List.range_succ]
theorem fromL_succ (n k x : Nat) : fromL n (k + 1) x = fromL n k x ++ [if x.testBit k then ((n + 1 + k : Nat) : Int) else -((n + 1 + k : Nat) : Int)] := by simp [fromL, List.range_succ]

end Go.Proofs.Ytmaogkgjiplckaa
