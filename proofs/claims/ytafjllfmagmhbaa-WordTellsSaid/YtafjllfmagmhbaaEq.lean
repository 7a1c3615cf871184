import Derived.Test.YtafjllfmagmhbaaDw
set_option linter.unusedSimpArgs false
set_option linter.unusedVariables false
namespace Go.Proofs.Ytafjllfmagmhbaa
open Go.RowKit

theorem size4 : (Try.prog.info? 4).map (·.size) = some 1 := by kernel_rfl

theorem part4 (w : World) (n i : Nat) (h : i < 64) : (part 4 (bw n) (i * 1)).run Try.prog w = .ok (.bool (n.testBit i)) w := by
  have ha : (isAgg 4).run Try.prog w = .ok false w := by
    unfold isAgg
    rw [Sem.run_bind, run_underlying Try.underlying4 w]
    rfl
  unfold part
  rw [Sem.run_bind, ha]
  simp only [Result.andThen_ok, Bool.false_eq_true, if_false, Nat.mul_one, bw_get n i h, Sem.run_pure]

theorem sizeOf4 (w : World) : (sizeOf 4).run Try.prog w = .ok 1 w := by
  cases hq : Try.prog.info? 4 with
  | none => have := size4; simp [hq] at this
  | some i =>
    have hs : i.size = 1 := by have := size4; simpa [hq] using this
    simp [sizeOf, typeInfo, hq, hs]

theorem eqLoop (n m d : Nat) (w : World) : ∀ (k i : Nat), i + k ≤ 64 →
    ((forIn (List.range' i k) ((none : Option Bool), ()) fun i _ => do
            let a ← part 4 (bw n) (i * 1)
            let b ← part 4 (bw m) (i * 1)
            let c ← Op.equalIn (d + 1) 4 a b
            if (!c) = true then pure (ForInStep.done (some false, ())) else pure (ForInStep.yield (none, ())) : Sem (Option Bool × Unit))).run Try.prog w
      = .ok (if (List.range' i k).all (fun i => n.testBit i == m.testBit i) then (none, ()) else (some false, ())) w := by
  intro k
  induction k with
  | zero => intro i _; simp
  | succ k ih =>
    intro i h
    rw [List.range'_succ, List.forIn_cons]
    have h1 := part4 w n i (by omega)
    have h2 := part4 w m i (by omega)
    have h3 := run_equalIn_bool' w d 4 (n.testBit i) (m.testBit i) Try.underlying4
    simp only [Sem.run_bind, h1, h2, h3, Result.andThen_ok]
    by_cases e : n.testBit i = m.testBit i
    · simp only [e, beq_self_eq_true, Bool.not_true, Bool.false_eq_true, if_false, Sem.run_pure, Result.andThen_ok, List.all_cons, Bool.true_and]
      exact ih (i + 1) (by omega)
    · have e' : (n.testBit i == m.testBit i) = false := by simpa using e
      simp only [e', Bool.not_false, if_true, Sem.run_pure, Result.andThen_ok, List.all_cons, Bool.false_and, Bool.false_eq_true, if_false]

theorem eqIn29 (w : World) (n m d : Nat) : (Op.equalIn (d + 2) 29 (.agg (bw n)) (.agg (bw m))).run Try.prog w = .ok ((List.range' 0 64).all fun i => n.testBit i == m.testBit i) w := by
  rw [Op.equalIn]
  simp only [Sem.run_bind, run_underlying Try.underlying29, Result.andThen_ok, sizeOf4]
  rw [Std.Legacy.Range.forIn_eq_forIn_range']
  have h := eqLoop n m d w 64 0 (by omega)
  have e : (forIn (List.range' [:64].start [:64].size [:64].step) ((none : Option Bool), ()) fun i _ => do
            let a ← part 4 (bw n) (i * 1)
            let b ← part 4 (bw m) (i * 1)
            let c ← Op.equalIn (d + 1) 4 a b
            if (!c) = true then pure (ForInStep.done (some false, ())) else pure (ForInStep.yield (none, ())) : Sem (Option Bool × Unit)) = (forIn (List.range' 0 64) ((none : Option Bool), ()) fun i _ => do
            let a ← part 4 (bw n) (i * 1)
            let b ← part 4 (bw m) (i * 1)
            let c ← Op.equalIn (d + 1) 4 a b
            if (!c) = true then pure (ForInStep.done (some false, ())) else pure (ForInStep.yield (none, ()))) := rfl
  rw [e, h, Result.andThen_ok]
  clear e h
  cases hc : (List.range' 0 64).all fun i => n.testBit i == m.testBit i with
  | true => simp only [if_true, Sem.run_pure]
  | false => simp only [Bool.false_eq_true, if_false, Sem.run_pure]

theorem guard29 : Try.prog.eqGuardType Try.prog.depth 29 = false := by kernel_rfl

theorem eq29 (w : World) (n m : Nat) (hn : n < 18446744073709551616) (hm : m < 18446744073709551616) : (binOp .eql 29 (.agg (bw n)) (.agg (bw m))).run Try.prog w = .ok (.bool (decide (n = m))) w := by
  rw [run_eql_struct, eqIn29, Result.andThen_ok]
  congr 2
  rw [Bool.eq_iff_iff, List.all_eq_true, decide_eq_true_eq]
  constructor
  · intro h
    apply Nat.eq_of_testBit_eq
    intro j
    rcases Nat.lt_or_ge j 64 with hj | hj
    · have := h j (by rw [List.mem_range'_1]; omega)
      simpa using this
    · rw [Nat.testBit_lt_two_pow (Nat.lt_of_lt_of_le (show n < 2 ^ 64 from hn) (Nat.pow_le_pow_right (by omega) hj)), Nat.testBit_lt_two_pow (Nat.lt_of_lt_of_le (show m < 2 ^ 64 from hm) (Nat.pow_le_pow_right (by omega) hj))]
  · rintro rfl i _
    simp

section
variable {ops : Array Oper} {rest : List Oper} {o : Oper} {a : Act} {w : World} {Q : Exit → Act → World → Prop}
theorem wl_eq29 (hgd : o.guard = none) (x y : Operand) (s : TypeId) (ho : o.op = .binOp .eql 29 x y s) (n m : Nat) (hx : a.eval x = .agg (bw n)) (hy : a.eval y = .agg (bw m)) (hn : Hid (n < 18446744073709551616)) (hm : Hid (m < 18446744073709551616))
    (h : wpList Try.prog ops Q rest (a.put o.dst (.bool (decide (n = m)))) w) : wpList Try.prog ops Q (o :: rest) a w :=
  wpList_plain hgd fun _ hK => by
    unfold Oper.wp execOp
    simp only [ho, hx, hy, Sem.run_bind, run_eqGuard_agg w _ 29 _ _ _ _ guard29, eq29 w n m hn.out hm.out, Result.andThen_ok]
    exact hK _ _ h
end

end Go.Proofs.Ytafjllfmagmhbaa
