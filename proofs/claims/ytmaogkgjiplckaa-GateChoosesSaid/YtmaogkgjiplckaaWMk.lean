import Derived.Test.YtmaogkgjiplckaaWS
set_option linter.unusedSimpArgs false
set_option linter.unusedVariables false
namespace Go.Proofs.Ytmaogkgjiplckaa
open Go.RowKit
theorem lt_powm {n W : Nat} (h : n < 2 ^ W) (hW : W ≤ 64) : n < 18446744073709551616 := Nat.lt_of_lt_of_le h (pow_le64 hW)
theorem build29m (w : World) : (Instr.build 80 #[]).run Try.prog w = .ok (.agg (bw 0)) w := by kernel_rfl
theorem wl_build29m {ops : Array Oper} {rest : List Oper} {o : Oper} {a : Act} {w : World} {Q : Exit → Act → World → Prop} (hgd : o.guard = none) (ho : o.op = .build 80 #[]) (h : wpList Try.prog ops Q rest (a.put o.dst (.agg (bw 0))) w) : wpList Try.prog ops Q (o :: rest) a w :=
  wpList_plain hgd fun _ hK => by
    unfold Oper.wp execOp
    have e : (#[] : Array (Nat × Operand)).map (fun p => (p.1, a.eval p.2)) = #[] := by simp
    simp only [ho, e, Sem.run_bind, build29m w, Result.andThen_ok]
    exact hK _ _ h

set_option maxHeartbeats 1000000 in
theorem rmask_any (a : Int) (w : World) :
    Calls Try.prog 16 #[.int .i64 a] w fun e w' => e = .returned (.int .u64 ((2 ^ wid a - 1 : Nat) : Int)) ∧ Below w.heap.size w w' := by
  have hW := (wid_bd a).2
  have hp := Nat.pow_pos (n := wid a) (show 0 < 2 by omega)
  have hl : Hid (2 ^ wid a - 1 < 18446744073709551616) := Lib.hid (lt_powm (by omega) hW)
  go_enter Try.func16, Try.ntmps16
  (repeat (first | (with_reducible first | refine xA ?_ | refine xB ?_ | refine xC ?_ | refine xD ?_ | refine xH ?_ | refine xI rfl ?_ | refine xE ?_ | refine xF ?_ | refine xG ?_) | go_skip | go_guarded | ((with_reducible refine wl_id ?_); refine wl_build29m rfl rfl ?_; simp only [Act.put, List.setIfInBounds_toArray, List.set_cons_succ, List.set_cons_zero]) | (go_at_call 27; (with_reducible refine (rwidth_any _ _).mono ?_); rintro e w1 ⟨rfl, rfl⟩) | (go_at_call 43; (with_reducible refine (not_any _ _ _ hW).mono ?_); rintro e w1 ⟨rfl, hb⟩) | (go_at_call 42; (with_reducible refine (num_any _ _ (by assumption)).mono ?_); rintro e w2 ⟨rfl, hb2⟩) | go_values | go_skip | go_guarded | go_step | go_upon | go_back | (show Oper.upon _ _ _ _ _ _; go_simp) | (dsimp only)))
  go_ret
  exact ⟨ret_int rfl, hb.trans (hb2.mono hb.size)⟩


/-- a number cut by a mask -/
theorem mask_and {N : Nat} (hN : 1 ≤ N ∧ N ≤ 64) {x : Int} (h0 : 0 ≤ x) (h1 : x < 18446744073709551616) : bits BinOp.and IntKind.u64 x ((2 ^ N - 1 : Nat) : Int) = ((x.toNat % 2 ^ N : Nat) : Int) := by
  obtain ⟨n, rfl⟩ := Int.eq_ofNat_of_zero_le h0
  have hp := pow_le64 hN.2
  have hp0 := Nat.pow_pos (n := N) (show 0 < 2 by omega)
  rw [bits_and_u64_nat _ _ (by omega) (by omega), Int.toNat_natCast, Nat.and_two_pow_sub_one_eq_mod]
theorem wid_in {N : Nat} (hN : 1 ≤ N ∧ N ≤ 64) : wid (N : Int) = N := by unfold wid; (repeat' split) <;> omega

end Go.Proofs.Ytmaogkgjiplckaa
