import Derived.Test.YtcffgbmgjdhkjaaAF
set_option linter.unusedSimpArgs false
set_option linter.unusedVariables false
namespace Go.Proofs.Ytcffgbmgjdhkjaa
open Go.RowKit

theorem size3' : (Try.prog.info? 3).map (·.size) = some 1 := by kernel_rfl
theorem part3 (w : World) (cs : Array Value) (i : Nat) (n : Int) (h : cs[i]? = some (.int .i64 n)) : (part 3 cs (i * 1)).run Try.prog w = .ok (.int .i64 n) w := by
  have ha : (isAgg 3).run Try.prog w = .ok false w := by
    unfold isAgg
    rw [Sem.run_bind, run_underlying Try.underlying3 w]
    rfl
  unfold part
  rw [Sem.run_bind, ha]
  simp only [Result.andThen_ok, Bool.false_eq_true, if_false, Nat.mul_one, h, Sem.run_pure]
theorem sizeOf3 (w : World) : (sizeOf 3).run Try.prog w = .ok 1 w := by
  cases hq : Try.prog.info? 3 with
  | none => have := size3'; simp [hq] at this
  | some i =>
    have hs : i.size = 1 := by have := size3'; simpa [hq] using this
    simp [sizeOf, typeInfo, hq, hs]

theorem eqIn3 (w : World) (d : Nat) (x y : Int) : (Op.equalIn (d + 1) 3 (.int .i64 x) (.int .i64 y)).run Try.prog w = .ok (x == y) w := by
  rw [Op.equalIn]
  simp [run_underlying Try.underlying3]

theorem eqIn47 (w : World) (d : Nat) (a3 a4 a5 b3 b4 b5 : Int) : (Op.equalIn (d + 2) 47 (.agg #[.int .i64 a3, .int .i64 a4, .int .i64 a5]) (.agg #[.int .i64 b3, .int .i64 b4, .int .i64 b5])).run Try.prog w =
    .ok (a3 == b3 && (a4 == b4 && a5 == b5)) w := by
  have p (cs : Array Value) (i : Nat) (n : Int) (h : cs[i]? = some (.int .i64 n)) := part3 w cs i n h
  rw [Op.equalIn]
  simp only [Sem.run_bind, run_underlying Try.underlying47, Result.andThen_ok, sizeOf3]
  rw [Std.Legacy.Range.forIn_eq_forIn_range']
  have hr : List.range' [:3].start [:3].size [:3].step = [0, 1, 2] := rfl
  rw [hr]
  have u0 := p #[.int .i64 a3, .int .i64 a4, .int .i64 a5] 0 a3 rfl
  have u1 := p #[.int .i64 a3, .int .i64 a4, .int .i64 a5] 1 a4 rfl
  have u2 := p #[.int .i64 a3, .int .i64 a4, .int .i64 a5] 2 a5 rfl
  have v0 := p #[.int .i64 b3, .int .i64 b4, .int .i64 b5] 0 b3 rfl
  have v1 := p #[.int .i64 b3, .int .i64 b4, .int .i64 b5] 1 b4 rfl
  have v2 := p #[.int .i64 b3, .int .i64 b4, .int .i64 b5] 2 b5 rfl
  clear p hr
  have f0 := eqIn3 w d a3 b3
  have f1 := eqIn3 w d a4 b4
  have f2 := eqIn3 w d a5 b5
  simp only [List.forIn_cons, List.forIn_nil, Sem.run_bind, u0, v0, f0, Result.andThen_ok]
  by_cases e0 : a3 = b3
  · subst e0
    simp only [beq_self_eq_true, Bool.not_true, Bool.false_eq_true, if_false, Sem.run_pure, Result.andThen_ok, Bool.true_and, Sem.run_bind, u1, v1, f1]
    by_cases e1 : a4 = b4
    · subst e1
      simp only [beq_self_eq_true, Bool.not_true, Bool.false_eq_true, if_false, Sem.run_pure, Result.andThen_ok, Bool.true_and, Sem.run_bind, u2, v2, f2]
      by_cases e2 : a5 = b5
      · subst e2
        simp only [f2, beq_self_eq_true, Bool.not_true, Bool.false_eq_true, if_false, Sem.run_pure, Result.andThen_ok]
      · have e2' : (a5 == b5) = false := by simpa using e2
        simp only [e2', Bool.not_false, if_true, Sem.run_pure, Result.andThen_ok]
    · have e1' : (a4 == b4) = false := by simpa using e1
      simp only [e1', Bool.not_false, if_true, Sem.run_pure, Result.andThen_ok, Bool.false_and]
  · have e0' : (a3 == b3) = false := by simpa using e0
    simp only [e0', Bool.not_false, if_true, Sem.run_pure, Result.andThen_ok, Bool.false_and]

theorem neq49 (a0 a1 a2 a3 a4 a5 b0 b1 b2 b3 b4 b5 : Int) (w : World) :
    (binOp .neq 49 (.agg #[.int .i64 a0, .int .i64 a1, .int .u64 a2, .int .i64 a3, .int .i64 a4, .int .i64 a5]) (.agg #[.int .i64 b0, .int .i64 b1, .int .u64 b2, .int .i64 b3, .int .i64 b4, .int .i64 b5])).run Try.prog w =
      .ok (.bool (!decide ((⟨a0, a1, a2, a3, a4, a5⟩ : Nd) = ⟨b0, b1, b2, b3, b4, b5⟩))) w := by
  have h47 := eqIn47 w 9997 a3 a4 a5 b3 b4 b5
  go_simp
  split <;> rename_i e0
  · split <;> rename_i e1
    · split <;> rename_i e2
      · by_cases e3 : a3 = b3 <;> by_cases e4 : a4 = b4 <;> by_cases e5 : a5 = b5 <;> simp [e0, e1, e2, e3, e4, e5]
      · simp [e2]
    · simp [e1]
  · simp [e0]

theorem row6f {w : World} {b o k : Nat} {ls : List Nd} {d : Nd} (h : RowAt 6 Nd.cells w b o ls) (hi : ls[k]? = some d) :
    w.cell? ⟨b, o + k * 6, none⟩ = some (.int .i64 d.op) ∧ w.cell? ⟨b, o + k * 6 + 1, none⟩ = some (.int .i64 d.w) ∧ w.cell? ⟨b, o + k * 6 + 2, none⟩ = some (.int .u64 d.n) ∧
    w.cell? ⟨b, o + k * 6 + 3, none⟩ = some (.int .i64 d.k0) ∧ w.cell? ⟨b, o + k * 6 + 4, none⟩ = some (.int .i64 d.k1) ∧ w.cell? ⟨b, o + k * 6 + 5, none⟩ = some (.int .i64 d.k2) := by
  have e (j : Nat) : o + k * 6 + j = o + (6 * k + j) := by omega
  refine ⟨?_, ?_, ?_, ?_, ?_, ?_⟩
  · have := h k d hi 0 _ rfl
    rw [Nat.add_zero, Nat.mul_comm] at this
    exact this
  · rw [e]; exact h k d hi 1 _ rfl
  · rw [e]; exact h k d hi 2 _ rfl
  · rw [e]; exact h k d hi 3 _ rfl
  · rw [e]; exact h k d hi 4 _ rfl
  · rw [e]; exact h k d hi 5 _ rfl

set_option maxRecDepth 100000 in
set_option maxHeartbeats 1000000 in
theorem eqnode_any (v1 v2 : Value) (l1 l2 : List Nd) (w : World) (h1 : SlIs 6 Nd.cells w v1 l1) (h2 : SlIs 6 Nd.cells w v2 l2) (hl : l1.length ≤ 1000000) (hl2 : l2.length ≤ 1000000) :
    Calls Try.prog 24 #[v1, v2] w fun e w' => e = .returned (.bool (decide (l1 = l2))) ∧ Below w.heap.size w w' := by
  obtain ⟨a1, c1, rfl⟩ := h1.shape
  obtain ⟨a2, c2, rfl⟩ := h2.shape
  by_cases hn : l1.length = l2.length
  rotate_left
  · have hne : Hid (decide (l1 = l2) = false) := Lib.hid (by rw [decide_eq_false_iff_not]; rintro rfl; exact hn rfl)
    have hq : (((l1.length : Int)) != (l2.length : Int)) = true := by simp; omega
    clear hn
    go_enter Try.func24, Try.ntmps24
    (repeat (first | with_reducible refine xThenN ?_ | with_reducible refine xThenE ?_ | with_reducible refine xThenR ?_ | with_reducible refine xThenP ?_ | with_reducible refine xBlockEq ?_ | with_reducible refine xBlockNe rfl ?_ | with_reducible refine xBlockN ?_ | with_reducible refine xBlockR ?_ | with_reducible refine xBlockP ?_ | go_values | go_skip | go_guarded | go_step | go_upon | go_back | (dsimp only)))
    go_ret
    exact ⟨ret_bool (by rw [hne.out]), Below.refl _ _⟩
  have hq : (((l1.length : Int)) != (l2.length : Int)) = false := by simp; omega
  have Hn := Lib.hid hn
  clear hn
  go_enter Try.func24, Try.ntmps24
  (repeat (first | with_reducible refine xThenN ?_ | with_reducible refine xThenE ?_ | with_reducible refine xThenR ?_ | with_reducible refine xThenP ?_ | with_reducible refine xBlockEq ?_ | with_reducible refine xBlockNe rfl ?_ | with_reducible refine xBlockN ?_ | with_reducible refine xBlockR ?_ | with_reducible refine xBlockP ?_ | go_values | go_skip | go_guarded | go_step | go_upon | go_back | (dsimp only)))
  go_loopw [5, 13] (fun _ i wr => ∃ (k : Nat), k ≤ l1.length ∧ i = .int .i64 k ∧ Hid (l1.take k = l2.take k) ∧ Below w.heap.size w wr) (fun _ i _ => l1.length - (intOf i).toNat)
  case atStart => exact ⟨0, by omega, rfl, Lib.hid (by simp), Below.refl _ _⟩
  case round =>
    obtain ⟨k, hk, rfl, hT, HB⟩ := hrel
    rcases Nat.lt_or_ge k l1.length with hlt | hge
    · obtain ⟨x, hx⟩ : ∃ x, l1[k]? = some x := ⟨_, List.getElem?_eq_getElem hlt⟩
      obtain ⟨y, hy⟩ : ∃ y, l2[k]? = some y := ⟨_, List.getElem?_eq_getElem (by rw [← Hn.out]; exact hlt)⟩
      obtain ⟨b1, o1, rfl, R1⟩ := h1.row (by omega)
      obtain ⟨b2, o2, rfl, R2⟩ := h2.row (by have := Hn.out; omega)
      obtain ⟨x0, x1, x2, x3, x4, x5⟩ := x
      obtain ⟨y0, y1, y2, y3, y4, y5⟩ := y
      obtain ⟨e0, e1, e2, e3, e4, e5⟩ := row6f (R1.below HB) hx
      obtain ⟨f0, f1, f2, f3, f4, f5⟩ := row6f (R2.below HB) hy
      dsimp only at e0 e1 e2 e3 e4 e5 f0 f1 f2 f3 f4 f5
      have Hx := Lib.hid hx
      have Hy := Lib.hid hy
      have k0 : (0 : Int) ≤ k := by omega
      have k1 : (k : Int) < l1.length := by omega
      have k2 : (k : Int) < l2.length := by have := Hn.out; omega
      clear hx hy
      by_cases hxy : (⟨x0, x1, x2, x3, x4, x5⟩ : Nd) = ⟨y0, y1, y2, y3, y4, y5⟩
      · have hxq : ∀ w, (binOp .neq 49 (.agg #[.int .i64 x0, .int .i64 x1, .int .u64 x2, .int .i64 x3, .int .i64 x4, .int .i64 x5]) (.agg #[.int .i64 y0, .int .i64 y1, .int .u64 y2, .int .i64 y3, .int .i64 y4, .int .i64 y5])).run Try.prog w = .ok (.bool false) w := fun w => by rw [neq49, decide_eq_true hxy]; rfl
        have Hxy := Lib.hid hxy
        clear hxy
        (repeat (first | with_reducible refine xThenN ?_ | with_reducible refine xThenE ?_ | with_reducible refine xThenR ?_ | with_reducible refine xThenP ?_ | with_reducible refine xBlockEq ?_ | with_reducible refine xBlockNe rfl ?_ | with_reducible refine xBlockN ?_ | with_reducible refine xBlockR ?_ | with_reducible refine xBlockP ?_ | go_values | go_skip | go_guarded | go_step | go_upon | go_back | (dsimp only)))
        go_quiet (fail)
        (repeat (first | with_reducible refine xThenN ?_ | with_reducible refine xThenE ?_ | with_reducible refine xThenR ?_ | with_reducible refine xThenP ?_ | with_reducible refine xBlockEq ?_ | with_reducible refine xBlockNe rfl ?_ | with_reducible refine xBlockN ?_ | with_reducible refine xBlockR ?_ | with_reducible refine xBlockP ?_ | go_values | go_skip | go_guarded | go_step | go_upon | go_back | (dsimp only)))
        exact ⟨⟨k + 1, by omega, by go_num, Lib.hid (eq_step Hx.out Hy.out hT.out Hxy.out), below_drewN HB _⟩, by simp [intOf]; omega⟩
      · have hxq : ∀ w, (binOp .neq 49 (.agg #[.int .i64 x0, .int .i64 x1, .int .u64 x2, .int .i64 x3, .int .i64 x4, .int .i64 x5]) (.agg #[.int .i64 y0, .int .i64 y1, .int .u64 y2, .int .i64 y3, .int .i64 y4, .int .i64 y5])).run Try.prog w = .ok (.bool true) w := fun w => by rw [neq49, decide_eq_false hxy]; rfl
        have hne : Hid (decide (l1 = l2) = false) := Lib.hid (ne_step Hx.out Hy.out hxy)
        clear hxy
        (repeat (first | with_reducible refine xThenN ?_ | with_reducible refine xThenE ?_ | with_reducible refine xThenR ?_ | with_reducible refine xThenP ?_ | with_reducible refine xBlockEq ?_ | with_reducible refine xBlockNe rfl ?_ | with_reducible refine xBlockN ?_ | with_reducible refine xBlockR ?_ | with_reducible refine xBlockP ?_ | go_values | go_skip | go_guarded | go_step | go_upon | go_back | (dsimp only)))
        go_quiet (fail)
        (repeat (first | with_reducible refine xThenN ?_ | with_reducible refine xThenE ?_ | with_reducible refine xThenR ?_ | with_reducible refine xThenP ?_ | with_reducible refine xBlockEq ?_ | with_reducible refine xBlockNe rfl ?_ | with_reducible refine xBlockN ?_ | with_reducible refine xBlockR ?_ | with_reducible refine xBlockP ?_ | go_values | go_skip | go_guarded | go_step | go_upon | go_back | (dsimp only)))
        go_ret
        exact ⟨ret_bool (by rw [hne.out]), below_drewN HB _⟩
    · (repeat (first | with_reducible refine xThenN ?_ | with_reducible refine xThenE ?_ | with_reducible refine xThenR ?_ | with_reducible refine xThenP ?_ | with_reducible refine xBlockEq ?_ | with_reducible refine xBlockNe rfl ?_ | with_reducible refine xBlockN ?_ | with_reducible refine xBlockR ?_ | with_reducible refine xBlockP ?_ | go_values | go_skip | go_guarded | go_step | go_upon | go_back | (dsimp only)))
      go_ret
      refine ⟨ret_bool ?_, HB⟩
      have := hT.out
      rw [List.take_of_length_le hge, List.take_of_length_le (by rw [← Hn.out]; exact hge)] at this
      simp [this]

theorem str_beq (a b : List Int) (ha : ByteL a) (hb : ByteL b) : ((strOfNums a).toList == (strOfNums b).toList) = decide (a = b) := by
  rw [ByteArray.toList_eq, ByteArray.toList_eq, Bool.eq_iff_iff]
  simp only [beq_iff_eq, decide_eq_true_eq]
  constructor
  · intro h
    exact strOf_inj ha hb (ByteArray.ext (Array.toList_inj.1 h))
  · rintro rfl
    rfl

set_option maxRecDepth 100000 in
theorem beq_any (v1 v2 : Value) (l1 l2 : List Int) (w : World) (h1 : SlIs 1 u8c w v1 l1) (h2 : SlIs 1 u8c w v2 l2) (b1 : ByteL l1) (b2 : ByteL l2) :
    Calls Try.prog 25 #[v1, v2] w fun e w' => e = .returned (.bool (decide (l1 = l2))) ∧ Below w.heap.size w w' := by
  have c1 := conv_str _ _ _ h1
  have c2 := conv_str _ _ _ h2
  have hs := str_beq l1 l2 b1 b2
  generalize strOfNums l1 = s1 at c1 hs
  generalize strOfNums l2 = s2 at c2 hs
  generalize decide (l1 = l2) = q at hs ⊢
  go_enter Try.func25, Try.ntmps25
  (repeat (first | with_reducible refine xThenN ?_ | with_reducible refine xThenE ?_ | with_reducible refine xThenR ?_ | with_reducible refine xThenP ?_ | with_reducible refine xBlockEq ?_ | with_reducible refine xBlockNe rfl ?_ | with_reducible refine xBlockN ?_ | with_reducible refine xBlockR ?_ | with_reducible refine xBlockP ?_ | go_values | go_skip | go_guarded | go_step | go_upon | go_back | (dsimp only)))
  go_ret
  exact ⟨ret_bool (by simp [hs]), Below.refl _ _⟩

end Go.Proofs.Ytcffgbmgjdhkjaa
