import Derived.Test.YtcffgbmgjdhkjaaAJ
set_option linter.unusedSimpArgs false
set_option linter.unusedVariables false
namespace Go.Proofs.Ytcffgbmgjdhkjaa
open Go.RowKit

set_option maxRecDepth 100000 in
set_option maxHeartbeats 1000000 in
theorem ints_any (v1 v2 : Value) (l1 l2 : List Int) (w : World) (h1 : SlIs 1 i64c w v1 l1) (h2 : SlIs 1 i64c w v2 l2) (hl : l1.length ≤ 1000000) (hl2 : l2.length ≤ 1000000) :
    Calls Try.prog 19 #[v1, v2] w fun e w' => e = .returned (.bool (decide (l1 = l2))) ∧ Below w.heap.size w w' := by
  obtain ⟨a1, c1, rfl⟩ := h1.shape
  obtain ⟨a2, c2, rfl⟩ := h2.shape
  by_cases hn : l1.length = l2.length
  rotate_left
  · have hne : Hid (decide (l1 = l2) = false) := Lib.hid (by rw [decide_eq_false_iff_not]; rintro rfl; exact hn rfl)
    have hq : (((l1.length : Int)) != (l2.length : Int)) = true := by simp; omega
    clear hn
    go_enter Try.func19, Try.ntmps19
    (repeat (first | with_reducible refine xThenN ?_ | with_reducible refine xThenE ?_ | with_reducible refine xThenR ?_ | with_reducible refine xThenP ?_ | with_reducible refine xBlockEq ?_ | with_reducible refine xBlockNe rfl ?_ | with_reducible refine xBlockN ?_ | with_reducible refine xBlockR ?_ | with_reducible refine xBlockP ?_ | go_values | go_skip | go_guarded | go_step | go_upon | go_back | (dsimp only)))
    go_ret
    exact ⟨ret_bool (by rw [hne.out]), Below.refl _ _⟩
  have hq : (((l1.length : Int)) != (l2.length : Int)) = false := by simp; omega
  have Hn := Lib.hid hn
  clear hn
  go_enter Try.func19, Try.ntmps19
  (repeat (first | with_reducible refine xThenN ?_ | with_reducible refine xThenE ?_ | with_reducible refine xThenR ?_ | with_reducible refine xThenP ?_ | with_reducible refine xBlockEq ?_ | with_reducible refine xBlockNe rfl ?_ | with_reducible refine xBlockN ?_ | with_reducible refine xBlockR ?_ | with_reducible refine xBlockP ?_ | go_values | go_skip | go_guarded | go_step | go_upon | go_back | (dsimp only)))
  go_loopw [5] (fun i wr => ∃ (k : Nat), k ≤ l1.length ∧ i = .int .i64 k ∧ Hid (l1.take k = l2.take k) ∧ Below w.heap.size w wr) (fun i _ => l1.length - (intOf i).toNat)
  case atStart => exact ⟨0, by omega, rfl, Lib.hid (by simp), Below.refl _ _⟩
  case round =>
    obtain ⟨k, hk, rfl, hT, HB⟩ := hrel
    rcases Nat.lt_or_ge k l1.length with hlt | hge
    · obtain ⟨x, hx⟩ : ∃ x, l1[k]? = some x := ⟨_, List.getElem?_eq_getElem hlt⟩
      obtain ⟨y, hy⟩ : ∃ y, l2[k]? = some y := ⟨_, List.getElem?_eq_getElem (by rw [← Hn.out]; exact hlt)⟩
      obtain ⟨b1, o1, rfl, R1⟩ := h1.row (by omega)
      obtain ⟨b2, o2, rfl, R2⟩ := h2.row (by have := Hn.out; omega)
      have e1 := cell_keep HB (R1 k x hx 0 _ rfl)
      have e2 := cell_keep HB (R2 k y hy 0 _ rfl)
      simp only [Nat.one_mul, Nat.add_zero] at e1 e2
      have Hx := Lib.hid hx
      have Hy := Lib.hid hy
      have k0 : (0 : Int) ≤ k := by omega
      have k1 : (k : Int) < l1.length := by omega
      have k2 : (k : Int) < l2.length := by have := Hn.out; omega
      clear hx hy
      by_cases hxy : x = y
      · have hxq : (x != y) = false := by simp [hxy]
        have Hxy := Lib.hid hxy
        clear hxy
        (repeat (first | with_reducible refine xThenN ?_ | with_reducible refine xThenE ?_ | with_reducible refine xThenR ?_ | with_reducible refine xThenP ?_ | with_reducible refine xBlockEq ?_ | with_reducible refine xBlockNe rfl ?_ | with_reducible refine xBlockN ?_ | with_reducible refine xBlockR ?_ | with_reducible refine xBlockP ?_ | go_values | go_skip | go_guarded | go_step | go_upon | go_back | (dsimp only)))
        go_quiet (fail)
        (repeat (first | with_reducible refine xThenN ?_ | with_reducible refine xThenE ?_ | with_reducible refine xThenR ?_ | with_reducible refine xThenP ?_ | with_reducible refine xBlockEq ?_ | with_reducible refine xBlockNe rfl ?_ | with_reducible refine xBlockN ?_ | with_reducible refine xBlockR ?_ | with_reducible refine xBlockP ?_ | go_values | go_skip | go_guarded | go_step | go_upon | go_back | (dsimp only)))
        exact ⟨⟨k + 1, by omega, by go_num, Lib.hid (eq_step Hx.out Hy.out hT.out Hxy.out), below_drewN HB _⟩, by simp [intOf]; omega⟩
      · have hxq : (x != y) = true := by simpa using hxy
        have hne : Hid (decide (l1 = l2) = false) := Lib.hid (ne_step Hx.out Hy.out hxy)
        clear hxy
        (repeat (first | with_reducible refine xThenN ?_ | with_reducible refine xThenE ?_ | with_reducible refine xThenR ?_ | with_reducible refine xThenP ?_ | with_reducible refine xBlockEq ?_ | with_reducible refine xBlockNe rfl ?_ | with_reducible refine xBlockN ?_ | with_reducible refine xBlockR ?_ | with_reducible refine xBlockP ?_ | go_values | go_skip | go_guarded | go_step | go_upon | go_back | (dsimp only)))
        go_quiet (fail)
        (repeat (first | with_reducible refine xThenN ?_ | with_reducible refine xThenE ?_ | with_reducible refine xThenR ?_ | with_reducible refine xThenP ?_ | with_reducible refine xBlockEq ?_ | with_reducible refine xBlockNe rfl ?_ | with_reducible refine xBlockN ?_ | with_reducible refine xBlockR ?_ | with_reducible refine xBlockP ?_ | go_values | go_skip | go_guarded | go_step | go_upon | go_back | (dsimp only)))
        go_ret
        exact ⟨ret_bool (by rw [hne.out]), below_drewN HB _⟩
    · (repeat (first | with_reducible refine xThenN ?_ | with_reducible refine xThenE ?_ | with_reducible refine xThenR ?_ | with_reducible refine xThenP ?_ | with_reducible refine xBlockEq ?_ | with_reducible refine xBlockNe rfl ?_ | with_reducible refine xBlockN ?_ | with_reducible refine xBlockR ?_ | with_reducible refine xBlockP ?_ | go_values | go_skip | go_guarded | go_step | go_upon | go_back | (dsimp only)))
      go_ret
      refine ⟨ret_bool ?_, HB⟩
      have := hT.out
      rw [List.take_of_length_le hge, List.take_of_length_le (by rw [← Hn.out]; exact hge)] at this
      simp [this]

set_option maxRecDepth 100000 in
set_option maxHeartbeats 1000000 in
theorem nsame_any (v1 v2 : Value) (l1 l2 : List Nd) (w : World) (h1 : SlIs 6 Nd.cells w v1 l1) (h2 : SlIs 6 Nd.cells w v2 l2) (hl : l1.length ≤ 1000000) (hl2 : l2.length ≤ 1000000) :
    Calls Try.prog 20 #[v1, v2] w fun e w' => e = .returned (.bool (decide (l1 = l2))) ∧ Below w.heap.size w w' := by
  obtain ⟨a1, c1, rfl⟩ := h1.shape
  obtain ⟨a2, c2, rfl⟩ := h2.shape
  by_cases hn : l1.length = l2.length
  rotate_left
  · have hne : Hid (decide (l1 = l2) = false) := Lib.hid (by rw [decide_eq_false_iff_not]; rintro rfl; exact hn rfl)
    have hq : (((l1.length : Int)) != (l2.length : Int)) = true := by simp; omega
    clear hn
    go_enter Try.func20, Try.ntmps20
    (repeat (first | with_reducible refine xThenN ?_ | with_reducible refine xThenE ?_ | with_reducible refine xThenR ?_ | with_reducible refine xThenP ?_ | with_reducible refine xBlockEq ?_ | with_reducible refine xBlockNe rfl ?_ | with_reducible refine xBlockN ?_ | with_reducible refine xBlockR ?_ | with_reducible refine xBlockP ?_ | go_values | go_skip | go_guarded | go_step | go_upon | go_back | (dsimp only)))
    go_ret
    exact ⟨ret_bool (by rw [hne.out]), Below.refl _ _⟩
  have hq : (((l1.length : Int)) != (l2.length : Int)) = false := by simp; omega
  have Hn := Lib.hid hn
  clear hn
  go_enter Try.func20, Try.ntmps20
  (repeat (first | with_reducible refine xThenN ?_ | with_reducible refine xThenE ?_ | with_reducible refine xThenR ?_ | with_reducible refine xThenP ?_ | with_reducible refine xBlockEq ?_ | with_reducible refine xBlockNe rfl ?_ | with_reducible refine xBlockN ?_ | with_reducible refine xBlockR ?_ | with_reducible refine xBlockP ?_ | go_values | go_skip | go_guarded | go_step | go_upon | go_back | (dsimp only)))
  go_loopw [5] (fun i wr => ∃ (k : Nat), k ≤ l1.length ∧ i = .int .i64 k ∧ Hid (l1.take k = l2.take k) ∧ Below w.heap.size w wr) (fun i _ => l1.length - (intOf i).toNat)
  case atStart => exact ⟨0, by omega, rfl, Lib.hid (by simp), Below.refl _ _⟩
  case round =>
    obtain ⟨k, hk, rfl, hT, HB⟩ := hrel
    rcases Nat.lt_or_ge k l1.length with hlt | hge
    · obtain ⟨x, hx⟩ : ∃ x, l1[k]? = some x := ⟨_, List.getElem?_eq_getElem hlt⟩
      obtain ⟨y, hy⟩ : ∃ y, l2[k]? = some y := ⟨_, List.getElem?_eq_getElem (by rw [← Hn.out]; exact hlt)⟩
      obtain ⟨b1, o1, rfl, R1⟩ := h1.row (by omega)
      obtain ⟨b2, o2, rfl, R2⟩ := h2.row (by have := Hn.out; omega)
      obtain ⟨x0, x1, x2, x3, x4, x5⟩ := x
      obtain ⟨y0, y1, y2, y3, y4, y5⟩ := y
      obtain ⟨e0, e1, e2, e3, e4, e5⟩ := row6f (R1.below HB) hx
      obtain ⟨f0, f1, f2, f3, f4, f5⟩ := row6f (R2.below HB) hy
      dsimp only at e0 e1 e2 e3 e4 e5 f0 f1 f2 f3 f4 f5
      have Hx := Lib.hid hx
      have Hy := Lib.hid hy
      have k0 : (0 : Int) ≤ k := by omega
      have k1 : (k : Int) < l1.length := by omega
      have k2 : (k : Int) < l2.length := by have := Hn.out; omega
      clear hx hy
      by_cases hxy : (⟨x0, x1, x2, x3, x4, x5⟩ : Nd) = ⟨y0, y1, y2, y3, y4, y5⟩
      · have hxq : ∀ w, (binOp .neq 49 (.agg #[.int .i64 x0, .int .i64 x1, .int .u64 x2, .int .i64 x3, .int .i64 x4, .int .i64 x5]) (.agg #[.int .i64 y0, .int .i64 y1, .int .u64 y2, .int .i64 y3, .int .i64 y4, .int .i64 y5])).run Try.prog w = .ok (.bool false) w := fun w => by rw [neq49, decide_eq_true hxy]; rfl
        have Hxy := Lib.hid hxy
        clear hxy
        (repeat (first | with_reducible refine xThenN ?_ | with_reducible refine xThenE ?_ | with_reducible refine xThenR ?_ | with_reducible refine xThenP ?_ | with_reducible refine xBlockEq ?_ | with_reducible refine xBlockNe rfl ?_ | with_reducible refine xBlockN ?_ | with_reducible refine xBlockR ?_ | with_reducible refine xBlockP ?_ | go_values | go_skip | go_guarded | go_step | go_upon | go_back | (dsimp only)))
        go_quiet (fail)
        (repeat (first | with_reducible refine xThenN ?_ | with_reducible refine xThenE ?_ | with_reducible refine xThenR ?_ | with_reducible refine xThenP ?_ | with_reducible refine xBlockEq ?_ | with_reducible refine xBlockNe rfl ?_ | with_reducible refine xBlockN ?_ | with_reducible refine xBlockR ?_ | with_reducible refine xBlockP ?_ | go_values | go_skip | go_guarded | go_step | go_upon | go_back | (dsimp only)))
        exact ⟨⟨k + 1, by omega, by go_num, Lib.hid (eq_step Hx.out Hy.out hT.out Hxy.out), below_drewN HB _⟩, by simp [intOf]; omega⟩
      · have hxq : ∀ w, (binOp .neq 49 (.agg #[.int .i64 x0, .int .i64 x1, .int .u64 x2, .int .i64 x3, .int .i64 x4, .int .i64 x5]) (.agg #[.int .i64 y0, .int .i64 y1, .int .u64 y2, .int .i64 y3, .int .i64 y4, .int .i64 y5])).run Try.prog w = .ok (.bool true) w := fun w => by rw [neq49, decide_eq_false hxy]; rfl
        have hne : Hid (decide (l1 = l2) = false) := Lib.hid (ne_step Hx.out Hy.out hxy)
        clear hxy
        (repeat (first | with_reducible refine xThenN ?_ | with_reducible refine xThenE ?_ | with_reducible refine xThenR ?_ | with_reducible refine xThenP ?_ | with_reducible refine xBlockEq ?_ | with_reducible refine xBlockNe rfl ?_ | with_reducible refine xBlockN ?_ | with_reducible refine xBlockR ?_ | with_reducible refine xBlockP ?_ | go_values | go_skip | go_guarded | go_step | go_upon | go_back | (dsimp only)))
        go_quiet (fail)
        (repeat (first | with_reducible refine xThenN ?_ | with_reducible refine xThenE ?_ | with_reducible refine xThenR ?_ | with_reducible refine xThenP ?_ | with_reducible refine xBlockEq ?_ | with_reducible refine xBlockNe rfl ?_ | with_reducible refine xBlockN ?_ | with_reducible refine xBlockR ?_ | with_reducible refine xBlockP ?_ | go_values | go_skip | go_guarded | go_step | go_upon | go_back | (dsimp only)))
        go_ret
        exact ⟨ret_bool (by rw [hne.out]), below_drewN HB _⟩
    · (repeat (first | with_reducible refine xThenN ?_ | with_reducible refine xThenE ?_ | with_reducible refine xThenR ?_ | with_reducible refine xThenP ?_ | with_reducible refine xBlockEq ?_ | with_reducible refine xBlockNe rfl ?_ | with_reducible refine xBlockN ?_ | with_reducible refine xBlockR ?_ | with_reducible refine xBlockP ?_ | go_values | go_skip | go_guarded | go_step | go_upon | go_back | (dsimp only)))
      go_ret
      refine ⟨ret_bool ?_, HB⟩
      have := hT.out
      rw [List.take_of_length_le hge, List.take_of_length_le (by rw [← Hn.out]; exact hge)] at this
      simp [this]


theorem ints_anyX (v1 v2 : Value) (l1 l2 : List Int) (w : World) (h1 : SlIs 1 i64c w v1 l1) (h2 : SlIs 1 i64c w v2 l2) (hl : l1.length ≤ 1000000) (hl2 : l2.length ≤ 1000000) (r : Bool) (hr : Hid (decide (l1 = l2) = r)) :
    Calls Try.prog 19 #[v1, v2] w fun e w' => e = .returned (.bool r) ∧ Below w.heap.size w w' := by
  rw [← hr.out]; exact ints_any v1 v2 l1 l2 w h1 h2 hl hl2
theorem nsame_anyX (v1 v2 : Value) (l1 l2 : List Nd) (w : World) (h1 : SlIs 6 Nd.cells w v1 l1) (h2 : SlIs 6 Nd.cells w v2 l2) (hl : l1.length ≤ 1000000) (hl2 : l2.length ≤ 1000000) (r : Bool) (hr : Hid (decide (l1 = l2) = r)) :
    Calls Try.prog 20 #[v1, v2] w fun e w' => e = .returned (.bool r) ∧ Below w.heap.size w w' := by
  rw [← hr.out]; exact nsame_any v1 v2 l1 l2 w h1 h2 hl hl2

end Go.Proofs.Ytcffgbmgjdhkjaa
