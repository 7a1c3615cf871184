import Derived.Test.YtcffgbmgjdhkjaaAE
set_option linter.unusedSimpArgs false
set_option linter.unusedVariables false
namespace Go.Proofs.Ytcffgbmgjdhkjaa
open Go.RowKit

theorem eq_step {α : Type} [DecidableEq α] {a b : List α} {k : Nat} {x y : α} (hx : a[k]? = some x) (hy : b[k]? = some y) (h : a.take k = b.take k) (e : x = y) : a.take (k + 1) = b.take (k + 1) := by
  rw [List.take_add_one, List.take_add_one, hx, hy, h, e]
theorem ne_step {α : Type} [DecidableEq α] {a b : List α} {k : Nat} {x y : α} (hx : a[k]? = some x) (hy : b[k]? = some y) (e : x ≠ y) : decide (a = b) = false := by
  rw [decide_eq_false_iff_not]
  rintro rfl
  rw [hx] at hy
  injection hy with hy
  exact e hy

theorem SlIs.row {α : Type} {s : Nat} {f : α → List Value} {w : World} {a : Option Addr} {n c : Nat} {ls : List α} (h : SlIs s f w (.slice a n c) ls) (hp : 0 < ls.length) : ∃ b o, a = some ⟨b, o, none⟩ ∧ RowAt s f w b o ls := by
  rcases h.casesA with ⟨ao, cap, e0, he⟩ | ⟨b2, o2, cap, e0, _, _, HR2⟩
  · rw [he] at hp; simp at hp
  injection e0 with e0 _ e1
  exact ⟨b2, o2, e0, HR2⟩

set_option maxRecDepth 100000 in
set_option maxHeartbeats 1000000 in
theorem eqint_any (v1 v2 : Value) (l1 l2 : List Int) (w : World) (h1 : SlIs 1 i64c w v1 l1) (h2 : SlIs 1 i64c w v2 l2) (hl : l1.length ≤ 1000000) (hl2 : l2.length ≤ 1000000) :
    Calls Try.prog 23 #[v1, v2] w fun e w' => e = .returned (.bool (decide (l1 = l2))) ∧ Below w.heap.size w w' := by
  obtain ⟨a1, c1, rfl⟩ := h1.shape
  obtain ⟨a2, c2, rfl⟩ := h2.shape
  by_cases hn : l1.length = l2.length
  rotate_left
  · have hne : Hid (decide (l1 = l2) = false) := Lib.hid (by rw [decide_eq_false_iff_not]; rintro rfl; exact hn rfl)
    have hq : (((l1.length : Int)) != (l2.length : Int)) = true := by simp; omega
    clear hn
    go_enter Try.func23, Try.ntmps23
    (repeat (first | with_reducible refine xThenN ?_ | with_reducible refine xThenE ?_ | with_reducible refine xThenR ?_ | with_reducible refine xThenP ?_ | with_reducible refine xBlockEq ?_ | with_reducible refine xBlockNe rfl ?_ | with_reducible refine xBlockN ?_ | with_reducible refine xBlockR ?_ | with_reducible refine xBlockP ?_ | go_values | go_skip | go_guarded | go_step | go_upon | go_back | (dsimp only)))
    go_ret
    exact ⟨ret_bool (by rw [hne.out]), Below.refl _ _⟩
  have hq : (((l1.length : Int)) != (l2.length : Int)) = false := by simp; omega
  have Hn := Lib.hid hn
  clear hn
  go_enter Try.func23, Try.ntmps23
  (repeat (first | with_reducible refine xThenN ?_ | with_reducible refine xThenE ?_ | with_reducible refine xThenR ?_ | with_reducible refine xThenP ?_ | with_reducible refine xBlockEq ?_ | with_reducible refine xBlockNe rfl ?_ | with_reducible refine xBlockN ?_ | with_reducible refine xBlockR ?_ | with_reducible refine xBlockP ?_ | go_values | go_skip | go_guarded | go_step | go_upon | go_back | (dsimp only)))
  go_loopw [5, 13] (fun _ i wr => ∃ (k : Nat), k ≤ l1.length ∧ i = .int .i64 k ∧ Hid (l1.take k = l2.take k) ∧ Below w.heap.size w wr) (fun _ i _ => l1.length - (intOf i).toNat)
  case atStart => exact ⟨0, by omega, rfl, Lib.hid (by simp), Below.refl _ _⟩
  case round =>
    obtain ⟨k, hk, rfl, hT, HB⟩ := hrel
    rcases Nat.lt_or_ge k l1.length with hlt | hge
    · obtain ⟨x, hx⟩ : ∃ x, l1[k]? = some x := ⟨_, List.getElem?_eq_getElem hlt⟩
      obtain ⟨y, hy⟩ : ∃ y, l2[k]? = some y := ⟨_, List.getElem?_eq_getElem (by rw [← Hn.out]; exact hlt)⟩
      obtain ⟨b1, o1, rfl, R1⟩ := h1.row (by omega)
      obtain ⟨b2, o2, rfl, R2⟩ := h2.row (by have := Hn.out; omega)
      have e1 := cell_keep HB (R1 k x hx 0 _ rfl)
      have e2 := cell_keep HB (R2 k y hy 0 _ rfl)
      simp only [Nat.one_mul, Nat.add_zero] at e1 e2
      have Hx := Lib.hid hx
      have Hy := Lib.hid hy
      have k0 : (0 : Int) ≤ k := by omega
      have k1 : (k : Int) < l1.length := by omega
      have k2 : (k : Int) < l2.length := by have := Hn.out; omega
      clear hx hy
      by_cases hxy : x = y
      · have hxq : (x != y) = false := by simp [hxy]
        have Hxy := Lib.hid hxy
        clear hxy
        (repeat (first | with_reducible refine xThenN ?_ | with_reducible refine xThenE ?_ | with_reducible refine xThenR ?_ | with_reducible refine xThenP ?_ | with_reducible refine xBlockEq ?_ | with_reducible refine xBlockNe rfl ?_ | with_reducible refine xBlockN ?_ | with_reducible refine xBlockR ?_ | with_reducible refine xBlockP ?_ | go_values | go_skip | go_guarded | go_step | go_upon | go_back | (dsimp only)))
        go_quiet (fail)
        (repeat (first | with_reducible refine xThenN ?_ | with_reducible refine xThenE ?_ | with_reducible refine xThenR ?_ | with_reducible refine xThenP ?_ | with_reducible refine xBlockEq ?_ | with_reducible refine xBlockNe rfl ?_ | with_reducible refine xBlockN ?_ | with_reducible refine xBlockR ?_ | with_reducible refine xBlockP ?_ | go_values | go_skip | go_guarded | go_step | go_upon | go_back | (dsimp only)))
        exact ⟨⟨k + 1, by omega, by go_num, Lib.hid (eq_step Hx.out Hy.out hT.out Hxy.out), below_drewN HB _⟩, by simp [intOf]; omega⟩
      · have hxq : (x != y) = true := by simpa using hxy
        have hne : Hid (decide (l1 = l2) = false) := Lib.hid (ne_step Hx.out Hy.out hxy)
        clear hxy
        (repeat (first | with_reducible refine xThenN ?_ | with_reducible refine xThenE ?_ | with_reducible refine xThenR ?_ | with_reducible refine xThenP ?_ | with_reducible refine xBlockEq ?_ | with_reducible refine xBlockNe rfl ?_ | with_reducible refine xBlockN ?_ | with_reducible refine xBlockR ?_ | with_reducible refine xBlockP ?_ | go_values | go_skip | go_guarded | go_step | go_upon | go_back | (dsimp only)))
        go_quiet (fail)
        (repeat (first | with_reducible refine xThenN ?_ | with_reducible refine xThenE ?_ | with_reducible refine xThenR ?_ | with_reducible refine xThenP ?_ | with_reducible refine xBlockEq ?_ | with_reducible refine xBlockNe rfl ?_ | with_reducible refine xBlockN ?_ | with_reducible refine xBlockR ?_ | with_reducible refine xBlockP ?_ | go_values | go_skip | go_guarded | go_step | go_upon | go_back | (dsimp only)))
        go_ret
        exact ⟨ret_bool (by rw [hne.out]), below_drewN HB _⟩
    · (repeat (first | with_reducible refine xThenN ?_ | with_reducible refine xThenE ?_ | with_reducible refine xThenR ?_ | with_reducible refine xThenP ?_ | with_reducible refine xBlockEq ?_ | with_reducible refine xBlockNe rfl ?_ | with_reducible refine xBlockN ?_ | with_reducible refine xBlockR ?_ | with_reducible refine xBlockP ?_ | go_values | go_skip | go_guarded | go_step | go_upon | go_back | (dsimp only)))
      go_ret
      refine ⟨ret_bool ?_, HB⟩
      have := hT.out
      rw [List.take_of_length_le hge, List.take_of_length_le (by rw [← Hn.out]; exact hge)] at this
      simp [this]

end Go.Proofs.Ytcffgbmgjdhkjaa
