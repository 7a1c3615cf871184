import Derived.Test.YtmaogkgjiplckaaSJ
set_option linter.unusedSimpArgs false
set_option linter.unusedVariables false
namespace Go.Proofs.Ytmaogkgjiplckaa
open Go.RowKit
set_option maxRecDepth 100000 in
theorem Is_any {Y : Nat → Prop} (w : World) (va : Value) (n : Nat) (s : Nat → Bool) (ha : SlX Y w va (toldL n s)) (x : Int) (hx : isL n x) (hn : n ≤ 1048576) (r : Bool) (hr : Hid (lit s x = r)) :
    Calls Try.prog 23 #[va, .int .i64 x] w fun e w' => e = .returned (.tuple #[.bool r, .bool true]) ∧ w' = w := by
  obtain ⟨ao, c, rfl⟩ := ha.shape
  obtain ⟨h0, h1, h2⟩ := hx
  have hl := toldL_len n s
  have hp : 0 < (toldL n s).length := by omega
  obtain ⟨b, o, rfl, _, _, _, hR⟩ := ha.row hp
  rw [hl]
  obtain ⟨V, hV⟩ : ∃ V : Int, absI x = V := ⟨_, rfl⟩
  have hV1 : 1 ≤ V ∧ V ≤ n := by unfold absI at hV; split at hV <;> omega
  have hg := toldL_get n s (V - 1).toNat (by omega)
  have hc' := hR (V - 1).toNat _ hg
  rw [show (V - 1).toNat + 1 = V.toNat by omega, show ((V - 1).toNat : Int) + 1 = V by omega, show (V - 1).toNat = V.toNat - 1 by omega] at hc'
  have i1 : ¬ V < 1 := by omega
  have i2 : ¬ V > (n : Int) := by omega
  have i3 : (0 : Int) ≤ V - 1 := by omega
  have i4 : V - 1 < (n : Int) := by omega
  have i6 : V ≤ 1048576 := by omega
  clear hg hR ha
  by_cases hx0 : x < 0
  · have ex : x = -V := by unfold absI at hV; rw [if_pos hx0] at hV; omega
    subst ex
    have hr' : r = !s V.toNat := by rw [← hr.out]; unfold lit; rw [if_neg (by omega), Int.neg_neg]
    have e0 : -(-V) = V := by omega
    cases hs : s V.toNat
    · rw [hs] at hc' hr'
      subst hr'
      simp only [Bool.false_eq_true, if_false] at hc'
      have t1 : (-V != V) = true := by simp; omega
      have t2 : (-V != -V) = false := by simp
      have t3 : (-V == -V) = true := by simp
      go_enter Try.func23, Try.ntmps23
      (repeat (first | (with_reducible first | refine xA ?_ | refine xB ?_ | refine xC ?_ | refine xD ?_ | refine xH ?_ | refine xI rfl ?_ | refine xE ?_ | refine xF ?_ | refine xG ?_) | go_values | go_skip | go_guarded | go_step | go_upon | go_back | (dsimp only)))
      go_ret2
      exact ⟨rfl, rfl⟩
    · rw [hs] at hc' hr'
      subst hr'
      simp only [if_true] at hc'
      have t1 : (V != V) = false := by simp
      have t3 : (V == -V) = false := by simp; omega
      go_enter Try.func23, Try.ntmps23
      (repeat (first | (with_reducible first | refine xA ?_ | refine xB ?_ | refine xC ?_ | refine xD ?_ | refine xH ?_ | refine xI rfl ?_ | refine xE ?_ | refine xF ?_ | refine xG ?_) | go_values | go_skip | go_guarded | go_step | go_upon | go_back | (dsimp only)))
      go_ret2
      exact ⟨rfl, rfl⟩
  · have ex : V = x := by unfold absI at hV; rw [if_neg hx0] at hV; omega
    subst ex
    have hr' : r = s V.toNat := by rw [← hr.out]; unfold lit; rw [if_pos (by omega)]
    cases hs : s V.toNat
    · rw [hs] at hc' hr'
      subst hr'
      simp only [Bool.false_eq_true, if_false] at hc'
      have t1 : (-V != V) = true := by simp; omega
      have t2 : (-V != -V) = false := by simp
      have t3 : (-V == V) = false := by simp; omega
      go_enter Try.func23, Try.ntmps23
      (repeat (first | (with_reducible first | refine xA ?_ | refine xB ?_ | refine xC ?_ | refine xD ?_ | refine xH ?_ | refine xI rfl ?_ | refine xE ?_ | refine xF ?_ | refine xG ?_) | go_values | go_skip | go_guarded | go_step | go_upon | go_back | (dsimp only)))
      go_ret2
      exact ⟨rfl, rfl⟩
    · rw [hs] at hc' hr'
      subst hr'
      simp only [if_true] at hc'
      have t1 : (V != V) = false := by simp
      have t3 : (V == V) = true := by simp
      go_enter Try.func23, Try.ntmps23
      (repeat (first | (with_reducible first | refine xA ?_ | refine xB ?_ | refine xC ?_ | refine xD ?_ | refine xH ?_ | refine xI rfl ?_ | refine xE ?_ | refine xF ?_ | refine xG ?_) | go_values | go_skip | go_guarded | go_step | go_upon | go_back | (dsimp only)))
      go_ret2
      exact ⟨rfl, rfl⟩

theorem bv_drop {l : List Int} {s : Nat → Bool} {i : Nat} {x : Int} (h : l[i]? = some x) : bv ((l.drop i).map (lit s)) = (if lit s x then 1 else 0) + 2 * bv ((l.drop (i + 1)).map (lit s)) := by
  rw [drop_at h, List.map_cons, bv]
set_option maxRecDepth 100000 in
set_option maxHeartbeats 1000000 in
theorem Word_any {Y Z : Nat → Prop} (w : World) (va vl : Value) (n : Nat) (s : Nat → Bool) (ha : SlX Y w va (toldL n s)) (l : List Int) (hl : SlX Z w vl l) (hx : ∀ x ∈ l, isL n x) (hn : n ≤ 1048576) (h64 : l.length ≤ 64) (r : Nat) (hr : Hid (bv (l.map (lit s)) = r)) :
    Calls Try.prog 15 #[va, vl] w fun e w' => e = .returned (.tuple #[.int .u64 r, .bool true]) ∧ w' = w := by
  obtain ⟨ao, c, rfl⟩ := ha.shape
  obtain ⟨al, cl, rfl⟩ := hl.shape
  have HA := Lib.hid ha
  have HL := Lib.hid hl
  have HX := Lib.hid hx
  have H64 := Lib.hid h64
  have h64I : (l.length : Int) ≤ 64 := by omega
  have h64N : ¬ (l.length : Int) > 64 := by omega
  clear ha hl hx h64
  go_enter Try.func15, Try.ntmps15
  (repeat (first | (with_reducible first | refine xA ?_ | refine xB ?_ | refine xC ?_ | refine xD ?_ | refine xH ?_ | refine xI rfl ?_ | refine xE ?_ | refine xF ?_ | refine xG ?_) | go_values | go_skip | go_guarded | go_step | go_upon | go_back | (dsimp only)))
  go_loopw [6, 7, 8, 9] (fun u i _ _ wr => ∃ (k a : Nat), k ≤ l.length ∧ i = .int .i64 ((k : Int) - 1) ∧ u = .int .u64 a ∧ Hid (bv ((l.drop k).map (lit s)) = a) ∧ wr = w) (fun _ i _ _ _ => ((intOf i) + 1).toNat)
  case atStart => exact ⟨l.length, 0, Nat.le_refl _, rfl, rfl, Lib.hid (by rw [List.drop_eq_nil_of_le (Nat.le_refl _)]; rfl), rfl⟩
  case round =>
    obtain ⟨k, a, hk, rfl, rfl, HB, rfl⟩ := hrel
    rcases Nat.eq_zero_or_pos k with rfl | hp
    · have hz : (((0 : Nat) : Int) - 1 ≥ 0) = False := by simp
      have ea : a = r := by rw [← hr.out, ← HB.out]; rfl
      subst ea
      (repeat (first | (with_reducible first | refine xA ?_ | refine xB ?_ | refine xC ?_ | refine xD ?_ | refine xH ?_ | refine xI rfl ?_ | refine xE ?_ | refine xF ?_ | refine xG ?_) | go_values | go_skip | go_guarded | go_step | go_upon | go_back | (dsimp only)))
      go_ret2
      exact ⟨rfl, rfl⟩
    · obtain ⟨i, rfl⟩ : ∃ i, k = i + 1 := ⟨k - 1, by omega⟩
      have e1 : ((i + 1 : Nat) : Int) - 1 = i := by omega
      rw [e1]
      obtain ⟨b, o, rfl, _, _, _, hR⟩ := HL.out.row (by omega)
      obtain ⟨x, hx⟩ : ∃ y, l[i]? = some y := ⟨_, List.getElem?_eq_getElem (by omega)⟩
      have hcx := hR i x hx
      have hI := HX.out x (List.mem_of_getElem? hx)
      obtain ⟨q, hq⟩ : ∃ q, Hid (lit s x = q) := ⟨_, Lib.hid rfl⟩
      have HI := Lib.hid (Is_any wr _ n s HA.out x hI hn q hq)
      have hlt := bv_lt ((l.drop (i + 1)).map (lit s))
      rw [HB.out, List.length_map, List.length_drop] at hlt
      have hpw : 2 ^ (l.length - (i + 1)) ≤ 9223372036854775808 := Nat.le_trans (Nat.pow_le_pow_right (by decide) (show l.length - (i + 1) ≤ 63 by have := H64.out; omega)) (by decide)
      have haI : (a : Int) < 9223372036854775808 := by omega
      have HD := Lib.hid (bv_drop (s := s) hx)
      rw [hq.out, HB.out] at HD
      have hi0 : (0 : Int) ≤ i := by omega
      have hi1 : (i : Int) < l.length := by omega
      have hge : ((i : Int) ≥ 0) := by omega
      clear hR hx hI hlt hpw e1 hp
      cases q
      · (repeat (first | (with_reducible first | refine xA ?_ | refine xB ?_ | refine xC ?_ | refine xD ?_ | refine xH ?_ | refine xI rfl ?_ | refine xE ?_ | refine xF ?_ | refine xG ?_) | go_skip | go_guarded | (go_at_call 23; (with_reducible refine (HI.out).mono ?_); rintro _ w1 ⟨rfl, rfl⟩) | go_values | go_skip | go_guarded | go_step | go_upon | go_back | (dsimp only)))
        exact ⟨⟨i, 2 * a, by omega, by go_num, by go_num, Lib.hid (HD.out.trans (by simp)), rfl⟩, by simp [intOf] <;> omega⟩
      · (repeat (first | (with_reducible first | refine xA ?_ | refine xB ?_ | refine xC ?_ | refine xD ?_ | refine xH ?_ | refine xI rfl ?_ | refine xE ?_ | refine xF ?_ | refine xG ?_) | go_skip | go_guarded | (go_at_call 23; (with_reducible refine (HI.out).mono ?_); rintro _ w1 ⟨rfl, rfl⟩) | go_values | go_skip | go_guarded | go_step | go_upon | go_back | (dsimp only)))
        exact ⟨⟨i, 1 + 2 * a, by omega, by go_num, by go_num, Lib.hid (HD.out.trans (by simp)), rfl⟩, by simp [intOf] <;> omega⟩

end Go.Proofs.Ytmaogkgjiplckaa
