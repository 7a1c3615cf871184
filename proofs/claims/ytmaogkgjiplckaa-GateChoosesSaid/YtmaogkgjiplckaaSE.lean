import Derived.Test.YtmaogkgjiplckaaSD
set_option linter.unusedSimpArgs false
set_option linter.unusedVariables false
namespace Go.Proofs.Ytmaogkgjiplckaa
open Go.RowKit

theorem askL_cons (is : List Int) (x : Int) (c : List Int) (last : Int) : askL is (x :: c) last = if -x ∈ is ∨ x = last then askL is c last else if x ∈ is ∨ last ≠ 0 then none else askL is c x := rfl
theorem drop_at {α : Type} {c : List α} {k : Nat} {x : α} (h : c[k]? = some x) : c.drop k = x :: c.drop (k + 1) := by
  obtain ⟨h1, rfl⟩ := List.getElem?_eq_some_iff.1 h
  exact List.drop_eq_getElem_cons h1

set_option maxRecDepth 100000 in
set_option maxHeartbeats 1000000 in
theorem ask_any {Y : Nat → Prop} {sb : Nat} {lv : Value} {mi ms mw : Nat} {is wt : List Int} (w : World) (h : SPR w sb lv mi ms mw is wt) (v : Value) (c : List Int) (hv : SlX Y w v c) (hc : ∀ x ∈ c, okL x) (hl : c.length ≤ 1000000) (r : Option (List Int × List Int)) (hr : Hid (askP is wt c = r)) :
    Calls Try.prog 67 #[.pointer (some ⟨sb, 0, none⟩), v] w (SPost sb lv mi ms mw w r) := by
  obtain ⟨a, m, rfl⟩ := hv.shape
  have c2 : w.cell? ⟨sb, 2, none⟩ = some (.map (some ms)) := by simp [World.cell?, h.box]
  have HM := Lib.hid h.mis
  have H := Lib.hid h
  have HV := Lib.hid hv
  have HC := Lib.hid hc
  have hlI : (c.length : Int) ≤ 1000000 := by omega
  clear h hv hc hl
  go_enter Try.func67, Try.ntmps67
  (repeat (first | (with_reducible first | refine xA ?_ | refine xB ?_ | refine xC ?_ | refine xD ?_ | refine xH ?_ | refine xI rfl ?_ | refine xE ?_ | refine xF ?_ | refine xG ?_) | go_values | go_skip | go_guarded | go_step | go_upon | go_back | (dsimp only)))
  go_loopw [5, 14] (fun u i wr => ∃ (k : Nat) (last : Int), k ≤ c.length ∧ u = .int .i64 last ∧ i = .int .i64 k ∧ wr = w ∧ Hid (askL is c 0 = askL is (c.drop k) last ∧ (last ≠ 0 → okL last)) ∧ (-1048576 ≤ last ∧ last ≤ 1048576)) (fun _ i _ => c.length - (intOf i).toNat)
  case atStart => exact ⟨0, 0, Nat.zero_le _, rfl, rfl, rfl, Lib.hid ⟨rfl, fun h => absurd rfl h⟩, by omega⟩
  case round =>
    obtain ⟨k, last, hk, rfl, rfl, rfl, hA, hlast⟩ := hrel
    rcases Nat.lt_or_ge k c.length with hlt | hge
    · obtain ⟨b, o, rfl, _, _, _, hR⟩ := HV.out.row (by omega)
      obtain ⟨x, hx⟩ : ∃ y, c[k]? = some y := ⟨_, List.getElem?_eq_getElem hlt⟩
      have hcx := hR k x hx
      have hxl := HC.out x (List.mem_of_getElem? hx)
      have HXL := Lib.hid hxl
      have hok : okI x := ⟨by have := hxl.2.1; omega, by have := hxl.2.2; omega⟩
      have hokn : okI (-x) := ⟨by have := hxl.2.2; omega, by have := hxl.2.1; omega⟩
      have hxb : -1048576 ≤ x ∧ x ≤ 1048576 := hxl.2
      have HE := Lib.hid (drop_at hx)
      clear hR hx hxl
      by_cases h1 : -x ∈ is
      · have HG1 := Lib.hid (show (getM (oneM is) (-x)).isSome = true by rw [oneM_get, decide_eq_true h1])
        have HN := Lib.hid (show askL is c 0 = askL is (c.drop (k + 1)) last by rw [hA.out.1, HE.out, askL_cons, if_pos (.inl h1)])
        clear h1
        (repeat (first | (with_reducible first | refine xA ?_ | refine xB ?_ | refine xC ?_ | refine xD ?_ | refine xH ?_ | refine xI rfl ?_ | refine xE ?_ | refine xF ?_ | refine xG ?_) | go_skip | go_guarded | ((with_reducible refine wl_id ?_); refine wl_lookup rfl _ _ 39 true rfl 3 3 keyI Try.underlying39 (.int .i64 0) (zero3 _) ms (oneM is) rfl HM.out (-x) rfl hokn ?_; (simp only [if_true]; (rw [HG1.out]); generalize (getM (oneM is) (-x)).getD (.int .i64 0) = g1); (try simp only [Act.put, List.setIfInBounds_toArray, List.set_cons_succ, List.set_cons_zero])) | ((with_reducible refine wl_id ?_); refine wl_lookup rfl _ _ 39 true rfl 3 3 keyI Try.underlying39 (.int .i64 0) (zero3 _) ms (oneM is) rfl HM.out x rfl hok ?_; (simp only [if_true]; (rw [HG2.out]); generalize (getM (oneM is) x).getD (.int .i64 0) = g2); (try simp only [Act.put, List.setIfInBounds_toArray, List.set_cons_succ, List.set_cons_zero])) | go_values | go_skip | go_guarded | go_step | go_upon | go_back | (dsimp only)))
        exact ⟨⟨k + 1, last, by omega, rfl, by go_num, rfl, Lib.hid ⟨HN.out, hA.out.2⟩, hlast⟩, by simp [intOf]; omega⟩
      have HG1 := Lib.hid (show (getM (oneM is) (-x)).isSome = false by rw [oneM_get, decide_eq_false h1])
      by_cases h2 : x = last
      · have HN := Lib.hid (show askL is c 0 = askL is (c.drop (k + 1)) last by rw [hA.out.1, HE.out, askL_cons, if_pos (.inr h2)])
        have h2' : (x == last) = true := by simpa using h2
        clear h1 h2
        (repeat (first | (with_reducible first | refine xA ?_ | refine xB ?_ | refine xC ?_ | refine xD ?_ | refine xH ?_ | refine xI rfl ?_ | refine xE ?_ | refine xF ?_ | refine xG ?_) | go_skip | go_guarded | ((with_reducible refine wl_id ?_); refine wl_lookup rfl _ _ 39 true rfl 3 3 keyI Try.underlying39 (.int .i64 0) (zero3 _) ms (oneM is) rfl HM.out (-x) rfl hokn ?_; (simp only [if_true]; (rw [HG1.out]); generalize (getM (oneM is) (-x)).getD (.int .i64 0) = g1); (try simp only [Act.put, List.setIfInBounds_toArray, List.set_cons_succ, List.set_cons_zero])) | ((with_reducible refine wl_id ?_); refine wl_lookup rfl _ _ 39 true rfl 3 3 keyI Try.underlying39 (.int .i64 0) (zero3 _) ms (oneM is) rfl HM.out x rfl hok ?_; (simp only [if_true]; (rw [HG2.out]); generalize (getM (oneM is) x).getD (.int .i64 0) = g2); (try simp only [Act.put, List.setIfInBounds_toArray, List.set_cons_succ, List.set_cons_zero])) | go_values | go_skip | go_guarded | go_step | go_upon | go_back | (dsimp only)))
        exact ⟨⟨k + 1, last, by omega, rfl, by go_num, rfl, Lib.hid ⟨HN.out, hA.out.2⟩, hlast⟩, by simp [intOf]; omega⟩
      have h2' : (x == last) = false := by simpa using h2
      by_cases h3 : x ∈ is
      · have HG2 := Lib.hid (show (getM (oneM is) x).isSome = true by rw [oneM_get, decide_eq_true h3])
        have HN := Lib.hid (show r = some (is, wt) by rw [← hr.out]; unfold askP; rw [hA.out.1, HE.out, askL_cons, if_neg (by rintro (h | h); exact h1 h; exact h2 h), if_pos (.inl h3)])
        clear h1 h2 h3
        (repeat (first | (with_reducible first | refine xA ?_ | refine xB ?_ | refine xC ?_ | refine xD ?_ | refine xH ?_ | refine xI rfl ?_ | refine xE ?_ | refine xF ?_ | refine xG ?_) | go_skip | go_guarded | ((with_reducible refine wl_id ?_); refine wl_lookup rfl _ _ 39 true rfl 3 3 keyI Try.underlying39 (.int .i64 0) (zero3 _) ms (oneM is) rfl HM.out (-x) rfl hokn ?_; (simp only [if_true]; (rw [HG1.out]); generalize (getM (oneM is) (-x)).getD (.int .i64 0) = g1); (try simp only [Act.put, List.setIfInBounds_toArray, List.set_cons_succ, List.set_cons_zero])) | ((with_reducible refine wl_id ?_); refine wl_lookup rfl _ _ 39 true rfl 3 3 keyI Try.underlying39 (.int .i64 0) (zero3 _) ms (oneM is) rfl HM.out x rfl hok ?_; (simp only [if_true]; (rw [HG2.out]); generalize (getM (oneM is) x).getD (.int .i64 0) = g2); (try simp only [Act.put, List.setIfInBounds_toArray, List.set_cons_succ, List.set_cons_zero])) | go_values | go_skip | go_guarded | go_step | go_upon | go_back | (dsimp only)))
        go_ret
        rw [HN.out]
        exact ⟨rfl, fun p hp => by cases hp; exact H.out, Kept.refl _ _⟩
      have HG2 := Lib.hid (show (getM (oneM is) x).isSome = false by rw [oneM_get, decide_eq_false h3])
      by_cases h4 : last = 0
      · have h4' : (last != 0) = false := by simpa using h4
        have HN := Lib.hid (show askL is c 0 = askL is (c.drop (k + 1)) x by rw [hA.out.1, HE.out, askL_cons, if_neg (by rintro (h | h); exact h1 h; exact h2 h), if_neg (by rintro (h | h); exact h3 h; exact h h4)])
        clear h1 h2 h3 h4
        (repeat (first | (with_reducible first | refine xA ?_ | refine xB ?_ | refine xC ?_ | refine xD ?_ | refine xH ?_ | refine xI rfl ?_ | refine xE ?_ | refine xF ?_ | refine xG ?_) | go_skip | go_guarded | ((with_reducible refine wl_id ?_); refine wl_lookup rfl _ _ 39 true rfl 3 3 keyI Try.underlying39 (.int .i64 0) (zero3 _) ms (oneM is) rfl HM.out (-x) rfl hokn ?_; (simp only [if_true]; (rw [HG1.out]); generalize (getM (oneM is) (-x)).getD (.int .i64 0) = g1); (try simp only [Act.put, List.setIfInBounds_toArray, List.set_cons_succ, List.set_cons_zero])) | ((with_reducible refine wl_id ?_); refine wl_lookup rfl _ _ 39 true rfl 3 3 keyI Try.underlying39 (.int .i64 0) (zero3 _) ms (oneM is) rfl HM.out x rfl hok ?_; (simp only [if_true]; (rw [HG2.out]); generalize (getM (oneM is) x).getD (.int .i64 0) = g2); (try simp only [Act.put, List.setIfInBounds_toArray, List.set_cons_succ, List.set_cons_zero])) | go_values | go_skip | go_guarded | go_step | go_upon | go_back | (dsimp only)))
        exact ⟨⟨k + 1, x, by omega, rfl, by go_num, rfl, Lib.hid ⟨HN.out, fun _ => HXL.out⟩, hxb⟩, by simp [intOf]; omega⟩
      · have h4' : (last != 0) = true := by simpa using h4
        have HN := Lib.hid (show r = some (is, wt) by rw [← hr.out]; unfold askP; rw [hA.out.1, HE.out, askL_cons, if_neg (by rintro (h | h); exact h1 h; exact h2 h), if_pos (.inr h4)])
        clear h1 h2 h3 h4
        (repeat (first | (with_reducible first | refine xA ?_ | refine xB ?_ | refine xC ?_ | refine xD ?_ | refine xH ?_ | refine xI rfl ?_ | refine xE ?_ | refine xF ?_ | refine xG ?_) | go_skip | go_guarded | ((with_reducible refine wl_id ?_); refine wl_lookup rfl _ _ 39 true rfl 3 3 keyI Try.underlying39 (.int .i64 0) (zero3 _) ms (oneM is) rfl HM.out (-x) rfl hokn ?_; (simp only [if_true]; (rw [HG1.out]); generalize (getM (oneM is) (-x)).getD (.int .i64 0) = g1); (try simp only [Act.put, List.setIfInBounds_toArray, List.set_cons_succ, List.set_cons_zero])) | ((with_reducible refine wl_id ?_); refine wl_lookup rfl _ _ 39 true rfl 3 3 keyI Try.underlying39 (.int .i64 0) (zero3 _) ms (oneM is) rfl HM.out x rfl hok ?_; (simp only [if_true]; (rw [HG2.out]); generalize (getM (oneM is) x).getD (.int .i64 0) = g2); (try simp only [Act.put, List.setIfInBounds_toArray, List.set_cons_succ, List.set_cons_zero])) | go_values | go_skip | go_guarded | go_step | go_upon | go_back | (dsimp only)))
        go_ret
        rw [HN.out]
        exact ⟨rfl, fun p hp => by cases hp; exact H.out, Kept.refl _ _⟩
    · obtain rfl : k = c.length := by omega
      have e0 : askL is c 0 = some last := by rw [hA.out.1, List.drop_eq_nil_of_le (Nat.le_refl _)]; rfl
      by_cases h4 : last = 0
      · have h4' : (last != 0) = false := by simpa using h4
        have HN := Lib.hid (show r = none by rw [← hr.out]; unfold askP; rw [e0]; dsimp only; rw [if_pos h4])
        clear e0 h4
        (repeat (first | (with_reducible first | refine xA ?_ | refine xB ?_ | refine xC ?_ | refine xD ?_ | refine xH ?_ | refine xI rfl ?_ | refine xE ?_ | refine xF ?_ | refine xG ?_) | go_skip | go_guarded | (go_at_call 66; (with_reducible refine (HH.out).mono ?_); rintro _ w1 ⟨rfl, hR, hK⟩) | go_values | go_skip | go_guarded | go_step | go_upon | go_back | (dsimp only)))
        go_ret
        rw [HN.out]
        exact ⟨rfl, by simp, Kept.refl _ _⟩
      · have h4' : (last != 0) = true := by simpa using h4
        have HN := Lib.hid (show r = holdP is wt last by rw [← hr.out]; unfold askP; rw [e0]; dsimp only; rw [if_neg h4])
        have HH := Lib.hid (hold_any wr H.out last (hA.out.2 h4))
        rw [← HN.out] at HH
        clear e0 h4
        (repeat (first | (with_reducible first | refine xA ?_ | refine xB ?_ | refine xC ?_ | refine xD ?_ | refine xH ?_ | refine xI rfl ?_ | refine xE ?_ | refine xF ?_ | refine xG ?_) | go_skip | go_guarded | (go_at_call 66; (with_reducible refine (HH.out).mono ?_); rintro _ w1 ⟨rfl, hR, hK⟩) | go_values | go_skip | go_guarded | go_step | go_upon | go_back | (dsimp only)))
        go_ret
        exact ⟨rfl, hR, hK⟩

end Go.Proofs.Ytmaogkgjiplckaa
