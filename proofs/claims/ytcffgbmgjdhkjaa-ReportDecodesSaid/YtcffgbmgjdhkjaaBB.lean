import Derived.Test.YtcffgbmgjdhkjaaBA
set_option linter.unusedSimpArgs false
set_option linter.unusedVariables false
namespace Go.Proofs.Ytcffgbmgjdhkjaa
open Go.RowKit

theorem rdec_no (vb : Value) (b : List Int) (w : World) (hI : SIn w vb b) (E p : Int) (hr : Hid (readP b = .err E p)) :
    Calls Try.prog 14 #[vb] w fun en w' => en = .returned (.tuple #[.agg #[.int .i64 0, .int .i64 0, .int .i64 0, .slice none 0 0], .int .i64 E, .int .i64 p]) ∧ Below w.heap.size w w' := by
  refine (rdecode_any vb b w hI).mono fun en w' h => ?_
  obtain ⟨hB, h⟩ := h
  rw [hr.out] at h
  exact ⟨h, hB⟩
theorem rdec_ok (vb : Value) (b : List Int) (w : World) (hI : SIn w vb b) (v e a : Int) (ps : List Pr) (p : Int) (hr : Hid (readP b = .ok ⟨v, e, a, ps⟩ p)) :
    Calls Try.prog 14 #[vb] w fun en w' => ∃ (ao : Option Addr) (n c : Nat), en = .returned (.tuple #[.agg #[.int .i64 v, .int .i64 e, .int .i64 a, .slice ao n c], .int .i64 0, .int .i64 0]) ∧ PresIn w' (.slice ao n c) ps ∧ Below w.heap.size w w' := by
  refine (rdecode_any vb b w hI).mono fun en w' h => ?_
  obtain ⟨hB, h⟩ := h
  rw [hr.out] at h
  obtain ⟨v', rfl, hP⟩ := h
  obtain ⟨vs, hS, hl, hP⟩ := hP
  obtain ⟨a, c, rfl⟩ := hS.shape
  exact ⟨a, _, c, rfl, ⟨vs, hS, hl, hP⟩, hB⟩
theorem good_pr {r : Rp} (h : repE r = 0) (hm : medB r.pres) (hw : RpWf r) : ∀ p ∈ r.pres, PrOk p := fun p hp => ⟨by have := hm.2.1 p hp; unfold prMed at this; unfold prLen; omega, (hw.2.2.2 p hp).2.2⟩
theorem rsame_eq (v e a : Int) (ps : List Pr) (x y : Value) (w : World) (hP : PresIn w x ps) (hQ : PresIn w y ps) (hps : Hid (∀ p ∈ ps, PrOk p)) (hl : ps.length ≤ 4096) :
    Calls Try.prog 12 #[.agg #[.int .i64 v, .int .i64 e, .int .i64 a, x], .agg #[.int .i64 v, .int .i64 e, .int .i64 a, y]] w fun en w' => en = .returned (.bool true) ∧ Below w.heap.size w w' := by
  refine (rsame_any v e a v e a ps ps _ _ w hP hQ hps.out hps.out (by omega) (by omega)).mono fun en w' h => ?_
  exact ⟨h.1.trans (ret_bool (by simp)), h.2⟩
theorem enc_m (v e a : Int) (ps : List Pr) (x : Value) (w : World) (hP : PresIn w x ps) (hwf : RpWf ⟨v, e, a, ps⟩) (hf : medB ps) (hE : repE ⟨v, e, a, ps⟩ = 0) (l : List Int) (hl : repB ⟨v, e, a, ps⟩ = l) :
    Calls Try.prog 9 #[.agg #[.int .i64 v, .int .i64 e, .int .i64 a, x]] w fun en w' => ∃ (ao : Option Addr) (n c : Nat), en = .returned (.tuple #[.slice ao n c, .int .i64 0]) ∧ SlIs 1 u8c w' (.slice ao n c) l ∧ Below w.heap.size w w' :=
  (encode_any ⟨v, e, a, ps⟩ x w hP hwf hf).mono fun _ _ h => encoded_l (E := 0) (Lib.hid hE) (Lib.hid (by rw [if_pos rfl]; exact hl)) h
theorem rsame_zero (w : World) : Calls Try.prog 12 #[.agg #[.int .i64 0, .int .i64 0, .int .i64 0, .slice none 0 0], .agg #[.int .i64 0, .int .i64 0, .int .i64 0, .slice none 0 0]] w fun en w' => en = .returned (.bool true) ∧ Below w.heap.size w w' := by
  refine (rsame_any 0 0 0 0 0 0 [] [] _ _ w (presIn_nil _) (presIn_nil _) (by simp) (by simp) (by simp) (by simp)).mono fun en w' h => ?_
  exact ⟨h.1.trans (ret_bool (by simp)), h.2⟩

set_option maxRecDepth 100000 in
theorem decodes_walk (vb : Value) (b : List Int) (w : World) (hS : SlIs 1 u8c w vb b) (hby : ByteL b) :
    Calls Try.prog 4 #[vb] w fun en w' => en = .returned (.bool true) ∧ Below w.heap.size w w' := by
  obtain ⟨ao, c, rfl⟩ := hS.shape
  have Hby := Lib.hid hby
  by_cases t1 : (6000 : Int) < b.length
  · clear hby
    go_enter Try.func4, Try.ntmps4
    (repeat (first | with_reducible refine xThenN ?_ | with_reducible refine xThenE ?_ | with_reducible refine xThenR ?_ | with_reducible refine xThenP ?_ | with_reducible refine xBlockEq ?_ | with_reducible refine xBlockNe rfl ?_ | with_reducible refine xBlockN ?_ | with_reducible refine xBlockR ?_ | with_reducible refine xBlockP ?_ | go_skip | go_guarded | (go_at_call 7; (with_reducible refine (awake_true _).mono ?_); rintro _ w1 ⟨rfl, HB⟩) | go_values | go_skip | go_guarded | go_step | go_upon | go_back | (dsimp only)))
    go_ret
    exact ⟨ret_bool rfl, HB⟩
  have Hln := Lib.hid (show (b.length : Int) ≤ 1000000000 by omega)
  have hI : SIn w (.slice ao b.length c) b := ⟨hS, hby, Hln.out⟩
  obtain ⟨i5, hi5, hz50, hz51, hz52⟩ := info_parts info5
  obtain ⟨r, hr⟩ : ∃ r, Hid (readP b = r) := ⟨_, Lib.hid rfl⟩
  rcases r with ⟨⟨v, e, a, ps⟩, q⟩ | ⟨E, p⟩
  rotate_left
  · have fz : (E != 0) = true := by simpa using readP_nz hr.out
    have fe : (E != E) = false := by simp
    have fp : (p != p) = false := by simp
    rcases Nat.eq_zero_or_pos b.length with h0 | h0
    · obtain rfl := List.length_eq_zero_iff.1 h0
      clear h0 hby
      simp only [List.length_nil] at hI hS ⊢
      go_enter Try.func4, Try.ntmps4
      (repeat (first | with_reducible refine xThenN ?_ | with_reducible refine xThenE ?_ | with_reducible refine xThenR ?_ | with_reducible refine xThenP ?_ | with_reducible refine xBlockEq ?_ | with_reducible refine xBlockNe rfl ?_ | with_reducible refine xBlockN ?_ | with_reducible refine xBlockR ?_ | with_reducible refine xBlockP ?_ | go_skip | go_guarded | (go_at_call 7; (with_reducible refine (awake_true _).mono ?_); rintro _ w1 ⟨rfl, HB⟩) | (at_builtin; refine wl_append_zero rfl _ _ 28 rfl 5 i5 Try.underlying28 hi5 w1.heap.size 0 0 (by rfl) (Nat.le_refl _) _ _ (by rfl) ?_; have hb := Below.alloc (Below.refl w1.heap.size w1) (Nat.le_refl _) (Obj.cells #[] 5); replace HB := HB.trans (hb.mono HB.size); clear hb; have hS2 : SlIs 1 u8c (w1.alloc (.cells #[] 5)) (.slice (some ⟨w1.heap.size, 0, none⟩) 0 0) [] := ⟨some ⟨w1.heap.size, 0, none⟩, 0, by simp, by simp, by simp, by simp⟩; (try simp only [Act.put, List.setIfInBounds_toArray, List.set_cons_succ, List.set_cons_zero])) | (go_at_call 11; (with_reducible refine (dec_no _ _ _ hS2 Hby.out Hln.out _ _ hr).mono ?_); rintro _ w4 ⟨rfl, hb⟩; replace HB := HB.trans (hb.mono HB.size); clear hb hS2; have HX := heap_alloc_new w4 (.cells #[.int .i64 0, .int .i64 0, .int .i64 0, .slice none 0 0] 25); replace HB := HB.trans ((Below.alloc (Below.refl w4.heap.size w4) (Nat.le_refl _) (Obj.cells #[.int .i64 0, .int .i64 0, .int .i64 0, .slice none 0 0] 25)).mono HB.size)) | (go_at_call 14; (with_reducible refine (rdec_no _ _ _ (hI.below HB) _ _ hr).mono ?_); rintro _ w5 ⟨rfl, hb⟩; replace HB := HB.trans (hb.mono HB.size); replace HX := (hb.block _ (lt_of_block HX)).trans HX; clear hb; have HZ := heap_alloc_new w5 (.cells #[.int .i64 0, .int .i64 0, .int .i64 0, .slice none 0 0] 25); have hb := (Below.alloc (Below.refl w5.heap.size w5) (Nat.le_refl _) (Obj.cells #[.int .i64 0, .int .i64 0, .int .i64 0, .slice none 0 0] 25)); replace HX := (hb.block _ (lt_of_block HX)).trans HX; replace HB := HB.trans (hb.mono HB.size); clear hb; obtain ⟨a0, a1, a2, a3⟩ := box4 HX; obtain ⟨b0, b1, b2, b3⟩ := box4 HZ) | (go_at_call 12; (with_reducible refine (rsame_zero _).mono ?_); rintro _ w6 ⟨rfl, hb⟩; replace HB := HB.trans (hb.mono HB.size); clear hb a0 a1 a2 a3 b0 b1 b2 b3) | go_values | go_skip | go_guarded | go_step | go_upon | go_back | (dsimp only)))
      go_ret
      exact ⟨ret_bool rfl, HB⟩
    · obtain ⟨bb, o, rfl, HR⟩ := hS.row h0
      clear hby
      go_enter Try.func4, Try.ntmps4
      (repeat (first | with_reducible refine xThenN ?_ | with_reducible refine xThenE ?_ | with_reducible refine xThenR ?_ | with_reducible refine xThenP ?_ | with_reducible refine xBlockEq ?_ | with_reducible refine xBlockNe rfl ?_ | with_reducible refine xBlockN ?_ | with_reducible refine xBlockR ?_ | with_reducible refine xBlockP ?_ | go_skip | go_guarded | (go_at_call 7; (with_reducible refine (awake_true _).mono ?_); rintro _ w1 ⟨rfl, HB⟩) | (at_builtin; refine wl_append_owns rfl _ _ 28 rfl w1.heap.size i5 Try.underlying28 hi5 hz50 hz51 hz52 (.slice (some ⟨w1.heap.size, 0, none⟩) 0 0) [] (by rfl) (.inl (World.ownsRow_made w1 #[] 0 (Nat.le_refl _) (by decide) rfl)) ⟨bb, o, none⟩ b.length c b (by rfl) rfl (row_add (HR.below (Below.alloc HB HB.size _))) (by omega) (by simp; omega) (by simp) ?_; intro v2 w3 hO2 hg2; have hb : Below w1.heap.size w1 w3 := Below.grown (Below.alloc (Below.refl _ _) (Nat.le_refl _) _) hg2 (by simp) (fun k hk => by simp [Value.ownBlock] at hk; omega); replace HB := HB.trans (hb.mono HB.size); clear hb hg2; obtain ⟨a9, n9, c9, rfl⟩ := owns_form hO2; have hS2 : SlIs 1 u8c w3 (.slice a9 n9 c9) b := (SlT.ofOwns (T := 5) (f := u8c) (s := 1) (ls := b) (base := w1.heap.size) (fun _ => rfl) (by rw [u8s_flat]; exact hO2)).sl; clear hO2; (try simp only [Act.put, List.setIfInBounds_toArray, List.set_cons_succ, List.set_cons_zero])) | (go_at_call 11; (with_reducible refine (dec_no _ _ _ hS2 Hby.out Hln.out _ _ hr).mono ?_); rintro _ w4 ⟨rfl, hb⟩; replace HB := HB.trans (hb.mono HB.size); clear hb hS2; have HX := heap_alloc_new w4 (.cells #[.int .i64 0, .int .i64 0, .int .i64 0, .slice none 0 0] 25); replace HB := HB.trans ((Below.alloc (Below.refl w4.heap.size w4) (Nat.le_refl _) (Obj.cells #[.int .i64 0, .int .i64 0, .int .i64 0, .slice none 0 0] 25)).mono HB.size)) | (go_at_call 14; (with_reducible refine (rdec_no _ _ _ (hI.below HB) _ _ hr).mono ?_); rintro _ w5 ⟨rfl, hb⟩; replace HB := HB.trans (hb.mono HB.size); replace HX := (hb.block _ (lt_of_block HX)).trans HX; clear hb; have HZ := heap_alloc_new w5 (.cells #[.int .i64 0, .int .i64 0, .int .i64 0, .slice none 0 0] 25); have hb := (Below.alloc (Below.refl w5.heap.size w5) (Nat.le_refl _) (Obj.cells #[.int .i64 0, .int .i64 0, .int .i64 0, .slice none 0 0] 25)); replace HX := (hb.block _ (lt_of_block HX)).trans HX; replace HB := HB.trans (hb.mono HB.size); clear hb; obtain ⟨a0, a1, a2, a3⟩ := box4 HX; obtain ⟨b0, b1, b2, b3⟩ := box4 HZ) | (go_at_call 12; (with_reducible refine (rsame_zero _).mono ?_); rintro _ w6 ⟨rfl, hb⟩; replace HB := HB.trans (hb.mono HB.size); clear hb a0 a1 a2 a3 b0 b1 b2 b3) | go_values | go_skip | go_guarded | go_step | go_upon | go_back | (dsimp only)))
      go_ret
      exact ⟨ret_bool rfl, HB⟩
  obtain ⟨hE, hBb, hwf, hmed⟩ := readP_enc hby hr.out (by omega)
  have hpos : 0 < b.length := by
    rcases Nat.eq_zero_or_pos b.length with h0 | h0
    · have := hr.out
      obtain rfl := List.length_eq_zero_iff.1 h0
      simp [readP] at this
    · exact h0
  obtain ⟨bb, o, rfl, HR⟩ := hS.row hpos
  have Hok := Lib.hid (good_pr hE hmed hwf)
  have hpl : ps.length ≤ 4096 := hmed.1
  have HE := Lib.hid hE
  have HBb := Lib.hid hBb
  have Hwf := Lib.hid hwf
  have Hmed := Lib.hid hmed
  obtain ⟨s, hs⟩ : ∃ s, Hid (strOfNums b = s) := ⟨_, Lib.hid rfl⟩
  clear hE hBb hwf hmed hby
  go_enter Try.func4, Try.ntmps4
  (repeat (first | with_reducible refine xThenN ?_ | with_reducible refine xThenE ?_ | with_reducible refine xThenR ?_ | with_reducible refine xThenP ?_ | with_reducible refine xBlockEq ?_ | with_reducible refine xBlockNe rfl ?_ | with_reducible refine xBlockN ?_ | with_reducible refine xBlockR ?_ | with_reducible refine xBlockP ?_ | go_skip | go_guarded | (go_at_call 7; (with_reducible refine (awake_true _).mono ?_); rintro _ w1 ⟨rfl, HB⟩) | (at_builtin; refine wl_append_owns rfl _ _ 28 rfl w1.heap.size i5 Try.underlying28 hi5 hz50 hz51 hz52 (.slice (some ⟨w1.heap.size, 0, none⟩) 0 0) [] (by rfl) (.inl (World.ownsRow_made w1 #[] 0 (Nat.le_refl _) (by decide) rfl)) ⟨bb, o, none⟩ b.length c b (by rfl) rfl (row_add (HR.below (Below.alloc HB HB.size _))) (by omega) (by simp; omega) (by simp) ?_; intro v2 w3 hO2 hg2; have hb : Below w1.heap.size w1 w3 := Below.grown (Below.alloc (Below.refl _ _) (Nat.le_refl _) _) hg2 (by simp) (fun k hk => by simp [Value.ownBlock] at hk; omega); replace HB := HB.trans (hb.mono HB.size); clear hb hg2; obtain ⟨a9, n9, c9, rfl⟩ := owns_form hO2; have hS2 : SlIs 1 u8c w3 (.slice a9 n9 c9) b := (SlT.ofOwns (T := 5) (f := u8c) (s := 1) (ls := b) (base := w1.heap.size) (fun _ => rfl) (by rw [u8s_flat]; exact hO2)).sl; clear hO2; (try simp only [Act.put, List.setIfInBounds_toArray, List.set_cons_succ, List.set_cons_zero])) | (go_at_call 11; (with_reducible refine (dec_ok _ _ _ hS2 Hby.out Hln.out _ _ _ _ _ hr).mono ?_); rintro _ w4 ⟨x3, y3, z3, rfl, hP3, hb⟩; replace HB := HB.trans (hb.mono HB.size); clear hb hS2; have HX := heap_alloc_new w4 (.cells #[.int .i64 v, .int .i64 e, .int .i64 a, .slice x3 y3 z3] 25); have hb := Below.alloc (Below.refl w4.heap.size w4) (Nat.le_refl _) (Obj.cells #[.int .i64 v, .int .i64 e, .int .i64 a, .slice x3 y3 z3] 25); replace HB := HB.trans (hb.mono HB.size); replace hP3 := hP3.below hb; clear hb) | (go_at_call 14; (with_reducible refine (rdec_ok _ _ _ (hI.below HB) _ _ _ _ _ hr).mono ?_); rintro _ w5 ⟨x4, y4, z4, rfl, hP4, hb⟩; replace HB := HB.trans (hb.mono HB.size); replace HX := (hb.block _ (lt_of_block HX)).trans HX; replace hP3 := hP3.below hb; clear hb; have HZ := heap_alloc_new w5 (.cells #[.int .i64 v, .int .i64 e, .int .i64 a, .slice x4 y4 z4] 25); have hb := (Below.alloc (Below.refl w5.heap.size w5) (Nat.le_refl _) (Obj.cells #[.int .i64 v, .int .i64 e, .int .i64 a, .slice x4 y4 z4] 25)); replace HX := (hb.block _ (lt_of_block HX)).trans HX; replace HB := HB.trans (hb.mono HB.size); replace hP3 := hP3.below hb; replace hP4 := hP4.below hb; clear hb; obtain ⟨a0, a1, a2, a3⟩ := box4 HX; obtain ⟨b0, b1, b2, b3⟩ := box4 HZ) | (go_at_call 12; (with_reducible refine (rsame_eq _ _ _ _ _ _ _ hP3 hP4 Hok hpl).mono ?_); rintro _ w6 ⟨rfl, hb⟩; replace HB := HB.trans (hb.mono HB.size); replace HX := (hb.block _ (lt_of_block HX)).trans HX; replace hP3 := hP3.below hb; clear hb HZ hP4 a0 a1 a2 a3 b0 b1 b2 b3; obtain ⟨a0, a1, a2, a3⟩ := box4 HX) | (go_at_call 9; (with_reducible refine (enc_m _ _ _ _ _ _ hP3 Hwf.out Hmed.out HE.out _ HBb.out).mono ?_); rintro _ w7 ⟨x5, y5, z5, rfl, hS5, hb⟩; replace HB := HB.trans (hb.mono HB.size); clear hb a0 a1 a2 a3 hP3; have cv1 := conv_str _ _ _ hS5; have cv2 := conv_str _ _ _ (hS.below HB); rw [hs.out] at cv1 cv2) | go_values | go_skip | go_guarded | go_step | go_upon | go_back | (dsimp only)))
  go_ret
  exact ⟨ret_bool rfl, HB⟩

end Go.Proofs.Ytcffgbmgjdhkjaa
