import Derived.Test.YtcffgbmgjdhkjaaAP
set_option linter.unusedSimpArgs false
set_option linter.unusedVariables false
namespace Go.Proofs.Ytcffgbmgjdhkjaa
open Go.RowKit

theorem slIs_nil (w : World) : SlIs 1 u8c w (.slice none 0 0) [] := ⟨none, 0, rfl, Nat.le_refl _, fun _ => rfl, fun h => absurd rfl h⟩
theorem encoded_l {v e a : Int} {ps : List Pr} {w w' : World} {en : Ending} {E : Int} (hE : Hid (repE ⟨v, e, a, ps⟩ = E)) {l : List Int} (hl : Hid ((if E = 0 then repB ⟨v, e, a, ps⟩ else []) = l)) (h : Encoded w ⟨v, e, a, ps⟩ en w') :
    ∃ (ao : Option Addr) (n c : Nat), en = .returned (.tuple #[.slice ao n c, .int .i64 E]) ∧ SlIs 1 u8c w' (.slice ao n c) l ∧ Below w.heap.size w w' := by
  have hl := hl.out
  subst hl
  obtain ⟨hB, ⟨h0, v', rfl, hO⟩ | ⟨hz, rfl⟩⟩ := h
  · have hS := hO.sl
    obtain ⟨ao, c, rfl⟩ := hS.shape
    obtain rfl : E = 0 := hE.out.symm.trans h0
    exact ⟨ao, _, c, rfl, hS, hB⟩
  · rw [hE.out] at hz ⊢
    rw [if_neg hz]
    exact ⟨none, 0, 0, rfl, slIs_nil _, hB⟩
theorem enc_l (v e a : Int) (ps : List Pr) (x : Value) (w : World) (hP : PresIn w x ps) (hwf : RpWf ⟨v, e, a, ps⟩) (hf : fewB ps = true) (E : Int) (hE : Hid (repE ⟨v, e, a, ps⟩ = E)) (l : List Int) (hl : Hid ((if E = 0 then repB ⟨v, e, a, ps⟩ else []) = l)) :
    Calls Try.prog 9 #[.agg #[.int .i64 v, .int .i64 e, .int .i64 a, x]] w fun en w' => ∃ (ao : Option Addr) (n c : Nat), en = .returned (.tuple #[.slice ao n c, .int .i64 E]) ∧ SlIs 1 u8c w' (.slice ao n c) l ∧ Below w.heap.size w w' :=
  (encode_any ⟨v, e, a, ps⟩ x w hP hwf (few_med hf)).mono fun _ _ h => encoded_l hE hl h
theorem renc_l (v e a : Int) (ps : List Pr) (x : Value) (w : World) (hP : PresIn w x ps) (hwf : RpWf ⟨v, e, a, ps⟩) (hf : fewB ps = true) (E : Int) (hE : Hid (repE ⟨v, e, a, ps⟩ = E)) (l : List Int) (hl : Hid ((if E = 0 then repB ⟨v, e, a, ps⟩ else []) = l)) :
    Calls Try.prog 10 #[.agg #[.int .i64 v, .int .i64 e, .int .i64 a, x]] w fun en w' => ∃ (ao : Option Addr) (n c : Nat), en = .returned (.tuple #[.slice ao n c, .int .i64 E]) ∧ SlIs 1 u8c w' (.slice ao n c) l ∧ Below w.heap.size w w' :=
  (rencode_any v e a ps x w hP hwf.2.2.2 hf).mono fun _ _ h => encoded_l hE hl h
theorem dec_ok (vb : Value) (b : List Int) (w : World) (hS : SlIs 1 u8c w vb b) (hby : ByteL b) (hl : (b.length : Int) ≤ 1000000000) (v e a : Int) (ps : List Pr) (p : Int) (hr : Hid (readP b = .ok ⟨v, e, a, ps⟩ p)) :
    Calls Try.prog 11 #[vb] w fun en w' => ∃ (ao : Option Addr) (n c : Nat), en = .returned (.tuple #[.agg #[.int .i64 v, .int .i64 e, .int .i64 a, .slice ao n c], .int .i64 0, .int .i64 0]) ∧ PresIn w' (.slice ao n c) ps ∧ Below w.heap.size w w' := by
  refine (decode_any vb b w hS hby hl).mono fun en w' h => ?_
  obtain ⟨hB, h⟩ := h
  rw [hr.out] at h
  obtain ⟨v', rfl, hP⟩ := h
  obtain ⟨vs, hS, hl, hP⟩ := hP
  obtain ⟨a, c, rfl⟩ := hS.shape
  exact ⟨a, _, c, rfl, ⟨vs, hS, hl, hP⟩, hB⟩
theorem dec_no (vb : Value) (b : List Int) (w : World) (hS : SlIs 1 u8c w vb b) (hby : ByteL b) (hl : (b.length : Int) ≤ 1000000000) (E p : Int) (hr : Hid (readP b = .err E p)) :
    Calls Try.prog 11 #[vb] w fun en w' => en = .returned (.tuple #[.agg #[.int .i64 0, .int .i64 0, .int .i64 0, .slice none 0 0], .int .i64 E, .int .i64 p]) ∧ Below w.heap.size w w' := by
  refine (decode_any vb b w hS hby hl).mono fun en w' h => ?_
  obtain ⟨hB, h⟩ := h
  rw [hr.out] at h
  exact ⟨h, hB⟩
theorem repB_len {r : Rp} (h : fewB r.pres = true) : ((repB r).length : Int) ≤ 1000000000 := by
  have := (few_med h).2.2
  unfold repB
  simp only [List.length_append, beI_len, List.length_cons, List.length_nil]
  omega

set_option maxRecDepth 100000 in
theorem encodes_walk (v e a : Int) (ps : List Pr) (x : Value) (w : World) (hP0 : PresIn w x ps) (hwf : RpWf ⟨v, e, a, ps⟩) :
    Calls Try.prog 3 #[.agg #[.int .i64 v, .int .i64 e, .int .i64 a, x]] w fun en w' => en = .returned (.bool true) ∧ Below w.heap.size w w' := by
  obtain ⟨ao, n, c, rfl⟩ : ∃ (ao : Option Addr) (n c : Nat), x = .slice ao n c := by obtain ⟨vs, hS, _⟩ := hP0; obtain ⟨ao, c, h⟩ := hS.shape; exact ⟨ao, _, c, h⟩
  have HX := heap_alloc_new w (.cells #[.int .i64 v, .int .i64 e, .int .i64 a, .slice ao n c] 25)
  have HB := Below.alloc (Below.refl w.heap.size w) (Nat.le_refl _) (.cells #[.int .i64 v, .int .i64 e, .int .i64 a, .slice ao n c] 25)
  obtain ⟨f1, hf1⟩ : ∃ q, Hid (fewB ps = q) := ⟨_, Lib.hid rfl⟩
  cases f1
  · go_enter Try.func3, Try.ntmps3
    (repeat (first | with_reducible refine xThenN ?_ | with_reducible refine xThenE ?_ | with_reducible refine xThenR ?_ | with_reducible refine xThenP ?_ | with_reducible refine xBlockEq ?_ | with_reducible refine xBlockNe rfl ?_ | with_reducible refine xBlockN ?_ | with_reducible refine xBlockR ?_ | with_reducible refine xBlockP ?_ | (go_at_call 7; (with_reducible refine (awake_true _).mono ?_); rintro _ w1 ⟨rfl, hb⟩; (try clear a0 a1 a2 a3); replace HX := (hb.block _ (lt_of_block HX)).trans HX; obtain ⟨a0, a1, a2, a3⟩ := box4 HX; replace HB := HB.trans (hb.mono HB.size); clear hb) | (go_at_call 8; (with_reducible refine (few_anyX _ _ _ _ _ _ (hP0.below HB) _ hf1).mono ?_); rintro _ w2 ⟨rfl, hb⟩; (try clear a0 a1 a2 a3); replace HX := (hb.block _ (lt_of_block HX)).trans HX; obtain ⟨a0, a1, a2, a3⟩ := box4 HX; replace HB := HB.trans (hb.mono HB.size); clear hb) | go_values | go_skip | go_guarded | go_step | go_upon | go_back | (dsimp only)))
    go_ret
    exact ⟨ret_bool rfl, HB⟩
  have G1 := Lib.hid (⟨hf1.out, hwf.2.2.2⟩ : Good ps)
  have hqt : Hid (decide ((⟨v, e, a, ps⟩ : Rp) = ⟨v, e, a, ps⟩) = true) := Lib.hid (by simp)
  have Hwf := Lib.hid hwf
  clear hwf
  obtain ⟨E1, hE1⟩ : ∃ E, Hid (repE ⟨v, e, a, ps⟩ = E) := ⟨_, Lib.hid rfl⟩
  obtain ⟨l, hl⟩ : ∃ l, Hid ((if E1 = 0 then repB ⟨v, e, a, ps⟩ else []) = l) := ⟨_, Lib.hid rfl⟩
  obtain ⟨s, hs⟩ : ∃ s, Hid (strOfNums l = s) := ⟨_, Lib.hid rfl⟩
  by_cases hz1 : E1 = 0
  · subst hz1
    obtain rfl : repB ⟨v, e, a, ps⟩ = l := hl.out
    have Hby := Lib.hid (repB_byte _ Hwf.out)
    have Hln := Lib.hid (repB_len (r := ⟨v, e, a, ps⟩) hf1.out)
    have hr := Lib.hid (readP_at _ hE1.out Hwf.out)
    go_enter Try.func3, Try.ntmps3
    (repeat (first | with_reducible refine xThenN ?_ | with_reducible refine xThenE ?_ | with_reducible refine xThenR ?_ | with_reducible refine xThenP ?_ | with_reducible refine xBlockEq ?_ | with_reducible refine xBlockNe rfl ?_ | with_reducible refine xBlockN ?_ | with_reducible refine xBlockR ?_ | with_reducible refine xBlockP ?_ | (go_at_call 7; (with_reducible refine (awake_true _).mono ?_); rintro _ w1 ⟨rfl, hb⟩; (try clear a0 a1 a2 a3); replace HX := (hb.block _ (lt_of_block HX)).trans HX; obtain ⟨a0, a1, a2, a3⟩ := box4 HX; replace HB := HB.trans (hb.mono HB.size); clear hb) | (go_at_call 8; (with_reducible refine (few_anyX _ _ _ _ _ _ (hP0.below HB) _ hf1).mono ?_); rintro _ w2 ⟨rfl, hb⟩; (try clear a0 a1 a2 a3); replace HX := (hb.block _ (lt_of_block HX)).trans HX; obtain ⟨a0, a1, a2, a3⟩ := box4 HX; replace HB := HB.trans (hb.mono HB.size); clear hb) | (go_at_call 9; (with_reducible refine (enc_l _ _ _ _ _ _ (hP0.below HB) Hwf.out G1.out.few _ hE1 _ hl).mono ?_); rintro _ w3 ⟨x1, y1, z1, rfl, hS1, hb⟩; (try clear a0 a1 a2 a3); replace HX := (hb.block _ (lt_of_block HX)).trans HX; obtain ⟨a0, a1, a2, a3⟩ := box4 HX; replace HB := HB.trans (hb.mono HB.size); clear hb) | (go_at_call 10; (with_reducible refine (renc_l _ _ _ _ _ _ (hP0.below HB) Hwf.out G1.out.few _ hE1 _ hl).mono ?_); rintro _ w4 ⟨x2, y2, z2, rfl, hS2, hb⟩; have cv1 := conv_str _ _ _ (hS1.below hb); have cv2 := conv_str _ _ _ hS2; rw [hs.out] at cv1 cv2; (try clear a0 a1 a2 a3); replace HX := (hb.block _ (lt_of_block HX)).trans HX; obtain ⟨a0, a1, a2, a3⟩ := box4 HX; replace HB := HB.trans (hb.mono HB.size); replace hS1 := hS1.below hb; clear hb) | (go_at_call 11; (with_reducible refine (dec_ok _ _ _ hS1 Hby.out Hln.out _ _ _ _ _ hr).mono ?_); rintro _ w5 ⟨x3, y3, z3, rfl, hP3, hb⟩; replace HX := (hb.block _ (lt_of_block HX)).trans HX; replace HB := HB.trans (hb.mono HB.size); have hbb := Below.alloc (Below.refl w5.heap.size w5) (Nat.le_refl _) (Obj.cells #[.int .i64 v, .int .i64 e, .int .i64 a, .slice x3 y3 z3] 25); replace HX := (hbb.block _ (lt_of_block HX)).trans HX; have HZ := heap_alloc_new w5 (.cells #[.int .i64 v, .int .i64 e, .int .i64 a, .slice x3 y3 z3] 25); (try clear a0 a1 a2 a3); obtain ⟨a0, a1, a2, a3⟩ := box4 HX; obtain ⟨b0, b1, b2, b3⟩ := box4 HZ; replace HB := HB.trans (hbb.mono HB.size); replace hP3 := hP3.below hbb; clear hb hbb) | (go_at_call 12; (with_reducible refine (rsame_anyX _ _ _ _ _ _ _ _ _ _ _ (hP0.below HB) hP3 G1.out G1.out _ hqt).mono ?_); rintro _ w6 ⟨rfl, hb⟩; clear b0 b1 b2 b3; replace HZ := (hb.block _ (lt_of_block HZ)).trans HZ; obtain ⟨b0, b1, b2, b3⟩ := box4 HZ; (try clear a0 a1 a2 a3); replace HX := (hb.block _ (lt_of_block HX)).trans HX; obtain ⟨a0, a1, a2, a3⟩ := box4 HX; replace HB := HB.trans (hb.mono HB.size); replace hP3 := hP3.below hb; clear hb) | (go_at_call 13; (with_reducible refine (same_anyX _ _ _ _ _ _ _ _ _ _ _ (hP0.below HB) hP3 G1.out G1.out _ hqt).mono ?_); rintro _ w7 ⟨rfl, hb⟩; replace HB := HB.trans (hb.mono HB.size); clear hb) | go_values | go_skip | go_guarded | go_step | go_upon | go_back | (dsimp only)))
    go_ret
    exact ⟨ret_bool rfl, HB⟩
  · have fz : (E1 != 0) = true := by simpa using hz1
    clear hz1
    go_enter Try.func3, Try.ntmps3
    (repeat (first | with_reducible refine xThenN ?_ | with_reducible refine xThenE ?_ | with_reducible refine xThenR ?_ | with_reducible refine xThenP ?_ | with_reducible refine xBlockEq ?_ | with_reducible refine xBlockNe rfl ?_ | with_reducible refine xBlockN ?_ | with_reducible refine xBlockR ?_ | with_reducible refine xBlockP ?_ | (go_at_call 7; (with_reducible refine (awake_true _).mono ?_); rintro _ w1 ⟨rfl, hb⟩; (try clear a0 a1 a2 a3); replace HX := (hb.block _ (lt_of_block HX)).trans HX; obtain ⟨a0, a1, a2, a3⟩ := box4 HX; replace HB := HB.trans (hb.mono HB.size); clear hb) | (go_at_call 8; (with_reducible refine (few_anyX _ _ _ _ _ _ (hP0.below HB) _ hf1).mono ?_); rintro _ w2 ⟨rfl, hb⟩; (try clear a0 a1 a2 a3); replace HX := (hb.block _ (lt_of_block HX)).trans HX; obtain ⟨a0, a1, a2, a3⟩ := box4 HX; replace HB := HB.trans (hb.mono HB.size); clear hb) | (go_at_call 9; (with_reducible refine (enc_l _ _ _ _ _ _ (hP0.below HB) Hwf.out G1.out.few _ hE1 _ hl).mono ?_); rintro _ w3 ⟨x1, y1, z1, rfl, hS1, hb⟩; (try clear a0 a1 a2 a3); replace HX := (hb.block _ (lt_of_block HX)).trans HX; obtain ⟨a0, a1, a2, a3⟩ := box4 HX; replace HB := HB.trans (hb.mono HB.size); clear hb) | (go_at_call 10; (with_reducible refine (renc_l _ _ _ _ _ _ (hP0.below HB) Hwf.out G1.out.few _ hE1 _ hl).mono ?_); rintro _ w4 ⟨x2, y2, z2, rfl, hS2, hb⟩; have cv1 := conv_str _ _ _ (hS1.below hb); have cv2 := conv_str _ _ _ hS2; rw [hs.out] at cv1 cv2; (try clear a0 a1 a2 a3); replace HX := (hb.block _ (lt_of_block HX)).trans HX; obtain ⟨a0, a1, a2, a3⟩ := box4 HX; replace HB := HB.trans (hb.mono HB.size); replace hS1 := hS1.below hb; clear hb) | go_values | go_skip | go_guarded | go_step | go_upon | go_back | (dsimp only)))
    go_ret
    exact ⟨ret_bool rfl, HB⟩

end Go.Proofs.Ytcffgbmgjdhkjaa
