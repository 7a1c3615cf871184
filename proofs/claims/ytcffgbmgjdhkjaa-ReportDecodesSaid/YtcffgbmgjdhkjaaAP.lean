import Derived.Test.YtcffgbmgjdhkjaaAO
import Derived.Test.YtcffgbmgjdhkjaaAL
import Derived.Test.YtcffgbmgjdhkjaaV
set_option linter.unusedSimpArgs false
set_option linter.unusedVariables false
namespace Go.Proofs.Ytcffgbmgjdhkjaa
open Go.RowKit

theorem awake_true (w : World) : Calls Try.prog 7 #[] w fun e w' => e = .returned (.bool true) ∧ Below w.heap.size w w' := awake_any w
theorem few_anyX (v e a : Int) (pv : Value) (ps : List Pr) (w : World) (h : PresIn w pv ps) (q : Bool) (hq : Hid (fewB ps = q)) :
    Calls Try.prog 8 #[.agg #[.int .i64 v, .int .i64 e, .int .i64 a, pv]] w fun en w' => en = .returned (.bool q) ∧ Below w.heap.size w w' := by
  rw [← hq.out]; exact few_any v e a pv ps w h
theorem few_len {ps : List Pr} (h : fewB ps = true) : ps.length ≤ 1000000 := by
  unfold fewB at h
  simp only [Bool.and_eq_true, decide_eq_true_eq] at h
  omega
theorem few_ok {ps : List Pr} (h : fewB ps = true) (hw : ∀ p ∈ ps, PrWf p) : ∀ p ∈ ps, PrOk p := fun p hp => by
  unfold fewB at h
  simp only [Bool.and_eq_true, List.all_eq_true] at h
  have h2 := h.2 p hp
  unfold prFew at h2
  rw [decide_eq_true_eq] at h2
  exact ⟨⟨by omega, by omega⟩, (hw p hp).2.2⟩
structure Good (ps : List Pr) : Prop where
  few : fewB ps = true
  wf : ∀ p ∈ ps, PrWf p
theorem same_anyX (v e a v' e' a' : Int) (ps qs : List Pr) (x y : Value) (w : World) (hP : PresIn w x ps) (hQ : PresIn w y qs) (hps : Good ps) (hqs : Good qs) (q : Bool) (hq : Hid (decide ((⟨v, e, a, ps⟩ : Rp) = ⟨v', e', a', qs⟩) = q)) :
    Calls Try.prog 13 #[.agg #[.int .i64 v, .int .i64 e, .int .i64 a, x], .agg #[.int .i64 v', .int .i64 e', .int .i64 a', y]] w fun en w' => en = .returned (.bool q) ∧ Below w.heap.size w w' := by
  rw [← hq.out]; exact same_any v e a v' e' a' ps qs x y w hP hQ (few_ok hps.few hps.wf) (few_ok hqs.few hqs.wf) (few_len hps.few) (few_len hqs.few)
theorem rsame_anyX (v e a v' e' a' : Int) (ps qs : List Pr) (x y : Value) (w : World) (hP : PresIn w x ps) (hQ : PresIn w y qs) (hps : Good ps) (hqs : Good qs) (q : Bool) (hq : Hid (decide ((⟨v, e, a, ps⟩ : Rp) = ⟨v', e', a', qs⟩) = q)) :
    Calls Try.prog 12 #[.agg #[.int .i64 v, .int .i64 e, .int .i64 a, x], .agg #[.int .i64 v', .int .i64 e', .int .i64 a', y]] w fun en w' => en = .returned (.bool q) ∧ Below w.heap.size w w' := by
  rw [← hq.out]; exact rsame_any v e a v' e' a' ps qs x y w hP hQ (few_ok hps.few hps.wf) (few_ok hqs.few hqs.wf) (few_len hps.few) (few_len hqs.few)
theorem enc_gen (v e a : Int) (ps : List Pr) (x : Value) (w : World) (hP : PresIn w x ps) (hwf : RpWf ⟨v, e, a, ps⟩) (hf : fewB ps = true) (E : Int) (hE : Hid (repE ⟨v, e, a, ps⟩ = E)) :
    Calls Try.prog 9 #[.agg #[.int .i64 v, .int .i64 e, .int .i64 a, x]] w fun en w' => ∃ (ao : Option Addr) (n c : Nat), en = .returned (.tuple #[.slice ao n c, .int .i64 E]) ∧ Hid (E = 0 → SlIs 1 u8c w' (.slice ao n c) (repB ⟨v, e, a, ps⟩)) ∧ Below w.heap.size w w' := by
  refine (encode_any ⟨v, e, a, ps⟩ x w hP hwf (few_med hf)).mono fun en w' h => ?_
  obtain ⟨hB, ⟨h0, v', rfl, hO⟩ | ⟨hz, rfl⟩⟩ := h
  · have hS := hO.sl
    obtain ⟨ao, c, rfl⟩ := hS.shape
    obtain rfl : E = 0 := hE.out.symm.trans h0
    exact ⟨ao, _, c, rfl, Lib.hid fun _ => hS, hB⟩
  · rw [hE.out] at hz ⊢
    exact ⟨none, 0, 0, rfl, Lib.hid fun h => absurd h hz, hB⟩
theorem beI_byte (n : Nat) : ∀ x : Int, ByteL (beI x n) := by
  induction n with
  | zero => intro x c hc; simp [beI] at hc
  | succ n ih =>
    intro x c hc
    rw [beI, List.mem_append] at hc
    rcases hc with hc | hc
    · exact ih _ c hc
    · rw [List.mem_singleton] at hc; omega
theorem byte_app {a b : List Int} (ha : ByteL a) (hb : ByteL b) : ByteL (a ++ b) := fun c hc => by
  rcases List.mem_append.1 hc with h | h
  · exact ha c h
  · exact hb c h
theorem byte_flat {α : Type} {f : α → List Int} {l : List α} (h : ∀ x ∈ l, ByteL (f x)) : ByteL (l.flatMap f) := fun c hc => by
  obtain ⟨x, hx, hc⟩ := List.mem_flatMap.1 hc
  exact h x hx c hc
theorem nodeB_byte (d : Nd) : ByteL (nodeB d) := by
  unfold nodeB
  repeat' (first | exact beI_byte _ _ | refine byte_app ?_ ?_)
theorem repB_byte (r : Rp) (hw : RpWf r) : ByteL (repB r) := by
  unfold repB presB
  refine byte_app (by unfold ByteL; decide) (byte_app (beI_byte _ _) (byte_app (beI_byte _ _) (byte_app (beI_byte _ _) (byte_app (beI_byte _ _) (byte_flat fun p hp => ?_)))))
  unfold preB pathB termB
  exact byte_app (beI_byte _ _) (byte_app (byte_flat fun x _ => beI_byte _ _) (byte_app (beI_byte _ _) (byte_app (byte_flat fun x _ => nodeB_byte x) (byte_app (beI_byte _ _) (hw.2.2.2 p hp).2.2))))
theorem rep_inj {r s : Rp} (h1 : repE r = 0) (h2 : repE s = 0) (w1 : RpWf r) (w2 : RpWf s) : decide (repB r = repB s) = decide (r = s) := by
  rw [Bool.eq_iff_iff, decide_eq_true_iff, decide_eq_true_iff]
  constructor
  · intro h
    have e1 := readP_at r h1 w1
    rw [h, readP_at s h2 w2] at e1
    injection e1 with e1 _
    exact e1.symm
  · rintro rfl; rfl
theorem ld25 {w : World} {g : Nat} {a b c d : Value} (H : w.heap[g]? = some (.cells #[a, b, c, d] 25 (0, 0))) : (Instr.loadAt 25 (.pointer (some ⟨g, 0, none⟩))).run Try.prog w = .ok (.agg #[a, b, c, d]) w :=
  run_loadVar_row w g 25 25 _ (0, 0) _ H Try.underlying25 rfl size25

theorem box4 {w : World} {g : Nat} {a b c d : Value} (H : w.heap[g]? = some (.cells #[a, b, c, d] 25 (0, 0))) :
    w.cell? ⟨g, 0, none⟩ = some a ∧ w.cell? ⟨g, 1, none⟩ = some b ∧ w.cell? ⟨g, 2, none⟩ = some c ∧ w.cell? ⟨g, 3, none⟩ = some d :=
  ⟨by simp [World.cell?, H], by simp [World.cell?, H], by simp [World.cell?, H], by simp [World.cell?, H]⟩
theorem boxes2 (w : World) (A B : Array Value) : ((w.alloc (.cells A 25)).alloc (.cells B 25)).heap[w.heap.size]? = some (.cells A 25 (0, 0)) ∧ ((w.alloc (.cells A 25)).alloc (.cells B 25)).heap[w.heap.size + 1]? = some (.cells B 25 (0, 0)) ∧
    Below w.heap.size w ((w.alloc (.cells A 25)).alloc (.cells B 25)) :=
  ⟨(Below.heap_alloc (w.alloc (.cells A 25)) _ _ (by simp)).trans (heap_alloc_new w _), by simpa using heap_alloc_new (w.alloc (.cells A 25)) (.cells B 25), Below.alloc (Below.alloc (Below.refl _ _) (Nat.le_refl _) _) (by simp) _⟩

set_option maxRecDepth 100000 in
theorem same_walk (v e a v' e' a' : Int) (ps qs : List Pr) (x y : Value) (w : World) (hP0 : PresIn w x ps) (hQ0 : PresIn w y qs) (hwf : RpWf ⟨v, e, a, ps⟩) (hwf' : RpWf ⟨v', e', a', qs⟩) :
    Calls Try.prog 6 #[.agg #[.int .i64 v, .int .i64 e, .int .i64 a, x], .agg #[.int .i64 v', .int .i64 e', .int .i64 a', y]] w fun en w' => en = .returned (.bool true) ∧ Below w.heap.size w w' := by
  obtain ⟨ao, n, c, rfl⟩ : ∃ (ao : Option Addr) (n c : Nat), x = .slice ao n c := by obtain ⟨vs, hS, _⟩ := hP0; obtain ⟨ao, c, h⟩ := hS.shape; exact ⟨ao, _, c, h⟩
  obtain ⟨bo, n', c', rfl⟩ : ∃ (ao : Option Addr) (n c : Nat), y = .slice ao n c := by obtain ⟨vs, hS, _⟩ := hQ0; obtain ⟨ao, c, h⟩ := hS.shape; exact ⟨ao, _, c, h⟩
  obtain ⟨HX, HY, HB⟩ := boxes2 w #[.int .i64 v, .int .i64 e, .int .i64 a, .slice ao n c] #[.int .i64 v', .int .i64 e', .int .i64 a', .slice bo n' c']
  obtain ⟨f1, hf1⟩ : ∃ q, Hid (fewB ps = q) := ⟨_, Lib.hid rfl⟩
  obtain ⟨f2, hf2⟩ : ∃ q, Hid (fewB qs = q) := ⟨_, Lib.hid rfl⟩
  cases f1
  · go_enter Try.func6, Try.ntmps6
    (repeat (first | with_reducible refine xThenN ?_ | with_reducible refine xThenE ?_ | with_reducible refine xThenR ?_ | with_reducible refine xThenP ?_ | with_reducible refine xBlockEq ?_ | with_reducible refine xBlockNe rfl ?_ | with_reducible refine xBlockN ?_ | with_reducible refine xBlockR ?_ | with_reducible refine xBlockP ?_ | (go_at_call 7; (with_reducible refine (awake_true _).mono ?_); rintro _ w1 ⟨rfl, hb⟩; (try clear a0 a1 a2 a3 b0 b1 b2 b3); replace HX := (hb.block _ (lt_of_block HX)).trans HX; replace HY := (hb.block _ (lt_of_block HY)).trans HY; obtain ⟨a0, a1, a2, a3⟩ := box4 HX; obtain ⟨b0, b1, b2, b3⟩ := box4 HY; replace HB := HB.trans (hb.mono HB.size); clear hb) | (go_at_call 8; (with_reducible refine (few_anyX _ _ _ _ _ _ (hP0.below HB) _ hf1).mono ?_); rintro _ w2 ⟨rfl, hb⟩; (try clear a0 a1 a2 a3 b0 b1 b2 b3); replace HX := (hb.block _ (lt_of_block HX)).trans HX; replace HY := (hb.block _ (lt_of_block HY)).trans HY; obtain ⟨a0, a1, a2, a3⟩ := box4 HX; obtain ⟨b0, b1, b2, b3⟩ := box4 HY; replace HB := HB.trans (hb.mono HB.size); clear hb) | go_values | go_skip | go_guarded | go_step | go_upon | go_back | (dsimp only)))
    go_ret
    exact ⟨ret_bool rfl, HB⟩
  cases f2
  · go_enter Try.func6, Try.ntmps6
    (repeat (first | with_reducible refine xThenN ?_ | with_reducible refine xThenE ?_ | with_reducible refine xThenR ?_ | with_reducible refine xThenP ?_ | with_reducible refine xBlockEq ?_ | with_reducible refine xBlockNe rfl ?_ | with_reducible refine xBlockN ?_ | with_reducible refine xBlockR ?_ | with_reducible refine xBlockP ?_ | (go_at_call 7; (with_reducible refine (awake_true _).mono ?_); rintro _ w1 ⟨rfl, hb⟩; (try clear a0 a1 a2 a3 b0 b1 b2 b3); replace HX := (hb.block _ (lt_of_block HX)).trans HX; replace HY := (hb.block _ (lt_of_block HY)).trans HY; obtain ⟨a0, a1, a2, a3⟩ := box4 HX; obtain ⟨b0, b1, b2, b3⟩ := box4 HY; replace HB := HB.trans (hb.mono HB.size); clear hb) | (go_at_call 8; (with_reducible refine (few_anyX _ _ _ _ _ _ (hP0.below HB) _ hf1).mono ?_); rintro _ w2 ⟨rfl, hb⟩; (try clear a0 a1 a2 a3 b0 b1 b2 b3); replace HX := (hb.block _ (lt_of_block HX)).trans HX; replace HY := (hb.block _ (lt_of_block HY)).trans HY; obtain ⟨a0, a1, a2, a3⟩ := box4 HX; obtain ⟨b0, b1, b2, b3⟩ := box4 HY; replace HB := HB.trans (hb.mono HB.size); clear hb) | (go_at_call 8; (with_reducible refine (few_anyX _ _ _ _ _ _ (hQ0.below HB) _ hf2).mono ?_); rintro _ w3 ⟨rfl, hb⟩; (try clear a0 a1 a2 a3 b0 b1 b2 b3); replace HX := (hb.block _ (lt_of_block HX)).trans HX; replace HY := (hb.block _ (lt_of_block HY)).trans HY; obtain ⟨a0, a1, a2, a3⟩ := box4 HX; obtain ⟨b0, b1, b2, b3⟩ := box4 HY; replace HB := HB.trans (hb.mono HB.size); clear hb) | go_values | go_skip | go_guarded | go_step | go_upon | go_back | (dsimp only)))
    go_ret
    exact ⟨ret_bool rfl, HB⟩
  have G1 := Lib.hid (⟨hf1.out, hwf.2.2.2⟩ : Good ps)
  have G2 := Lib.hid (⟨hf2.out, hwf'.2.2.2⟩ : Good qs)
  obtain ⟨q, hq⟩ : ∃ q, Hid (decide ((⟨v, e, a, ps⟩ : Rp) = ⟨v', e', a', qs⟩) = q) := ⟨_, Lib.hid rfl⟩
  have hq' : Hid (decide ((⟨v', e', a', qs⟩ : Rp) = ⟨v, e, a, ps⟩) = q) := Lib.hid (by rw [← hq.out, decide_eq_decide]; exact eq_comm)
  have hqt : Hid (decide ((⟨v, e, a, ps⟩ : Rp) = ⟨v, e, a, ps⟩) = true) := Lib.hid (by simp)
  have Hwf := Lib.hid hwf
  have Hwf' := Lib.hid hwf'
  clear hwf hwf'
  obtain ⟨E1, hE1⟩ : ∃ E, Hid (repE ⟨v, e, a, ps⟩ = E) := ⟨_, Lib.hid rfl⟩
  obtain ⟨E2, hE2⟩ : ∃ E, Hid (repE ⟨v', e', a', qs⟩ = E) := ⟨_, Lib.hid rfl⟩
  by_cases hz1 : E1 = 0
  · subst hz1
    by_cases hz2 : E2 = 0
    · subst hz2
      have hi := str_beq _ _ (repB_byte _ Hwf.out) (repB_byte _ Hwf'.out)
      rw [rep_inj hE1.out hE2.out Hwf.out Hwf'.out, hq.out] at hi
      cases q
      all_goals
        go_enter Try.func6, Try.ntmps6
        (repeat (first | with_reducible refine xThenN ?_ | with_reducible refine xThenE ?_ | with_reducible refine xThenR ?_ | with_reducible refine xThenP ?_ | with_reducible refine xBlockEq ?_ | with_reducible refine xBlockNe rfl ?_ | with_reducible refine xBlockN ?_ | with_reducible refine xBlockR ?_ | with_reducible refine xBlockP ?_ | (go_at_call 7; (with_reducible refine (awake_true _).mono ?_); rintro _ w1 ⟨rfl, hb⟩; (try clear a0 a1 a2 a3 b0 b1 b2 b3); replace HX := (hb.block _ (lt_of_block HX)).trans HX; replace HY := (hb.block _ (lt_of_block HY)).trans HY; obtain ⟨a0, a1, a2, a3⟩ := box4 HX; obtain ⟨b0, b1, b2, b3⟩ := box4 HY; replace HB := HB.trans (hb.mono HB.size); clear hb) | (go_at_call 8; (with_reducible refine (few_anyX _ _ _ _ _ _ (hP0.below HB) _ hf1).mono ?_); rintro _ w2 ⟨rfl, hb⟩; (try clear a0 a1 a2 a3 b0 b1 b2 b3); replace HX := (hb.block _ (lt_of_block HX)).trans HX; replace HY := (hb.block _ (lt_of_block HY)).trans HY; obtain ⟨a0, a1, a2, a3⟩ := box4 HX; obtain ⟨b0, b1, b2, b3⟩ := box4 HY; replace HB := HB.trans (hb.mono HB.size); clear hb) | (go_at_call 8; (with_reducible refine (few_anyX _ _ _ _ _ _ (hQ0.below HB) _ hf2).mono ?_); rintro _ w3 ⟨rfl, hb⟩; (try clear a0 a1 a2 a3 b0 b1 b2 b3); replace HX := (hb.block _ (lt_of_block HX)).trans HX; replace HY := (hb.block _ (lt_of_block HY)).trans HY; obtain ⟨a0, a1, a2, a3⟩ := box4 HX; obtain ⟨b0, b1, b2, b3⟩ := box4 HY; replace HB := HB.trans (hb.mono HB.size); clear hb) | (go_at_call 13; (with_reducible refine (same_anyX _ _ _ _ _ _ _ _ _ _ _ (hP0.below HB) (hQ0.below HB) G1.out G2.out _ hq).mono ?_); rintro _ w4 ⟨rfl, hb⟩; (try clear a0 a1 a2 a3 b0 b1 b2 b3); replace HX := (hb.block _ (lt_of_block HX)).trans HX; replace HY := (hb.block _ (lt_of_block HY)).trans HY; obtain ⟨a0, a1, a2, a3⟩ := box4 HX; obtain ⟨b0, b1, b2, b3⟩ := box4 HY; replace HB := HB.trans (hb.mono HB.size); clear hb) | (go_at_call 13; (with_reducible refine (same_anyX _ _ _ _ _ _ _ _ _ _ _ (hQ0.below HB) (hP0.below HB) G2.out G1.out _ hq').mono ?_); rintro _ w6 ⟨rfl, hb⟩; (try clear a0 a1 a2 a3 b0 b1 b2 b3); replace HX := (hb.block _ (lt_of_block HX)).trans HX; replace HY := (hb.block _ (lt_of_block HY)).trans HY; obtain ⟨a0, a1, a2, a3⟩ := box4 HX; obtain ⟨b0, b1, b2, b3⟩ := box4 HY; replace HB := HB.trans (hb.mono HB.size); clear hb) | (go_at_call 13; (with_reducible refine (same_anyX _ _ _ _ _ _ _ _ _ _ _ (hP0.below HB) (hP0.below HB) G1.out G1.out _ hqt).mono ?_); rintro _ w7 ⟨rfl, hb⟩; (try clear a0 a1 a2 a3 b0 b1 b2 b3); replace HX := (hb.block _ (lt_of_block HX)).trans HX; replace HY := (hb.block _ (lt_of_block HY)).trans HY; obtain ⟨a0, a1, a2, a3⟩ := box4 HX; obtain ⟨b0, b1, b2, b3⟩ := box4 HY; replace HB := HB.trans (hb.mono HB.size); clear hb) | (go_at_call 12; (with_reducible refine (rsame_anyX _ _ _ _ _ _ _ _ _ _ _ (hP0.below HB) (hQ0.below HB) G1.out G2.out _ hq).mono ?_); rintro _ w5 ⟨rfl, hb⟩; (try clear a0 a1 a2 a3 b0 b1 b2 b3); replace HX := (hb.block _ (lt_of_block HX)).trans HX; replace HY := (hb.block _ (lt_of_block HY)).trans HY; obtain ⟨a0, a1, a2, a3⟩ := box4 HX; obtain ⟨b0, b1, b2, b3⟩ := box4 HY; replace HB := HB.trans (hb.mono HB.size); clear hb) | (go_at_call 9; (with_reducible refine (enc_gen _ _ _ _ _ _ (hP0.below HB) Hwf.out G1.out.few _ hE1).mono ?_); rintro _ w8 ⟨x1, y1, z1, rfl, hS1, hb⟩; (try clear a0 a1 a2 a3 b0 b1 b2 b3); replace HX := (hb.block _ (lt_of_block HX)).trans HX; replace HY := (hb.block _ (lt_of_block HY)).trans HY; obtain ⟨a0, a1, a2, a3⟩ := box4 HX; obtain ⟨b0, b1, b2, b3⟩ := box4 HY; replace HB := HB.trans (hb.mono HB.size); clear hb) | (go_at_call 9; (with_reducible refine (enc_gen _ _ _ _ _ _ (hQ0.below HB) Hwf'.out G2.out.few _ hE2).mono ?_); rintro _ w9 ⟨x2, y2, z2, rfl, hS2, hb⟩; have cv1 := conv_str _ _ _ ((hS1.out rfl).below hb); have cv2 := conv_str _ _ _ (hS2.out rfl); generalize strOfNums (repB ⟨v, e, a, ps⟩) = s1 at hi cv1; generalize strOfNums (repB ⟨v', e', a', qs⟩) = s2 at hi cv2; (try clear a0 a1 a2 a3 b0 b1 b2 b3); replace HX := (hb.block _ (lt_of_block HX)).trans HX; replace HY := (hb.block _ (lt_of_block HY)).trans HY; obtain ⟨a0, a1, a2, a3⟩ := box4 HX; obtain ⟨b0, b1, b2, b3⟩ := box4 HY; replace HB := HB.trans (hb.mono HB.size); clear hb) | go_values | go_skip | go_guarded | go_step | go_upon | go_back | (dsimp only)))
        go_ret
        exact ⟨ret_bool rfl, HB⟩
    · have fz : (E2 != 0) = true := by simpa using hz2
      clear hz2
      cases q
      all_goals
        go_enter Try.func6, Try.ntmps6
        (repeat (first | with_reducible refine xThenN ?_ | with_reducible refine xThenE ?_ | with_reducible refine xThenR ?_ | with_reducible refine xThenP ?_ | with_reducible refine xBlockEq ?_ | with_reducible refine xBlockNe rfl ?_ | with_reducible refine xBlockN ?_ | with_reducible refine xBlockR ?_ | with_reducible refine xBlockP ?_ | (go_at_call 7; (with_reducible refine (awake_true _).mono ?_); rintro _ w1 ⟨rfl, hb⟩; (try clear a0 a1 a2 a3 b0 b1 b2 b3); replace HX := (hb.block _ (lt_of_block HX)).trans HX; replace HY := (hb.block _ (lt_of_block HY)).trans HY; obtain ⟨a0, a1, a2, a3⟩ := box4 HX; obtain ⟨b0, b1, b2, b3⟩ := box4 HY; replace HB := HB.trans (hb.mono HB.size); clear hb) | (go_at_call 8; (with_reducible refine (few_anyX _ _ _ _ _ _ (hP0.below HB) _ hf1).mono ?_); rintro _ w2 ⟨rfl, hb⟩; (try clear a0 a1 a2 a3 b0 b1 b2 b3); replace HX := (hb.block _ (lt_of_block HX)).trans HX; replace HY := (hb.block _ (lt_of_block HY)).trans HY; obtain ⟨a0, a1, a2, a3⟩ := box4 HX; obtain ⟨b0, b1, b2, b3⟩ := box4 HY; replace HB := HB.trans (hb.mono HB.size); clear hb) | (go_at_call 8; (with_reducible refine (few_anyX _ _ _ _ _ _ (hQ0.below HB) _ hf2).mono ?_); rintro _ w3 ⟨rfl, hb⟩; (try clear a0 a1 a2 a3 b0 b1 b2 b3); replace HX := (hb.block _ (lt_of_block HX)).trans HX; replace HY := (hb.block _ (lt_of_block HY)).trans HY; obtain ⟨a0, a1, a2, a3⟩ := box4 HX; obtain ⟨b0, b1, b2, b3⟩ := box4 HY; replace HB := HB.trans (hb.mono HB.size); clear hb) | (go_at_call 13; (with_reducible refine (same_anyX _ _ _ _ _ _ _ _ _ _ _ (hP0.below HB) (hQ0.below HB) G1.out G2.out _ hq).mono ?_); rintro _ w4 ⟨rfl, hb⟩; (try clear a0 a1 a2 a3 b0 b1 b2 b3); replace HX := (hb.block _ (lt_of_block HX)).trans HX; replace HY := (hb.block _ (lt_of_block HY)).trans HY; obtain ⟨a0, a1, a2, a3⟩ := box4 HX; obtain ⟨b0, b1, b2, b3⟩ := box4 HY; replace HB := HB.trans (hb.mono HB.size); clear hb) | (go_at_call 13; (with_reducible refine (same_anyX _ _ _ _ _ _ _ _ _ _ _ (hQ0.below HB) (hP0.below HB) G2.out G1.out _ hq').mono ?_); rintro _ w6 ⟨rfl, hb⟩; (try clear a0 a1 a2 a3 b0 b1 b2 b3); replace HX := (hb.block _ (lt_of_block HX)).trans HX; replace HY := (hb.block _ (lt_of_block HY)).trans HY; obtain ⟨a0, a1, a2, a3⟩ := box4 HX; obtain ⟨b0, b1, b2, b3⟩ := box4 HY; replace HB := HB.trans (hb.mono HB.size); clear hb) | (go_at_call 13; (with_reducible refine (same_anyX _ _ _ _ _ _ _ _ _ _ _ (hP0.below HB) (hP0.below HB) G1.out G1.out _ hqt).mono ?_); rintro _ w7 ⟨rfl, hb⟩; (try clear a0 a1 a2 a3 b0 b1 b2 b3); replace HX := (hb.block _ (lt_of_block HX)).trans HX; replace HY := (hb.block _ (lt_of_block HY)).trans HY; obtain ⟨a0, a1, a2, a3⟩ := box4 HX; obtain ⟨b0, b1, b2, b3⟩ := box4 HY; replace HB := HB.trans (hb.mono HB.size); clear hb) | (go_at_call 12; (with_reducible refine (rsame_anyX _ _ _ _ _ _ _ _ _ _ _ (hP0.below HB) (hQ0.below HB) G1.out G2.out _ hq).mono ?_); rintro _ w5 ⟨rfl, hb⟩; (try clear a0 a1 a2 a3 b0 b1 b2 b3); replace HX := (hb.block _ (lt_of_block HX)).trans HX; replace HY := (hb.block _ (lt_of_block HY)).trans HY; obtain ⟨a0, a1, a2, a3⟩ := box4 HX; obtain ⟨b0, b1, b2, b3⟩ := box4 HY; replace HB := HB.trans (hb.mono HB.size); clear hb) | (go_at_call 9; (with_reducible refine (enc_gen _ _ _ _ _ _ (hP0.below HB) Hwf.out G1.out.few _ hE1).mono ?_); rintro _ w8 ⟨x1, y1, z1, rfl, hS1, hb⟩; (try clear a0 a1 a2 a3 b0 b1 b2 b3); replace HX := (hb.block _ (lt_of_block HX)).trans HX; replace HY := (hb.block _ (lt_of_block HY)).trans HY; obtain ⟨a0, a1, a2, a3⟩ := box4 HX; obtain ⟨b0, b1, b2, b3⟩ := box4 HY; replace HB := HB.trans (hb.mono HB.size); clear hb) | (go_at_call 9; (with_reducible refine (enc_gen _ _ _ _ _ _ (hQ0.below HB) Hwf'.out G2.out.few _ hE2).mono ?_); rintro _ w9 ⟨x2, y2, z2, rfl, hS2, hb⟩; (try clear a0 a1 a2 a3 b0 b1 b2 b3); replace HX := (hb.block _ (lt_of_block HX)).trans HX; replace HY := (hb.block _ (lt_of_block HY)).trans HY; obtain ⟨a0, a1, a2, a3⟩ := box4 HX; obtain ⟨b0, b1, b2, b3⟩ := box4 HY; replace HB := HB.trans (hb.mono HB.size); clear hb) | go_values | go_skip | go_guarded | go_step | go_upon | go_back | (dsimp only)))
        go_ret
        exact ⟨ret_bool rfl, HB⟩
  · have fz : (E1 != 0) = true := by simpa using hz1
    clear hz1
    cases q
    all_goals
      go_enter Try.func6, Try.ntmps6
      (repeat (first | with_reducible refine xThenN ?_ | with_reducible refine xThenE ?_ | with_reducible refine xThenR ?_ | with_reducible refine xThenP ?_ | with_reducible refine xBlockEq ?_ | with_reducible refine xBlockNe rfl ?_ | with_reducible refine xBlockN ?_ | with_reducible refine xBlockR ?_ | with_reducible refine xBlockP ?_ | (go_at_call 7; (with_reducible refine (awake_true _).mono ?_); rintro _ w1 ⟨rfl, hb⟩; (try clear a0 a1 a2 a3 b0 b1 b2 b3); replace HX := (hb.block _ (lt_of_block HX)).trans HX; replace HY := (hb.block _ (lt_of_block HY)).trans HY; obtain ⟨a0, a1, a2, a3⟩ := box4 HX; obtain ⟨b0, b1, b2, b3⟩ := box4 HY; replace HB := HB.trans (hb.mono HB.size); clear hb) | (go_at_call 8; (with_reducible refine (few_anyX _ _ _ _ _ _ (hP0.below HB) _ hf1).mono ?_); rintro _ w2 ⟨rfl, hb⟩; (try clear a0 a1 a2 a3 b0 b1 b2 b3); replace HX := (hb.block _ (lt_of_block HX)).trans HX; replace HY := (hb.block _ (lt_of_block HY)).trans HY; obtain ⟨a0, a1, a2, a3⟩ := box4 HX; obtain ⟨b0, b1, b2, b3⟩ := box4 HY; replace HB := HB.trans (hb.mono HB.size); clear hb) | (go_at_call 8; (with_reducible refine (few_anyX _ _ _ _ _ _ (hQ0.below HB) _ hf2).mono ?_); rintro _ w3 ⟨rfl, hb⟩; (try clear a0 a1 a2 a3 b0 b1 b2 b3); replace HX := (hb.block _ (lt_of_block HX)).trans HX; replace HY := (hb.block _ (lt_of_block HY)).trans HY; obtain ⟨a0, a1, a2, a3⟩ := box4 HX; obtain ⟨b0, b1, b2, b3⟩ := box4 HY; replace HB := HB.trans (hb.mono HB.size); clear hb) | (go_at_call 13; (with_reducible refine (same_anyX _ _ _ _ _ _ _ _ _ _ _ (hP0.below HB) (hQ0.below HB) G1.out G2.out _ hq).mono ?_); rintro _ w4 ⟨rfl, hb⟩; (try clear a0 a1 a2 a3 b0 b1 b2 b3); replace HX := (hb.block _ (lt_of_block HX)).trans HX; replace HY := (hb.block _ (lt_of_block HY)).trans HY; obtain ⟨a0, a1, a2, a3⟩ := box4 HX; obtain ⟨b0, b1, b2, b3⟩ := box4 HY; replace HB := HB.trans (hb.mono HB.size); clear hb) | (go_at_call 13; (with_reducible refine (same_anyX _ _ _ _ _ _ _ _ _ _ _ (hQ0.below HB) (hP0.below HB) G2.out G1.out _ hq').mono ?_); rintro _ w6 ⟨rfl, hb⟩; (try clear a0 a1 a2 a3 b0 b1 b2 b3); replace HX := (hb.block _ (lt_of_block HX)).trans HX; replace HY := (hb.block _ (lt_of_block HY)).trans HY; obtain ⟨a0, a1, a2, a3⟩ := box4 HX; obtain ⟨b0, b1, b2, b3⟩ := box4 HY; replace HB := HB.trans (hb.mono HB.size); clear hb) | (go_at_call 13; (with_reducible refine (same_anyX _ _ _ _ _ _ _ _ _ _ _ (hP0.below HB) (hP0.below HB) G1.out G1.out _ hqt).mono ?_); rintro _ w7 ⟨rfl, hb⟩; (try clear a0 a1 a2 a3 b0 b1 b2 b3); replace HX := (hb.block _ (lt_of_block HX)).trans HX; replace HY := (hb.block _ (lt_of_block HY)).trans HY; obtain ⟨a0, a1, a2, a3⟩ := box4 HX; obtain ⟨b0, b1, b2, b3⟩ := box4 HY; replace HB := HB.trans (hb.mono HB.size); clear hb) | (go_at_call 12; (with_reducible refine (rsame_anyX _ _ _ _ _ _ _ _ _ _ _ (hP0.below HB) (hQ0.below HB) G1.out G2.out _ hq).mono ?_); rintro _ w5 ⟨rfl, hb⟩; (try clear a0 a1 a2 a3 b0 b1 b2 b3); replace HX := (hb.block _ (lt_of_block HX)).trans HX; replace HY := (hb.block _ (lt_of_block HY)).trans HY; obtain ⟨a0, a1, a2, a3⟩ := box4 HX; obtain ⟨b0, b1, b2, b3⟩ := box4 HY; replace HB := HB.trans (hb.mono HB.size); clear hb) | (go_at_call 9; (with_reducible refine (enc_gen _ _ _ _ _ _ (hP0.below HB) Hwf.out G1.out.few _ hE1).mono ?_); rintro _ w8 ⟨x1, y1, z1, rfl, hS1, hb⟩; (try clear a0 a1 a2 a3 b0 b1 b2 b3); replace HX := (hb.block _ (lt_of_block HX)).trans HX; replace HY := (hb.block _ (lt_of_block HY)).trans HY; obtain ⟨a0, a1, a2, a3⟩ := box4 HX; obtain ⟨b0, b1, b2, b3⟩ := box4 HY; replace HB := HB.trans (hb.mono HB.size); clear hb) | (go_at_call 9; (with_reducible refine (enc_gen _ _ _ _ _ _ (hQ0.below HB) Hwf'.out G2.out.few _ hE2).mono ?_); rintro _ w9 ⟨x2, y2, z2, rfl, hS2, hb⟩; (try clear a0 a1 a2 a3 b0 b1 b2 b3); replace HX := (hb.block _ (lt_of_block HX)).trans HX; replace HY := (hb.block _ (lt_of_block HY)).trans HY; obtain ⟨a0, a1, a2, a3⟩ := box4 HX; obtain ⟨b0, b1, b2, b3⟩ := box4 HY; replace HB := HB.trans (hb.mono HB.size); clear hb) | go_values | go_skip | go_guarded | go_step | go_upon | go_back | (dsimp only)))
      go_ret
      exact ⟨ret_bool rfl, HB⟩

end Go.Proofs.Ytcffgbmgjdhkjaa
