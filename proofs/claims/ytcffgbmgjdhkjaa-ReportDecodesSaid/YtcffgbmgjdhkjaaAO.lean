import Derived.Test.YtcffgbmgjdhkjaaAJ
import Derived.Test.YtcffgbmgjdhkjaaAM
import Derived.Test.YtcffgbmgjdhkjaaAG
import Derived.Test.YtcffgbmgjdhkjaaAN
set_option linter.unusedSimpArgs false
set_option linter.unusedVariables false
namespace Go.Proofs.Ytcffgbmgjdhkjaa
open Go.RowKit

theorem presIn_nil (w : World) : PresIn w (.slice none 0 0) [] :=
  ⟨[], ⟨none, 0, rfl, Nat.le_refl _, fun _ => rfl, fun h => absurd rfl h⟩, rfl, fun i t p h => by simp at h⟩
abbrev bytes1 : List Int := [66, 82, 82, 80, 1, 0, 0, 0, 0, 0]
theorem enc1 (w : World) : Calls Try.prog 9 #[.agg #[.int .i64 1, .int .i64 0, .int .i64 0, .slice none 0 0]] w fun e w' =>
    ∃ g c : Nat, e = .returned (.tuple #[.slice (some ⟨g, 0, none⟩) 10 c, .int .i64 0]) ∧ SlIs 1 u8c w' (.slice (some ⟨g, 0, none⟩) 10 c) bytes1 ∧ Below w.heap.size w w' := by
  refine (encode_any ⟨1, 0, 0, []⟩ _ w (presIn_nil w) ⟨by decide, by decide, by decide, by simp⟩ ⟨by decide, by simp, by decide⟩).mono fun e w' h => ?_
  obtain ⟨hB, ⟨_, v', rfl, hO⟩ | ⟨hz, _⟩⟩ := h
  · have hS := hO.sl
    obtain ⟨g, c, rfl, hc, _, hR⟩ := hO.form (by decide)
    exact ⟨g, c, rfl, hS, hB⟩
  · exact absurd (by decide) hz
theorem dec1 (v : Value) (w : World) (h : SlIs 1 u8c w v bytes1) : Calls Try.prog 11 #[v] w fun e w' =>
    ∃ (a : Option Addr) (n c : Nat), e = .returned (.tuple #[.agg #[.int .i64 1, .int .i64 0, .int .i64 0, .slice a n c], .int .i64 0, .int .i64 0]) ∧ PresIn w' (.slice a n c) [] ∧ Below w.heap.size w w' := by
  have hr : readP bytes1 = .ok ⟨1, 0, 0, []⟩ 10 := readP_at ⟨1, 0, 0, []⟩ (by decide) ⟨by decide, by decide, by decide, by simp⟩
  refine (decode_any v bytes1 w h (by unfold ByteL; decide) (by decide)).mono fun e w' h => ?_
  obtain ⟨hB, h⟩ := h
  rw [hr] at h
  obtain ⟨v', rfl, hP⟩ := h
  obtain ⟨vs, hS, hl, hP⟩ := hP
  obtain ⟨a, c, rfl⟩ := hS.shape
  exact ⟨a, _, c, rfl, ⟨vs, hS, hl, hP⟩, hB⟩
theorem same1r (a : Option Addr) (n c : Nat) (w : World) (h : PresIn w (.slice a n c) []) : Calls Try.prog 13 #[.agg #[.int .i64 1, .int .i64 0, .int .i64 0, .slice a n c], .agg #[.int .i64 1, .int .i64 0, .int .i64 0, .slice none 0 0]] w fun en w' =>
    en = .returned (.bool true) ∧ Below w.heap.size w w' := by
  have := same_any 1 0 0 1 0 0 [] [] _ _ w h (presIn_nil w) (by simp) (by simp) (by decide) (by decide)
  simpa using this
theorem str1 : strOfNums bytes1 = { data := #[66, 82, 82, 80, 1, 0, 0, 0, 0, 0] } := by decide
theorem conv1 (w : World) (v : Value) (h : SlIs 1 u8c w v bytes1) : (convert 28 9 v).run Try.prog w = .ok (.string { data := #[66, 82, 82, 80, 1, 0, 0, 0, 0, 0] }) w := by
  rw [← str1]; exact conv_str _ _ _ h
theorem pres_form {a : Option Addr} {n c : Nat} {w : World} (h : PresIn w (.slice a n c) []) : n = 0 := by
  obtain ⟨vs, hS, hl, _⟩ := h
  obtain ⟨a', c', e⟩ := hS.shape
  injection e with _ e _
  simpa [hl] using e

set_option maxRecDepth 100000 in
theorem awake_any (w : World) : Calls Try.prog 7 #[] w fun e w' => e = .returned (.bool true) ∧ Below w.heap.size w w' := by
  go_enter Try.func7, Try.ntmps7
  (repeat (first | with_reducible refine xThenN ?_ | with_reducible refine xThenE ?_ | with_reducible refine xThenR ?_ | with_reducible refine xThenP ?_ | with_reducible refine xBlockEq ?_ | with_reducible refine xBlockNe rfl ?_ | with_reducible refine xBlockN ?_ | with_reducible refine xBlockR ?_ | with_reducible refine xBlockP ?_ | (go_at_call 9; (with_reducible refine (enc1 _).mono ?_); rintro e w1 ⟨g, c, rfl, hS, hb1⟩) | (go_at_call 11; (with_reducible refine (dec1 _ _ (hS.below (by (repeat (first | with_reducible exact Below.refl _ _ | assumption | with_reducible refine below_drewN ?_ _ | with_reducible refine Below.drew ?_ | with_reducible refine Below.setRow ?_ ?_ _ | with_reducible refine Below.alloc ?_ ?_ _ | with_reducible refine Below.setCell ?_ ?_ _ | with_reducible exact Nat.le_refl _ | (focus (simp; done)) | (focus (simp; omega)) | omega))))).mono ?_); rintro e w2 ⟨a, n, c2, rfl, hP, hb2⟩; have hcv := conv1 (w2.alloc (.cells #[.int .i64 1, .int .i64 0, .int .i64 0, .slice a n c2] 25)) _ (hS.below (Below.alloc hb2 (by have := hb2.size; simp at this ⊢; omega) _))) | (go_at_call 13; (with_reducible refine (same1r _ _ _ _ (hP.below (by (repeat (first | with_reducible exact Below.refl _ _ | assumption | with_reducible refine below_drewN ?_ _ | with_reducible refine Below.drew ?_ | with_reducible refine Below.setRow ?_ ?_ _ | with_reducible refine Below.alloc ?_ ?_ _ | with_reducible refine Below.setCell ?_ ?_ _ | with_reducible exact Nat.le_refl _ | (focus (simp; done)) | (focus (simp; omega)) | omega))))).mono ?_); rintro e w3 ⟨rfl, hb3⟩) | go_values | go_skip | go_guarded | go_step | go_upon | go_back | (dsimp only)))
  go_ret
  refine ⟨ret_bool rfl, ?_⟩
  have hb12 := hb1.trans (hb2.mono (by have := hb1.size; omega))
  have h12 := hb12.size
  exact (Below.alloc hb12 (by omega) _).trans (hb3.mono (by simp; omega))

end Go.Proofs.Ytcffgbmgjdhkjaa
