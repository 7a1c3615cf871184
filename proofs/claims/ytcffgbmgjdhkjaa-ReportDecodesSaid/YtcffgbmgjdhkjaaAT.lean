import Derived.Test.YtcffgbmgjdhkjaaAQ
import Derived.Test.YtcffgbmgjdhkjaaAS
set_option linter.unusedSimpArgs false
set_option linter.unusedVariables false
namespace Go.Proofs.Ytcffgbmgjdhkjaa
open Go.RowKit

theorem owns_made (w : World) (A : Array Value) (T : TypeId) : Owns ((w.alloc (.cells A T)).alloc (.cells #[] 5)) (w.heap.size + 1) (.slice (some ⟨w.heap.size + 1, 0, none⟩) 0 0) [] := by
  have := World.ownsRow_made (base := w.heap.size + 1) (e := 5) (size := 1) (w.alloc (.cells A T)) #[] 0 (by simp) (by decide) rfl
  exact .inl (by simpa [u8s] using this)
theorem owns_snoc {w : World} {base : Nat} {v : Value} {b : List Int} {m : Int} (h : w.ownsRow base 5 1 v (([] ++ b).length + 1) (u8s ([] ++ b) ++ [.int .u8 m])) : SlIs 1 u8c w v (b ++ [m]) :=
  (SlT.ofOwns (T := 5) (f := u8c) (s := 1) (fun _ => rfl) (base := base) (ls := b ++ [m]) (by rw [u8s_flat, u8s_append]; simpa [u8s] using h)).sl

theorem sl_take {w : World} {b : List Int} {bb o cap K : Nat} (h : RowAt 1 u8c w bb o b) (hc : b.length ≤ cap) (hk : K ≤ b.length) : SlIs 1 u8c w (.slice (some ⟨bb, o, none⟩) K cap) (b.take K) :=
  ⟨_, cap, by rw [List.length_take, Nat.min_eq_left hk], by rw [List.length_take]; omega, by simp, fun _ => ⟨bb, o, rfl, h.take K⟩⟩

set_option maxRecDepth 100000 in
theorem cuts_walk (vb : Value) (b : List Int) (cut m : Int) (w : World) (hS : SlIs 1 u8c w vb b) (hby : ByteL b) (hm : 0 ≤ m ∧ m < 256) :
    Calls Try.prog 5 #[vb, .int .i64 cut, .int .u8 m] w fun en w' => en = .returned (.bool true) ∧ Below w.heap.size w w' := by
  obtain ⟨ao, cp, rfl⟩ := hS.shape
  have Hby := Lib.hid hby
  have Hm := Lib.hid hm
  clear hby hm
  by_cases t1 : (6000 : Int) < b.length
  · go_enter Try.func5, Try.ntmps5
    (repeat (first | with_reducible refine xThenN ?_ | with_reducible refine xThenE ?_ | with_reducible refine xThenR ?_ | with_reducible refine xThenP ?_ | with_reducible refine xBlockEq ?_ | with_reducible refine xBlockNe rfl ?_ | with_reducible refine xBlockN ?_ | with_reducible refine xBlockR ?_ | with_reducible refine xBlockP ?_ | (go_at_call 7; (with_reducible refine (awake_true _).mono ?_); rintro _ w1 ⟨rfl, HB⟩) | go_values | go_skip | go_guarded | go_step | go_upon | go_back | (dsimp only)))
    go_ret
    exact ⟨ret_bool rfl, HB⟩
  by_cases t2 : cut < 0
  · go_enter Try.func5, Try.ntmps5
    (repeat (first | with_reducible refine xThenN ?_ | with_reducible refine xThenE ?_ | with_reducible refine xThenR ?_ | with_reducible refine xThenP ?_ | with_reducible refine xBlockEq ?_ | with_reducible refine xBlockNe rfl ?_ | with_reducible refine xBlockN ?_ | with_reducible refine xBlockR ?_ | with_reducible refine xBlockP ?_ | (go_at_call 7; (with_reducible refine (awake_true _).mono ?_); rintro _ w1 ⟨rfl, HB⟩) | go_values | go_skip | go_guarded | go_step | go_upon | go_back | (dsimp only)))
    go_ret
    exact ⟨ret_bool rfl, HB⟩
  by_cases t3 : (b.length : Int) ≤ cut
  · go_enter Try.func5, Try.ntmps5
    (repeat (first | with_reducible refine xThenN ?_ | with_reducible refine xThenE ?_ | with_reducible refine xThenR ?_ | with_reducible refine xThenP ?_ | with_reducible refine xBlockEq ?_ | with_reducible refine xBlockNe rfl ?_ | with_reducible refine xBlockN ?_ | with_reducible refine xBlockR ?_ | with_reducible refine xBlockP ?_ | (go_at_call 7; (with_reducible refine (awake_true _).mono ?_); rintro _ w1 ⟨rfl, HB⟩) | go_values | go_skip | go_guarded | go_step | go_upon | go_back | (dsimp only)))
    go_ret
    exact ⟨ret_bool rfl, HB⟩
  have Hln := Lib.hid (show (b.length : Int) ≤ 1000000000 by omega)
  obtain ⟨r, hr⟩ : ∃ r, Hid (readP b = r) := ⟨_, Lib.hid rfl⟩
  rcases r with ⟨⟨v, e, a, ps⟩, q⟩ | ⟨E, p⟩
  rotate_left
  · obtain ⟨j0, j1, j2⟩ := readP_bad Hby.out hr.out
    have fz : (E != 0) = true := by simpa using readP_nz hr.out
    by_cases j3 : p < b.length
    · clear j2
      go_enter Try.func5, Try.ntmps5
      (repeat (first | with_reducible refine xThenN ?_ | with_reducible refine xThenE ?_ | with_reducible refine xThenR ?_ | with_reducible refine xThenP ?_ | with_reducible refine xBlockEq ?_ | with_reducible refine xBlockNe rfl ?_ | with_reducible refine xBlockN ?_ | with_reducible refine xBlockR ?_ | with_reducible refine xBlockP ?_ | (go_at_call 7; (with_reducible refine (awake_true _).mono ?_); rintro _ w1 ⟨rfl, HB⟩) | (go_at_call 11; (with_reducible refine (dec_no _ _ _ (hS.below HB) Hby.out Hln.out _ _ hr).mono ?_); rintro _ w2 ⟨rfl, hb⟩; (have HB0 := HB.trans (hb.mono HB.size); have hbb := Below.alloc (Below.refl w2.heap.size w2) (Nat.le_refl _) (Obj.cells #[.int .i64 0, .int .i64 0, .int .i64 0, .slice none 0 0] 25); replace HB := (HB.trans (hb.mono HB.size)).trans (hbb.mono (by have := HB.size; have := hb.size; omega)); have hw2 : w.heap.size ≤ w2.heap.size := (by have := HB0.size; omega); clear hb hbb HB0)) | go_values | go_skip | go_guarded | go_step | go_upon | go_back | (dsimp only)))
      go_ret
      exact ⟨ret_bool rfl, HB⟩
    · obtain rfl : E = 1 := by omega
      clear j2 fz
      go_enter Try.func5, Try.ntmps5
      (repeat (first | with_reducible refine xThenN ?_ | with_reducible refine xThenE ?_ | with_reducible refine xThenR ?_ | with_reducible refine xThenP ?_ | with_reducible refine xBlockEq ?_ | with_reducible refine xBlockNe rfl ?_ | with_reducible refine xBlockN ?_ | with_reducible refine xBlockR ?_ | with_reducible refine xBlockP ?_ | (go_at_call 7; (with_reducible refine (awake_true _).mono ?_); rintro _ w1 ⟨rfl, HB⟩) | (go_at_call 11; (with_reducible refine (dec_no _ _ _ (hS.below HB) Hby.out Hln.out _ _ hr).mono ?_); rintro _ w2 ⟨rfl, hb⟩; (have HB0 := HB.trans (hb.mono HB.size); have hbb := Below.alloc (Below.refl w2.heap.size w2) (Nat.le_refl _) (Obj.cells #[.int .i64 0, .int .i64 0, .int .i64 0, .slice none 0 0] 25); replace HB := (HB.trans (hb.mono HB.size)).trans (hbb.mono (by have := HB.size; have := hb.size; omega)); have hw2 : w.heap.size ≤ w2.heap.size := (by have := HB0.size; omega); clear hb hbb HB0)) | go_values | go_skip | go_guarded | go_step | go_upon | go_back | (dsimp only)))
      go_ret
      exact ⟨ret_bool rfl, HB⟩
  obtain ⟨bb, o, rfl, HR⟩ := hS.row (by omega)
  have Hcap : Hid (b.length ≤ cp) := by
    obtain ⟨_, c2, e, h, _⟩ := hS
    injection e with _ _ e
    exact Lib.hid (by omega)
  obtain ⟨K, rfl⟩ := Int.eq_ofNat_of_zero_le (show 0 ≤ cut by omega)
  have hK : K ≤ b.length := by omega
  have hby2 : ByteL (b.take K) := fun c hc => Hby.out c (List.mem_of_mem_take hc)
  have hr2 : Hid (readP (b.take K) = .err 1 K) := Lib.hid (by
    have h1 : b.take K ++ b.drop K = b := List.take_append_drop K b
    have h2 := read_cut (c := b.take K) (r := b.drop K) (by intro e; have := congrArg List.length e; simp at this; omega) (by rw [h1]; exact Hby.out) (by rw [h1]; exact hr.out)
    rw [List.length_take, Nat.min_eq_left hK] at h2
    exact h2)
  have hr3 : Hid (readP (b ++ [m]) = .err 6 b.length) := Lib.hid (read_more Hby.out hr.out m)
  have Hby2 := Lib.hid hby2
  have Hby3 : Hid (ByteL (b ++ [m])) := Lib.hid (byte_app Hby.out (fun c hc => by rw [List.mem_singleton] at hc; rw [hc]; exact Hm.out))
  have Hln2 : Hid (((b.take K).length : Int) ≤ 1000000000) := Lib.hid (by rw [List.length_take]; omega)
  have Hln3 : Hid (((b ++ [m]).length : Int) ≤ 1000000000) := Lib.hid (by simp; omega)
  obtain ⟨i0, hi0, hz0, hz1, hz2⟩ := info_parts info5
  clear hby2
  go_enter Try.func5, Try.ntmps5
  have hKc : K ≤ cp := by have := Hcap.out; omega
  (repeat (first | with_reducible refine xThenN ?_ | with_reducible refine xThenE ?_ | with_reducible refine xThenR ?_ | with_reducible refine xThenP ?_ | with_reducible refine xBlockEq ?_ | with_reducible refine xBlockNe rfl ?_ | with_reducible refine xBlockN ?_ | with_reducible refine xBlockR ?_ | with_reducible refine xBlockP ?_ | (go_at_call 7; (with_reducible refine (awake_true _).mono ?_); rintro _ w1 ⟨rfl, HB⟩) | (go_at_call 11; (with_reducible refine (dec_ok _ _ _ (hS.below HB) Hby.out Hln.out _ _ _ _ _ hr).mono ?_); rintro _ w2 ⟨x3, y3, z3, rfl, hP3, hb⟩; have hbb := Below.alloc (Below.refl w2.heap.size w2) (Nat.le_refl _) (Obj.cells #[.int .i64 v, .int .i64 e, .int .i64 a, .slice x3 y3 z3] 25); replace HB := (HB.trans (hb.mono HB.size)).trans (hbb.mono (by have := HB.size; have := hb.size; omega)); clear hb hbb) | (go_at_call 11; (with_reducible refine (dec_no _ _ _ (sl_take (HR.below HB) Hcap.out hK) Hby2.out Hln2.out _ _ hr2).mono ?_); rintro _ w2 ⟨rfl, hb⟩; (have HB0 := HB.trans (hb.mono HB.size); have hbb := Below.alloc (Below.refl w2.heap.size w2) (Nat.le_refl _) (Obj.cells #[.int .i64 0, .int .i64 0, .int .i64 0, .slice none 0 0] 25); replace HB := (HB.trans (hb.mono HB.size)).trans (hbb.mono (by have := HB.size; have := hb.size; omega)); have hw2 : w.heap.size ≤ w2.heap.size := (by have := HB0.size; omega); clear hb hbb HB0)) | (at_builtin; refine wl_append_owns rfl _ _ 28 rfl (w2.heap.size + 1) i0 Try.underlying28 hi0 hz0 hz1 hz2 (.slice (some ⟨w2.heap.size + 1, 0, none⟩) 0 0) [] (by rfl) (owns_made w2 _ _) ⟨bb, o, none⟩ b.length cp b (by rfl) rfl (row_add (HR.below (Below.alloc HB HB.size _))) (by omega) (by simp; omega) (by simp) ?_; intro v2 w3 hO hg2; replace HB := Below.grown (Below.alloc HB HB.size (.cells #[] 5)) hg2 (by have := HB.size; simp at this ⊢; omega) (fun k hk => by simp [Value.ownBlock] at hk; have := HB.size; simp at this; omega); (try simp only [Act.put, List.setIfInBounds_toArray, List.set_cons_succ, List.set_cons_zero])) | (at_builtin; refine wl_append_lit rfl _ _ 28 rfl (w2.heap.size + 1) 5 i0 _ 1 1 Try.underlying28 hi0 hz0 hz1 hz2 rfl (by decide) v2 _ _ w3 (by rfl) hO [.int .u8 m] (by rfl) rfl (by intro u hu; simp at hu; subst hu; rfl) (by simp; omega) (by decide) (by have := hg2.size; simp at this; omega) ?_; intro v3 w4 hO2 hg3; replace HB := Below.grown HB hg3 HB.size (fun k hk => by have := (hO.lt k hk).1; have := hw2; omega); have hO3 := owns_snoc hO2; (try simp only [Act.put, List.setIfInBounds_toArray, List.set_cons_succ, List.set_cons_zero])) | (go_at_call 11; (with_reducible refine (dec_no _ _ _ hO3 Hby3.out Hln3.out _ _ hr3).mono ?_); rintro _ w2 ⟨rfl, hb⟩; (have HB0 := HB.trans (hb.mono HB.size); have hbb := Below.alloc (Below.refl w2.heap.size w2) (Nat.le_refl _) (Obj.cells #[.int .i64 0, .int .i64 0, .int .i64 0, .slice none 0 0] 25); replace HB := (HB.trans (hb.mono HB.size)).trans (hbb.mono (by have := HB.size; have := hb.size; omega)); have hw2 : w.heap.size ≤ w2.heap.size := (by have := HB0.size; omega); clear hb hbb HB0)) | go_values | go_skip | go_guarded | go_step | go_upon | go_back | (dsimp only)))
  go_ret
  exact ⟨ret_bool rfl, HB⟩

end Go.Proofs.Ytcffgbmgjdhkjaa
