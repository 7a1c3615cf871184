import Derived.Test.YtcffgbmgjdhkjaaI
set_option linter.unusedSimpArgs false
set_option linter.unusedVariables false
namespace Go.Proofs.Ytcffgbmgjdhkjaa
open Go.RowKit

def lastW (ls : List Nd) : Int := wAt ls ((ls.length : Int) - 1)
def quest (ls : List Nd) : Int := if (tchk ls).1 ≠ 0 then (tchk ls).1 else if lastW ls ≠ 1 then 8 else 0

theorem tchk_nil {ls : List Nd} (h : (tchk ls).1 = 0) : ls ≠ [] := by
  intro e; subst e; simp [tchk] at h

theorem chk_len (rest : List Nd) : ∀ pre : List Nd, pre.length ≤ 65536 → (chk pre rest).1 = 0 → pre.length + rest.length ≤ 65536 := by
  induction rest with
  | nil => intro pre hp _; simpa using hp
  | cons d rest ih =>
    intro pre hp h
    unfold chk at h
    split at h
    · cases h
    · split at h
      · rename_i h1; exact absurd h h1
      · have := ih (pre ++ [d]) (by simp; omega) h
        simp at this ⊢
        omega
theorem tchk_len {ls : List Nd} (h : (tchk ls).1 = 0) : ls.length ≤ 65536 := by
  have hn := tchk_nil h
  unfold tchk at h
  rw [if_neg hn] at h
  simpa using chk_len ls [] (by simp) h

section
variable {ops : Array Oper} {rest : List Oper} {o : Oper} {a : Act} {w : World} {Q : Exit → Act → World → Prop}
theorem wl_ldL {w0 : World} {b off : Nat} {ls : List Nd} (HR : RowAt 6 Nd.cells w0 b off ls) (hb : Below w0.heap.size w0 w) (hne : ls ≠ []) (hgd : o.guard = none) (x : Operand) (ho : o.op = .load 3 x)
    (hx : a.eval x = .pointer (some ⟨b, off + (ls.length - 1) * 6 + 1, none⟩)) (h : wpList Try.prog ops Q rest (a.put o.dst (.int .i64 (lastW ls))) w) : wpList Try.prog ops Q (o :: rest) a w := by
  have := List.length_pos_iff.2 hne
  have e : ((ls.length : Int) - 1).toNat = ls.length - 1 := by omega
  exact wl_ldW HR hb ((ls.length : Int) - 1) (by omega) (by omega) hgd x ho (by rw [e]; exact hx) h
end

theorem check_anyX (ls : List Nd) (v : Value) (w : World) (h : SlIs 6 Nd.cells w v ls) (hwf : ∀ d ∈ ls, NdWf d) (E p : Int) (hE : Hid (tchk ls = (E, p))) :
    Calls Try.prog 49 #[v] w fun e w' => e = .returned (.tuple #[.int .i64 E, .int .i64 p]) ∧ Below w.heap.size w w' := by
  have := check_any ls v w h hwf
  rwa [hE.out] at this
theorem rcheck_anyX (ls : List Nd) (v : Value) (w : World) (h : SlIs 6 Nd.cells w v ls) (hwf : ∀ d ∈ ls, NdWf d) (E p : Int) (hE : Hid (tchk ls = (E, p))) :
    Calls Try.prog 43 #[v] w fun e w' => e = .returned (.tuple #[.int .i64 E, .int .i64 p]) ∧ Below w.heap.size w w' := by
  have := rcheck_any ls v w h hwf
  rwa [hE.out] at this

set_option maxHeartbeats 1000000 in
theorem question_any (ls : List Nd) (v : Value) (w : World) (h : SlIs 6 Nd.cells w v ls) (hwf : ∀ d ∈ ls, NdWf d) :
    Calls Try.prog 41 #[v] w fun e w' => e = .returned (.int .i64 (quest ls)) ∧ Below w.heap.size w w' := by
  obtain ⟨E, hE⟩ : ∃ E, Hid (tchk ls = (E, (tchk ls).2)) := ⟨(tchk ls).1, Lib.hid rfl⟩
  have Hwf := Lib.hid hwf
  clear hwf
  by_cases hz : E = 0
  · have hne : ls ≠ [] := tchk_nil (by rw [hE.out]; exact hz)
    rcases h.cases with ⟨ao, cap, rfl, rfl⟩ | ⟨b, off, cap, rfl, _, HR⟩
    · exact absurd rfl hne
    subst hz
    have hl := List.length_pos_iff.2 hne
    have hlM : ls.length ≤ 65536 := tchk_len (by rw [hE.out])
    have hl0 : (0 : Int) ≤ (ls.length : Int) - 1 := by omega
    have hl1 : (ls.length : Int) - 1 < ls.length := by omega
    have hl2 : ((ls.length : Int) - 1).toNat = ls.length - 1 := by omega
    have Hne := Lib.hid hne
    have Hq : Hid (quest ls = if lastW ls ≠ 1 then 8 else 0) := Lib.hid (by unfold quest; rw [hE.out]; simp)
    clear hne
    by_cases h1 : lastW ls = 1
    · have f1 : (lastW ls != 1) = false := by simp [h1]
      have H1 := Lib.hid h1
      clear h1
      go_enter Try.func41, Try.ntmps41
      (repeat (first | with_reducible refine xThenN ?_ | with_reducible refine xThenE ?_ | with_reducible refine xThenR ?_ | with_reducible refine xThenP ?_ | with_reducible refine xBlockEq ?_ | with_reducible refine xBlockNe rfl ?_ | with_reducible refine xBlockN ?_ | with_reducible refine xBlockR ?_ | with_reducible refine xBlockP ?_ | (go_at_call 49; (with_reducible refine (check_anyX ls _ _ h Hwf.out 0 _ hE).mono ?_); rintro e w1 ⟨rfl, hb⟩; replace HR := HR.below hb) | ((with_reducible refine wl_id ?_); refine wl_ldL HR (by (repeat (first | with_reducible exact Below.refl _ _ | assumption | with_reducible refine below_drewN ?_ _ | with_reducible refine Below.drew ?_ | with_reducible refine Below.setRow ?_ ?_ _ | with_reducible refine Below.alloc ?_ ?_ _ | with_reducible refine Below.setCell ?_ ?_ _ | with_reducible exact Nat.le_refl _ | (focus (simp; done)) | (focus (simp; omega)) | omega))) Hne rfl _ rfl rfl ?_; simp only [Act.put, List.setIfInBounds_toArray, List.set_cons_succ, List.set_cons_zero]) | go_values | go_skip | go_guarded | go_step | go_upon | go_back | (dsimp only)))
      go_ret
      exact ⟨ret_int (by rw [Hq.out, if_neg (by simp [H1.out])]), hb⟩
    · have f1 : (lastW ls != 1) = true := by simpa using h1
      have H1 := Lib.hid h1
      clear h1
      go_enter Try.func41, Try.ntmps41
      (repeat (first | with_reducible refine xThenN ?_ | with_reducible refine xThenE ?_ | with_reducible refine xThenR ?_ | with_reducible refine xThenP ?_ | with_reducible refine xBlockEq ?_ | with_reducible refine xBlockNe rfl ?_ | with_reducible refine xBlockN ?_ | with_reducible refine xBlockR ?_ | with_reducible refine xBlockP ?_ | (go_at_call 49; (with_reducible refine (check_anyX ls _ _ h Hwf.out 0 _ hE).mono ?_); rintro e w1 ⟨rfl, hb⟩; replace HR := HR.below hb) | ((with_reducible refine wl_id ?_); refine wl_ldL HR (by (repeat (first | with_reducible exact Below.refl _ _ | assumption | with_reducible refine below_drewN ?_ _ | with_reducible refine Below.drew ?_ | with_reducible refine Below.setRow ?_ ?_ _ | with_reducible refine Below.alloc ?_ ?_ _ | with_reducible refine Below.setCell ?_ ?_ _ | with_reducible exact Nat.le_refl _ | (focus (simp; done)) | (focus (simp; omega)) | omega))) Hne rfl _ rfl rfl ?_; simp only [Act.put, List.setIfInBounds_toArray, List.set_cons_succ, List.set_cons_zero]) | go_values | go_skip | go_guarded | go_step | go_upon | go_back | (dsimp only)))
      go_ret
      exact ⟨ret_int (by rw [Hq.out, if_pos H1.out]), hb⟩
  · have fz : (E != 0) = true := by simpa using hz
    have Hq : Hid (quest ls = E) := Lib.hid (by unfold quest; rw [hE.out]; simp [hz])
    clear hz
    go_enter Try.func41, Try.ntmps41
    (repeat (first | with_reducible refine xThenN ?_ | with_reducible refine xThenE ?_ | with_reducible refine xThenR ?_ | with_reducible refine xThenP ?_ | with_reducible refine xBlockEq ?_ | with_reducible refine xBlockNe rfl ?_ | with_reducible refine xBlockN ?_ | with_reducible refine xBlockR ?_ | with_reducible refine xBlockP ?_ | (go_at_call 49; (with_reducible refine (check_anyX ls _ _ h Hwf.out E _ hE).mono ?_); rintro e w1 ⟨rfl, hb⟩) | go_values | go_skip | go_guarded | go_step | go_upon | go_back | (dsimp only)))
    go_ret
    exact ⟨ret_int (by rw [Hq.out]), hb⟩

set_option maxHeartbeats 1000000 in
theorem rterm_any (ls : List Nd) (v : Value) (w : World) (h : SlIs 6 Nd.cells w v ls) (hwf : ∀ d ∈ ls, NdWf d) :
    Calls Try.prog 34 #[v] w fun e w' => e = .returned (.int .i64 (quest ls)) ∧ Below w.heap.size w w' := by
  obtain ⟨E, hE⟩ : ∃ E, Hid (tchk ls = (E, (tchk ls).2)) := ⟨(tchk ls).1, Lib.hid rfl⟩
  have Hwf := Lib.hid hwf
  clear hwf
  by_cases hz : E = 0
  · have hne : ls ≠ [] := tchk_nil (by rw [hE.out]; exact hz)
    rcases h.cases with ⟨ao, cap, rfl, rfl⟩ | ⟨b, off, cap, rfl, _, HR⟩
    · exact absurd rfl hne
    subst hz
    have hl := List.length_pos_iff.2 hne
    have hlM : ls.length ≤ 65536 := tchk_len (by rw [hE.out])
    have hl0 : (0 : Int) ≤ (ls.length : Int) - 1 := by omega
    have hl1 : (ls.length : Int) - 1 < ls.length := by omega
    have hl2 : ((ls.length : Int) - 1).toNat = ls.length - 1 := by omega
    have Hne := Lib.hid hne
    have Hq : Hid (quest ls = if lastW ls ≠ 1 then 8 else 0) := Lib.hid (by unfold quest; rw [hE.out]; simp)
    clear hne
    by_cases h1 : lastW ls = 1
    · have f1 : (lastW ls != 1) = false := by simp [h1]
      have H1 := Lib.hid h1
      clear h1
      go_enter Try.func34, Try.ntmps34
      (repeat (first | with_reducible refine xThenN ?_ | with_reducible refine xThenE ?_ | with_reducible refine xThenR ?_ | with_reducible refine xThenP ?_ | with_reducible refine xBlockEq ?_ | with_reducible refine xBlockNe rfl ?_ | with_reducible refine xBlockN ?_ | with_reducible refine xBlockR ?_ | with_reducible refine xBlockP ?_ | (go_at_call 43; (with_reducible refine (rcheck_anyX ls _ _ h Hwf.out 0 _ hE).mono ?_); rintro e w1 ⟨rfl, hb⟩; replace HR := HR.below hb) | ((with_reducible refine wl_id ?_); refine wl_ldL HR (by (repeat (first | with_reducible exact Below.refl _ _ | assumption | with_reducible refine below_drewN ?_ _ | with_reducible refine Below.drew ?_ | with_reducible refine Below.setRow ?_ ?_ _ | with_reducible refine Below.alloc ?_ ?_ _ | with_reducible refine Below.setCell ?_ ?_ _ | with_reducible exact Nat.le_refl _ | (focus (simp; done)) | (focus (simp; omega)) | omega))) Hne rfl _ rfl rfl ?_; simp only [Act.put, List.setIfInBounds_toArray, List.set_cons_succ, List.set_cons_zero]) | go_values | go_skip | go_guarded | go_step | go_upon | go_back | (dsimp only)))
      go_ret
      exact ⟨ret_int (by rw [Hq.out, if_neg (by simp [H1.out])]), hb⟩
    · have f1 : (lastW ls != 1) = true := by simpa using h1
      have H1 := Lib.hid h1
      clear h1
      go_enter Try.func34, Try.ntmps34
      (repeat (first | with_reducible refine xThenN ?_ | with_reducible refine xThenE ?_ | with_reducible refine xThenR ?_ | with_reducible refine xThenP ?_ | with_reducible refine xBlockEq ?_ | with_reducible refine xBlockNe rfl ?_ | with_reducible refine xBlockN ?_ | with_reducible refine xBlockR ?_ | with_reducible refine xBlockP ?_ | (go_at_call 43; (with_reducible refine (rcheck_anyX ls _ _ h Hwf.out 0 _ hE).mono ?_); rintro e w1 ⟨rfl, hb⟩; replace HR := HR.below hb) | ((with_reducible refine wl_id ?_); refine wl_ldL HR (by (repeat (first | with_reducible exact Below.refl _ _ | assumption | with_reducible refine below_drewN ?_ _ | with_reducible refine Below.drew ?_ | with_reducible refine Below.setRow ?_ ?_ _ | with_reducible refine Below.alloc ?_ ?_ _ | with_reducible refine Below.setCell ?_ ?_ _ | with_reducible exact Nat.le_refl _ | (focus (simp; done)) | (focus (simp; omega)) | omega))) Hne rfl _ rfl rfl ?_; simp only [Act.put, List.setIfInBounds_toArray, List.set_cons_succ, List.set_cons_zero]) | go_values | go_skip | go_guarded | go_step | go_upon | go_back | (dsimp only)))
      go_ret
      exact ⟨ret_int (by rw [Hq.out, if_pos H1.out]), hb⟩
  · have fz : (E != 0) = true := by simpa using hz
    have Hq : Hid (quest ls = E) := Lib.hid (by unfold quest; rw [hE.out]; simp [hz])
    clear hz
    go_enter Try.func34, Try.ntmps34
    (repeat (first | with_reducible refine xThenN ?_ | with_reducible refine xThenE ?_ | with_reducible refine xThenR ?_ | with_reducible refine xThenP ?_ | with_reducible refine xBlockEq ?_ | with_reducible refine xBlockNe rfl ?_ | with_reducible refine xBlockN ?_ | with_reducible refine xBlockR ?_ | with_reducible refine xBlockP ?_ | (go_at_call 43; (with_reducible refine (rcheck_anyX ls _ _ h Hwf.out E _ hE).mono ?_); rintro e w1 ⟨rfl, hb⟩) | go_values | go_skip | go_guarded | go_step | go_upon | go_back | (dsimp only)))
    go_ret
    exact ⟨ret_int (by rw [Hq.out]), hb⟩

end Go.Proofs.Ytcffgbmgjdhkjaa
