import Derived.Test.YtcffgbmgjdhkjaaK
set_option linter.unusedSimpArgs false
set_option linter.unusedVariables false
namespace Go.Proofs.Ytcffgbmgjdhkjaa
open Go.RowKit

theorem SlIs.casesA {α : Type} {s : Nat} {f : α → List Value} {w : World} {v : Value} {ls : List α} (h : SlIs s f w v ls) :
    (∃ ao cap, v = .slice ao 0 cap ∧ ls = []) ∨ (∃ b o cap, v = .slice (some ⟨b, o, none⟩) ls.length cap ∧ ls ≠ [] ∧ ls.length ≤ cap ∧ RowAt s f w b o ls) := by
  obtain ⟨ao, cap, rfl, hc, _, h4⟩ := h
  by_cases e : ls = []
  · subst e; exact .inl ⟨_, _, rfl, rfl⟩
  · obtain ⟨b, o, rfl, hr⟩ := h4 e
    exact .inr ⟨b, o, cap, rfl, e, hc, hr⟩
theorem SlIs.shape {α : Type} {s : Nat} {f : α → List Value} {w : World} {v : Value} {ls : List α} (h : SlIs s f w v ls) : ∃ ao cap, v = .slice ao ls.length cap := let ⟨ao, cap, e, _⟩ := h; ⟨ao, cap, e⟩

theorem ld43 (w : World) (b o : Nat) (a1 a2 a3 : Option Addr) (n1 n2 n3 c1 c2 c3 : Nat) (h0 : w.cell? ⟨b, o, none⟩ = some (.slice a1 n1 c1)) (h1 : w.cell? ⟨b, o + 1, none⟩ = some (.slice a2 n2 c2)) (h2 : w.cell? ⟨b, o + 2, none⟩ = some (.slice a3 n3 c3)) :
    (Instr.loadAt 43 (.pointer (some ⟨b, o, none⟩))).run Try.prog w = .ok (.agg #[.slice a1 n1 c1, .slice a2 n2 c2, .slice a3 n3 c3]) w := by go_simp

section
variable {ops : Array Oper} {rest : List Oper} {o : Oper} {a : Act} {w : World} {Q : Exit → Act → World → Prop}
theorem wl_ldTr {w0 : World} {b off : Nat} {ls : List Trip} (HR : RowAt 3 tripc w0 b off ls) (hb : Below w0.heap.size w0 w) (i : Nat) {a1 a2 a3 : Option Addr} {n1 n2 n3 c1 c2 c3 : Nat} (t : Hid (ls[i]? = some (.slice a1 n1 c1, .slice a2 n2 c2, .slice a3 n3 c3))) (hgd : o.guard = none) (x : Operand) (ho : o.op = .load 43 x)
    (hx : a.eval x = .pointer (some ⟨b, off + i * 3, none⟩)) (h : wpList Try.prog ops Q rest (a.put o.dst (.agg #[.slice a1 n1 c1, .slice a2 n2 c2, .slice a3 n3 c3])) w) : wpList Try.prog ops Q (o :: rest) a w :=
  wpList_plain hgd fun _ hK => by
    have h0 := cell_keep hb (HR i _ t.out 0 _ rfl)
    have h1 := cell_keep hb (HR i _ t.out 1 _ rfl)
    have h2 := cell_keep hb (HR i _ t.out 2 _ rfl)
    simp only [← Nat.add_assoc, Nat.add_zero, Nat.mul_comm 3 i] at h0 h1 h2
    unfold Oper.wp execOp
    simp only [ho, hx, Sem.run_bind, ld43 w _ _ _ _ _ _ _ _ _ _ _ h0 h1 h2, Result.andThen_ok]
    exact hK _ _ h
end

theorem few_step {ps : List Pr} {k : Nat} {p : Pr} (h : ps[k]? = some p) : (ps.drop k).all prFew = (prFew p && (ps.drop (k + 1)).all prFew) := by
  have hlt : k < ps.length := by
    rcases Nat.lt_or_ge k ps.length with h1 | h1
    · exact h1
    · rw [List.getElem?_eq_none h1] at h; cases h
  rw [List.getElem?_eq_getElem hlt] at h
  injection h with h
  rw [List.drop_eq_getElem_cons hlt, List.all_cons, h]

set_option maxHeartbeats 1000000 in
theorem few_any (v e a : Int) (pv : Value) (ps : List Pr) (w : World) (h : PresIn w pv ps) :
    Calls Try.prog 8 #[.agg #[.int .i64 v, .int .i64 e, .int .i64 a, pv]] w fun e w' => e = .returned (.bool (fewB ps)) ∧ Below w.heap.size w w' := by
  obtain ⟨vs, hS, hlen, hP⟩ := h
  have HP := Lib.hid hP
  have Hlen := Lib.hid hlen
  clear hP
  rcases hS.casesA with ⟨ao, cap, rfl, rfl⟩ | ⟨b, off, cap, rfl, hne, hcap, HR0⟩
  · obtain rfl : ps = [] := by simpa using hlen.symm
    clear hlen
    go_enter Try.func8, Try.ntmps8
    (repeat (first | with_reducible refine xThenN ?_ | with_reducible refine xThenE ?_ | with_reducible refine xThenR ?_ | with_reducible refine xThenP ?_ | with_reducible refine xBlockEq ?_ | with_reducible refine xBlockNe rfl ?_ | with_reducible refine xBlockN ?_ | with_reducible refine xBlockR ?_ | with_reducible refine xBlockP ?_ | (with_reducible refine wp_loop_rounds 1 ?_) | rw [rounds_succ] | go_values | go_skip | go_guarded | go_step | go_upon | go_back | (dsimp only)))
    go_ret
    exact ⟨ret_bool (by simp [fewB]), by (repeat (first | with_reducible exact Below.refl _ _ | assumption | with_reducible refine below_drewN ?_ _ | with_reducible refine Below.drew ?_ | with_reducible refine Below.setRow ?_ ?_ _ | with_reducible refine Below.alloc ?_ ?_ _ | with_reducible refine Below.setCell ?_ ?_ _ | with_reducible exact Nat.le_refl _ | (focus (simp; done)) | (focus (simp; omega)) | omega))⟩
  have Hne := Lib.hid hne
  clear hne hlen
  by_cases h20 : vs.length ≤ 20
  · have f20 : (vs.length : Int) ≤ 20 := by omega
    have HA : Hid (fewB ps = (ps.drop 0).all prFew) := Lib.hid (by simp [fewB, ← Hlen.out, h20])
    go_enter Try.func8, Try.ntmps8
    (repeat (first | with_reducible refine xThenN ?_ | with_reducible refine xThenE ?_ | with_reducible refine xThenR ?_ | with_reducible refine xThenP ?_ | with_reducible refine xBlockEq ?_ | with_reducible refine xBlockNe rfl ?_ | with_reducible refine xBlockN ?_ | with_reducible refine xBlockR ?_ | with_reducible refine xBlockP ?_ | go_values | go_skip | go_guarded | go_step | go_upon | go_back | (dsimp only)))
    go_loopw [3] (fun i wr => ∃ k : Nat, k ≤ vs.length ∧ Hid (fewB ps = (ps.drop k).all prFew) ∧ i = .int .i64 k ∧ Below w.heap.size w wr ∧ wr.cell? ⟨w.heap.size, 3, none⟩ = some (.slice (some ⟨b, off, none⟩) vs.length cap)) (fun i _ => vs.length - (intOf i).toNat)
    case atStart => exact ⟨0, by omega, HA, rfl, by (repeat (first | with_reducible exact Below.refl _ _ | assumption | with_reducible refine below_drewN ?_ _ | with_reducible refine Below.drew ?_ | with_reducible refine Below.setRow ?_ ?_ _ | with_reducible refine Below.alloc ?_ ?_ _ | with_reducible refine Below.setCell ?_ ?_ _ | with_reducible exact Nat.le_refl _ | (focus (simp; done)) | (focus (simp; omega)) | omega)), by simp [go_sem]⟩
    case round =>
      clear HA
      obtain ⟨k, hk, HA, rfl, HB, hc⟩ := hrel
      have HR := HR0.below HB
      have hsz := HB.size
      have hw := World.block_lt_of_cell? wr _ hc
      have hcA : ∀ o, (wr.alloc o).cell? ⟨w.heap.size, 3, none⟩ = some (.slice (some ⟨b, off, none⟩) vs.length cap) := fun o => (Below.cell (Below.alloc (Below.refl wr.heap.size wr) (Nat.le_refl _) o) hw).trans hc
      rcases Nat.lt_or_ge k vs.length with hlt | hge
      · obtain ⟨t, ht⟩ : ∃ t, vs[k]? = some t := ⟨_, List.getElem?_eq_getElem hlt⟩
        obtain ⟨p, hp⟩ : ∃ p, ps[k]? = some p := ⟨_, List.getElem?_eq_getElem (by rw [← Hlen.out]; exact hlt)⟩
        obtain ⟨q1, q2, q3⟩ := HP.out k t p ht hp
        obtain ⟨a1, c1, e1⟩ := q1.shape
        obtain ⟨a2, c2, e2⟩ := q2.shape
        obtain ⟨a3, c3, e3⟩ := q3.shape
        obtain ⟨t1, t2, t3⟩ := t
        dsimp only at e1 e2 e3
        subst e1; subst e2; subst e3
        have hi := Lib.hid ht
        have hst := few_step hp
        clear ht q1 q2 q3 hp
        by_cases hf : p.path.length ≤ 80 ∧ p.term.length ≤ 400 ∧ p.input.length ≤ 40
        · have Hst : Hid (fewB ps = (ps.drop (k + 1)).all prFew) := Lib.hid (by rw [HA.out, hst]; simp [prFew, hf])
          obtain ⟨g1, g2, g3⟩ := hf
          have g1' : (p.path.length : Int) ≤ 80 := by omega
          have g2' : (p.term.length : Int) ≤ 400 := by omega
          have g3' : (p.input.length : Int) ≤ 40 := by omega
          clear hst
          (repeat (first | with_reducible refine xThenN ?_ | with_reducible refine xThenE ?_ | with_reducible refine xThenR ?_ | with_reducible refine xThenP ?_ | with_reducible refine xBlockEq ?_ | with_reducible refine xBlockNe rfl ?_ | with_reducible refine xBlockN ?_ | with_reducible refine xBlockR ?_ | with_reducible refine xBlockP ?_ | ((with_reducible refine wl_id ?_); refine wl_ldTr HR (by (repeat (first | with_reducible exact Below.refl _ _ | assumption | with_reducible refine below_drewN ?_ _ | with_reducible refine Below.drew ?_ | with_reducible refine Below.setRow ?_ ?_ _ | with_reducible refine Below.alloc ?_ ?_ _ | with_reducible refine Below.setCell ?_ ?_ _ | with_reducible exact Nat.le_refl _ | (focus (simp; done)) | (focus (simp; omega)) | omega))) k hi rfl _ rfl rfl ?_; simp only [Act.put, List.setIfInBounds_toArray, List.set_cons_succ, List.set_cons_zero]; (try dsimp only)) | go_values | go_skip | go_guarded | go_step | go_upon | go_back | (dsimp only)))
          refine ⟨⟨k + 1, by omega, Hst, by go_num, ?_, ?_⟩, by simp [intOf]; omega⟩
          · (repeat (first | with_reducible exact Below.refl _ _ | assumption | with_reducible refine below_drewN ?_ _ | with_reducible refine Below.drew ?_ | with_reducible refine Below.setRow ?_ ?_ _ | with_reducible refine Below.alloc ?_ ?_ _ | with_reducible refine Below.setCell ?_ ?_ _ | with_reducible exact Nat.le_refl _ | (focus (simp; done)) | (focus (simp; omega)) | omega))
          · exact cell_keep (by (repeat (first | with_reducible exact Below.refl _ _ | assumption | with_reducible refine below_drewN ?_ _ | with_reducible refine Below.drew ?_ | with_reducible refine Below.setRow ?_ ?_ _ | with_reducible refine Below.alloc ?_ ?_ _ | with_reducible refine Below.setCell ?_ ?_ _ | with_reducible exact Nat.le_refl _ | (focus (simp; done)) | (focus (simp; omega)) | omega))) hc
        · have Hst : Hid (fewB ps = false) := Lib.hid (by rw [HA.out, hst]; simp [prFew, hf])
          clear hst
          (repeat' (first | with_reducible refine xThenN ?_ | with_reducible refine xThenE ?_ | with_reducible refine xThenR ?_ | with_reducible refine xThenP ?_ | with_reducible refine xBlockEq ?_ | with_reducible refine xBlockNe rfl ?_ | with_reducible refine xBlockN ?_ | with_reducible refine xBlockR ?_ | with_reducible refine xBlockP ?_ | ((with_reducible refine wl_id ?_); refine wl_ldTr HR (by (repeat (first | with_reducible exact Below.refl _ _ | assumption | with_reducible refine below_drewN ?_ _ | with_reducible refine Below.drew ?_ | with_reducible refine Below.setRow ?_ ?_ _ | with_reducible refine Below.alloc ?_ ?_ _ | with_reducible refine Below.setCell ?_ ?_ _ | with_reducible exact Nat.le_refl _ | (focus (simp; done)) | (focus (simp; omega)) | omega))) k hi rfl _ rfl rfl ?_; simp only [Act.put, List.setIfInBounds_toArray, List.set_cons_succ, List.set_cons_zero]; (try dsimp only)) | go_values | go_skip | go_guarded | go_step | go_upon | go_back | (dsimp only)))
          all_goals
            go_ret
            exact ⟨ret_bool (by rw [Hst.out]), by (repeat (first | with_reducible exact Below.refl _ _ | assumption | with_reducible refine below_drewN ?_ _ | with_reducible refine Below.drew ?_ | with_reducible refine Below.setRow ?_ ?_ _ | with_reducible refine Below.alloc ?_ ?_ _ | with_reducible refine Below.setCell ?_ ?_ _ | with_reducible exact Nat.le_refl _ | (focus (simp; done)) | (focus (simp; omega)) | omega))⟩
      · (repeat (first | with_reducible refine xThenN ?_ | with_reducible refine xThenE ?_ | with_reducible refine xThenR ?_ | with_reducible refine xThenP ?_ | with_reducible refine xBlockEq ?_ | with_reducible refine xBlockNe rfl ?_ | with_reducible refine xBlockN ?_ | with_reducible refine xBlockR ?_ | with_reducible refine xBlockP ?_ | go_values | go_skip | go_guarded | go_step | go_upon | go_back | (dsimp only)))
        go_ret
        exact ⟨ret_bool (by rw [HA.out, List.drop_eq_nil_of_le (by rw [← Hlen.out]; exact hge)]; rfl), by (repeat (first | with_reducible exact Below.refl _ _ | assumption | with_reducible refine below_drewN ?_ _ | with_reducible refine Below.drew ?_ | with_reducible refine Below.setRow ?_ ?_ _ | with_reducible refine Below.alloc ?_ ?_ _ | with_reducible refine Below.setCell ?_ ?_ _ | with_reducible exact Nat.le_refl _ | (focus (simp; done)) | (focus (simp; omega)) | omega))⟩
  · have f20 : (20 : Int) < vs.length := by omega
    go_enter Try.func8, Try.ntmps8
    (repeat (first | with_reducible refine xThenN ?_ | with_reducible refine xThenE ?_ | with_reducible refine xThenR ?_ | with_reducible refine xThenP ?_ | with_reducible refine xBlockEq ?_ | with_reducible refine xBlockNe rfl ?_ | with_reducible refine xBlockN ?_ | with_reducible refine xBlockR ?_ | with_reducible refine xBlockP ?_ | go_values | go_skip | go_guarded | go_step | go_upon | go_back | (dsimp only)))
    go_ret
    exact ⟨ret_bool (by simp [fewB, ← Hlen.out]; omega), by (repeat (first | with_reducible exact Below.refl _ _ | assumption | with_reducible refine below_drewN ?_ _ | with_reducible refine Below.drew ?_ | with_reducible refine Below.setRow ?_ ?_ _ | with_reducible refine Below.alloc ?_ ?_ _ | with_reducible refine Below.setCell ?_ ?_ _ | with_reducible exact Nat.le_refl _ | (focus (simp; done)) | (focus (simp; omega)) | omega))⟩

end Go.Proofs.Ytcffgbmgjdhkjaa
