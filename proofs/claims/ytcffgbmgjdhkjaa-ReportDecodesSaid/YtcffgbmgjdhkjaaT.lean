import Derived.Test.YtcffgbmgjdhkjaaS
set_option linter.unusedSimpArgs false
set_option linter.unusedVariables false
namespace Go.Proofs.Ytcffgbmgjdhkjaa
open Go.RowKit

theorem in_anyX (a b c : Int) (w : World) (r : Bool) (h : Hid (inB a b c = r)) :
    Calls Try.prog 33 #[.int .i64 a, .int .i64 b, .int .i64 c] w fun e w' => e = .returned (.bool r) ∧ w = w' := by
  rw [← h.out]; exact in_any a b c w

theorem rterm_anyX (ls : List Nd) (v : Value) (w : World) (h : SlIs 6 Nd.cells w v ls) (hwf : ∀ d ∈ ls, NdWf d) (E : Int) (hE : Hid (quest ls = E)) :
    Calls Try.prog 34 #[v] w fun e w' => e = .returned (.int .i64 E) ∧ Below w.heap.size w w' := by
  rw [← hE.out]; exact rterm_any ls v w h hwf

def IntB (w : World) (n : Int) (e : Ending) (w' : World) : Prop := e = .returned (.int .i64 n) ∧ Below w.heap.size w w'
theorem IntB.mk {w w' : World} {n m : Int} (hb : Below w.heap.size w w') (h : n = m) : IntB w n (.returned (.int .i64 m)) w' := by subst h; exact ⟨rfl, hb⟩

set_option maxRecDepth 100000 in
set_option maxHeartbeats 2000000 in
theorem rfcheck_any (rv re ra : Int) (ps : List Pr) (v : Value) (w : World) (hP : PresIn w v ps) (hps : ∀ p ∈ ps, PrWf p) (hf : fewB ps = true) :
    Calls Try.prog 16 #[.agg #[.int .i64 rv, .int .i64 re, .int .i64 ra, v]] w (IntB w (repE ⟨rv, re, ra, ps⟩)) := by
  obtain ⟨vs, hS, hvl, hPs⟩ := hP
  have Hvl := Lib.hid hvl
  have HPs := Lib.hid hPs
  clear hvl hPs
  obtain ⟨av, mv, rfl⟩ := hS.shape
  by_cases g1 : inB rv 1 5 = false
  · have hE : Hid (repE ⟨rv, re, ra, ps⟩ = 3) := Lib.hid (by unfold repE; rw [if_pos g1])
    have G1 := Lib.hid g1
    clear g1
    go_enter Try.func16, Try.ntmps16
    (repeat (first | with_reducible refine xThenN ?_ | with_reducible refine xThenE ?_ | with_reducible refine xThenR ?_ | with_reducible refine xThenP ?_ | with_reducible refine xBlockEq ?_ | with_reducible refine xBlockNe rfl ?_ | with_reducible refine xBlockN ?_ | with_reducible refine xBlockR ?_ | with_reducible refine xBlockP ?_ | (go_at_call 33; (with_reducible refine (in_anyX _ _ _ _ _ (by assumption)).mono ?_); rintro e w1 ⟨rfl, rfl⟩) | go_values | go_skip | go_guarded | go_step | go_upon | go_back | (dsimp only)))
    go_ret
    exact IntB.mk (by (repeat (first | with_reducible exact Below.refl _ _ | assumption | with_reducible refine below_drewN ?_ _ | with_reducible refine Below.drew ?_ | with_reducible refine Below.setRow ?_ ?_ _ | with_reducible refine Below.alloc ?_ ?_ _ | with_reducible refine Below.setCell ?_ ?_ _ | with_reducible exact Nat.le_refl _ | (focus (simp; done)) | (focus (simp; omega)) | omega))) hE.out
  have hR1 : Hid (repE ⟨rv, re, ra, ps⟩ = if inB re 0 18 = false then 3 else if inB ra 0 65535 = false then 3 else if 4096 < ps.length then 3 else presE ps) := Lib.hid (by unfold repE; rw [if_neg g1])
  have G1 : Hid (inB rv 1 5 = true) := Lib.hid (by simpa using g1)
  clear g1
  by_cases g2 : inB re 0 18 = false
  · have hE : Hid (repE ⟨rv, re, ra, ps⟩ = 3) := Lib.hid (by rw [hR1.out, if_pos g2])
    have G2 := Lib.hid g2
    clear g2
    go_enter Try.func16, Try.ntmps16
    (repeat (first | with_reducible refine xThenN ?_ | with_reducible refine xThenE ?_ | with_reducible refine xThenR ?_ | with_reducible refine xThenP ?_ | with_reducible refine xBlockEq ?_ | with_reducible refine xBlockNe rfl ?_ | with_reducible refine xBlockN ?_ | with_reducible refine xBlockR ?_ | with_reducible refine xBlockP ?_ | (go_at_call 33; (with_reducible refine (in_anyX _ _ _ _ _ (by assumption)).mono ?_); rintro e w1 ⟨rfl, rfl⟩) | go_values | go_skip | go_guarded | go_step | go_upon | go_back | (dsimp only)))
    go_ret
    exact IntB.mk (by (repeat (first | with_reducible exact Below.refl _ _ | assumption | with_reducible refine below_drewN ?_ _ | with_reducible refine Below.drew ?_ | with_reducible refine Below.setRow ?_ ?_ _ | with_reducible refine Below.alloc ?_ ?_ _ | with_reducible refine Below.setCell ?_ ?_ _ | with_reducible exact Nat.le_refl _ | (focus (simp; done)) | (focus (simp; omega)) | omega))) hE.out
  replace hR1 : Hid (repE ⟨rv, re, ra, ps⟩ = if inB ra 0 65535 = false then 3 else if 4096 < ps.length then 3 else presE ps) := Lib.hid (by rw [hR1.out, if_neg g2])
  have G2 : Hid (inB re 0 18 = true) := Lib.hid (by simpa using g2)
  clear g2
  by_cases g3 : inB ra 0 65535 = false
  · have hE : Hid (repE ⟨rv, re, ra, ps⟩ = 3) := Lib.hid (by rw [hR1.out, if_pos g3])
    have G3 := Lib.hid g3
    clear g3
    go_enter Try.func16, Try.ntmps16
    (repeat (first | with_reducible refine xThenN ?_ | with_reducible refine xThenE ?_ | with_reducible refine xThenR ?_ | with_reducible refine xThenP ?_ | with_reducible refine xBlockEq ?_ | with_reducible refine xBlockNe rfl ?_ | with_reducible refine xBlockN ?_ | with_reducible refine xBlockR ?_ | with_reducible refine xBlockP ?_ | (go_at_call 33; (with_reducible refine (in_anyX _ _ _ _ _ (by assumption)).mono ?_); rintro e w1 ⟨rfl, rfl⟩) | go_values | go_skip | go_guarded | go_step | go_upon | go_back | (dsimp only)))
    go_ret
    exact IntB.mk (by (repeat (first | with_reducible exact Below.refl _ _ | assumption | with_reducible refine below_drewN ?_ _ | with_reducible refine Below.drew ?_ | with_reducible refine Below.setRow ?_ ?_ _ | with_reducible refine Below.alloc ?_ ?_ _ | with_reducible refine Below.setCell ?_ ?_ _ | with_reducible exact Nat.le_refl _ | (focus (simp; done)) | (focus (simp; omega)) | omega))) hE.out
  have hps20 : ps.length ≤ 20 := by
    unfold fewB at hf
    simp only [Bool.and_eq_true, decide_eq_true_eq] at hf
    exact hf.1
  replace hR1 : Hid (repE ⟨rv, re, ra, ps⟩ = presE ps) := Lib.hid (by rw [hR1.out, if_neg g3, if_neg (by omega)])
  have G3 : Hid (inB ra 0 65535 = true) := Lib.hid (by simpa using g3)
  clear g3
  have hvs0 : (0 : Int) ≤ vs.length := by omega
  have hvs1 : (vs.length : Int) ≤ 20 := by have := Hvl.out; omega
  have Hps := Lib.hid hps
  have Hfew : Hid (∀ p ∈ ps, prFew p = true) := Lib.hid (by
    unfold fewB at hf
    simp only [Bool.and_eq_true, List.all_eq_true] at hf
    exact hf.2)
  clear hps hf
  go_enter Try.func16, Try.ntmps16
  (repeat (first | with_reducible refine xThenN ?_ | with_reducible refine xThenE ?_ | with_reducible refine xThenR ?_ | with_reducible refine xThenP ?_ | with_reducible refine xBlockEq ?_ | with_reducible refine xBlockNe rfl ?_ | with_reducible refine xBlockN ?_ | with_reducible refine xBlockR ?_ | with_reducible refine xBlockP ?_ | (go_at_call 33; (with_reducible refine (in_anyX _ _ _ _ _ (by assumption)).mono ?_); rintro e w1 ⟨rfl, rfl⟩) | go_values | go_skip | go_guarded | go_step | go_upon | go_back | (dsimp only)))
  go_loopw [3, 4, 5, 6] (fun i _ _ _ wr => ∃ (k : Nat), k ≤ vs.length ∧ i = .int .i64 k ∧ Below w.heap.size w wr ∧ wr.heap[w.heap.size]? = some (.cells #[.int .i64 rv, .int .i64 re, .int .i64 ra, .slice av vs.length mv] 25 (0, 0)) ∧ Hid (presE ps = presE (ps.drop k))) (fun i _ _ _ _ => vs.length - (intOf i).toNat)
  case atStart => exact ⟨0, by omega, rfl, by (repeat (first | with_reducible exact Below.refl _ _ | assumption | with_reducible refine below_drewN ?_ _ | with_reducible refine Below.drew ?_ | with_reducible refine Below.setRow ?_ ?_ _ | with_reducible refine Below.alloc ?_ ?_ _ | with_reducible refine Below.setCell ?_ ?_ _ | with_reducible exact Nat.le_refl _ | (focus (simp; done)) | (focus (simp; omega)) | omega)), heap_alloc_new w _, Lib.hid rfl⟩
  case round =>
    obtain ⟨k, hk, rfl, HB, HX, hdr⟩ := hrel
    have hsz := HB.size
    obtain ⟨c0, c1, c2, c3⟩ := cells4 HX
    rcases Nat.lt_or_ge k vs.length with hlt1 | hge
    · obtain ⟨t, ht⟩ : ∃ t, vs[k]? = some t := ⟨_, List.getElem?_eq_getElem hlt1⟩
      obtain ⟨p, hp⟩ : ∃ p, ps[k]? = some p := ⟨_, List.getElem?_eq_getElem (by rw [← Hvl.out]; exact hlt1)⟩
      obtain ⟨q1, q2, q3⟩ := HPs.out k t p ht hp
      obtain ⟨a1, m1, e1⟩ := q1.shape
      obtain ⟨a2, m2, e2⟩ := q2.shape
      obtain ⟨a3, m3, e3⟩ := q3.shape
      obtain ⟨t1, t2, t3⟩ := t
      dsimp only at e1 e2 e3
      subst e1; subst e2; subst e3
      dsimp only at q1 q2 q3
      have hwp := Lib.hid (Hps.out p (List.mem_of_getElem? hp))
      have Hnd := Lib.hid hwp.out.2.1
      have hfp := Hfew.out p (List.mem_of_getElem? hp)
      have hf' : p.path.length ≤ 80 ∧ p.term.length ≤ 400 ∧ p.input.length ≤ 40 := by simpa [prFew] using hfp
      obtain ⟨f1, f2, f3⟩ := hf'
      have f1a : (0 : Int) ≤ p.path.length := by omega
      have f1b : (p.path.length : Int) ≤ 80 := by omega
      have f3a : (0 : Int) ≤ p.input.length := by omega
      have f3b : (p.input.length : Int) ≤ 40 := by omega
      have hi := Lib.hid ht
      have hst : presE (ps.drop k) = if preE p ≠ 0 then preE p else presE (ps.drop (k + 1)) := by
        have hlt : k < ps.length := by rw [← Hvl.out]; exact hlt1
        rw [List.getElem?_eq_getElem hlt] at hp
        injection hp with hp
        rw [List.drop_eq_getElem_cons hlt, hp]
        rfl
      have Hst := Lib.hid hst
      have Hno : Hid (∀ E, preE p = E → E ≠ 0 → repE ⟨rv, re, ra, ps⟩ = E) := Lib.hid (fun E h1 h2 => by rw [hR1.out, hdr.out, Hst.out, h1, if_pos h2])
      clear ht hst hp hfp
      obtain ⟨b9, o9, rfl, HR⟩ : ∃ b o, av = some ⟨b, o, none⟩ ∧ RowAt 3 tripc w b o vs := by
        rcases hS.casesA with ⟨ao, cap, e0, he⟩ | ⟨b2, o2, cap, e0, _, _, HR2⟩
        · rw [he] at hlt1; simp at hlt1
        injection e0 with e0 _ e1
        exact ⟨b2, o2, e0, HR2⟩
      by_cases g1 : inB p.path.length 1 65 = false
      · have hE : Hid (preE p = 3) := Lib.hid (by unfold preE; rw [if_pos g1])
        have G4 := Lib.hid g1
        clear g1
        (repeat (first | with_reducible refine xThenN ?_ | with_reducible refine xThenE ?_ | with_reducible refine xThenR ?_ | with_reducible refine xThenP ?_ | with_reducible refine xBlockEq ?_ | with_reducible refine xBlockNe rfl ?_ | with_reducible refine xBlockN ?_ | with_reducible refine xBlockR ?_ | with_reducible refine xBlockP ?_ | ((with_reducible refine wl_id ?_); refine wl_ldTr HR (by first | exact HB | ((repeat (first | with_reducible exact Below.refl _ _ | assumption | with_reducible refine below_drewN ?_ _ | with_reducible refine Below.drew ?_ | with_reducible refine Below.setRow ?_ ?_ _ | with_reducible refine Below.alloc ?_ ?_ _ | with_reducible refine Below.setCell ?_ ?_ _ | with_reducible exact Nat.le_refl _ | (focus (simp; done)) | (focus (simp; omega)) | omega)))) k hi rfl _ rfl rfl ?_; simp only [Act.put, List.setIfInBounds_toArray, List.set_cons_succ, List.set_cons_zero]; (try dsimp only)) | (go_at_call 33; (with_reducible refine (in_anyX _ _ _ _ _ (by assumption)).mono ?_); rintro e w1 ⟨rfl, rfl⟩) | go_values | go_skip | go_guarded | go_step | go_upon | go_back | (dsimp only)))
        go_ret
        exact IntB.mk (by (repeat (first | with_reducible exact Below.refl _ _ | assumption | with_reducible refine below_drewN ?_ _ | with_reducible refine Below.drew ?_ | with_reducible refine Below.setRow ?_ ?_ _ | with_reducible refine Below.alloc ?_ ?_ _ | with_reducible refine Below.setCell ?_ ?_ _ | with_reducible exact Nat.le_refl _ | (focus (simp; done)) | (focus (simp; omega)) | omega))) (Hno.out 3 hE.out (by decide))
      have hE : Hid (preE p = if p.path.all (inB · 0 255) = false then 3 else if quest p.term ≠ 0 then quest p.term else if 16 < p.input.length then 3 else 0) := Lib.hid (by unfold preE; rw [if_neg g1])
      have g1' : 1 ≤ (p.path.length : Int) ∧ (p.path.length : Int) ≤ 65 := by simpa [inB] using g1
      have G4 : Hid (inB p.path.length 1 65 = true) := Lib.hid (by simpa using g1)
      clear g1
      obtain ⟨g1a, g1b⟩ := g1'
      obtain ⟨b1, o1, rfl, HR1⟩ : ∃ b o, a1 = some ⟨b, o, none⟩ ∧ RowAt 1 i64c w b o p.path := by
        rcases q1.casesA with ⟨ao, cap, e0, he⟩ | ⟨b2, o2, cap, e0, _, _, HR2⟩
        · rw [he] at g1a; simp at g1a
        injection e0 with e0 _ e1
        exact ⟨b2, o2, e0, HR2⟩
      (repeat (first | with_reducible refine xThenN ?_ | with_reducible refine xThenE ?_ | with_reducible refine xThenR ?_ | with_reducible refine xThenP ?_ | with_reducible refine xBlockEq ?_ | with_reducible refine xBlockNe rfl ?_ | with_reducible refine xBlockN ?_ | with_reducible refine xBlockR ?_ | with_reducible refine xBlockP ?_ | ((with_reducible refine wl_id ?_); refine wl_ldTr HR (by first | exact HB | ((repeat (first | with_reducible exact Below.refl _ _ | assumption | with_reducible refine below_drewN ?_ _ | with_reducible refine Below.drew ?_ | with_reducible refine Below.setRow ?_ ?_ _ | with_reducible refine Below.alloc ?_ ?_ _ | with_reducible refine Below.setCell ?_ ?_ _ | with_reducible exact Nat.le_refl _ | (focus (simp; done)) | (focus (simp; omega)) | omega)))) k hi rfl _ rfl rfl ?_; simp only [Act.put, List.setIfInBounds_toArray, List.set_cons_succ, List.set_cons_zero]; (try dsimp only)) | (go_at_call 33; (with_reducible refine (in_anyX _ _ _ _ _ (by assumption)).mono ?_); rintro e w1 ⟨rfl, rfl⟩) | go_values | go_skip | go_guarded | go_step | go_upon | go_back | (dsimp only)))
      refine wp_abs (fun u => Below w.heap.size w u ∧ u.heap[w.heap.size]? = some (.cells #[.int .i64 rv, .int .i64 re, .int .i64 ra, .slice (some ⟨b9, o9, none⟩) vs.length mv] 25 (0, 0)) ∧ u.heap[wr.heap.size]? = some (.cells #[.slice (some ⟨b1, o1, none⟩) p.path.length m1, .slice a2 p.term.length m2, .slice a3 p.input.length m3] 43 (0, 0)))
        ⟨by (repeat (first | with_reducible exact Below.refl _ _ | assumption | with_reducible refine below_drewN ?_ _ | with_reducible refine Below.drew ?_ | with_reducible refine Below.setRow ?_ ?_ _ | with_reducible refine Below.alloc ?_ ?_ _ | with_reducible refine Below.setCell ?_ ?_ _ | with_reducible exact Nat.le_refl _ | (focus (simp; done)) | (focus (simp; omega)) | omega)), (Below.heap_alloc wr _ _ (lt_of_block HX)).trans HX, heap_alloc_new wr _⟩ ?_
      rintro u ⟨HBu, HXu, HYu⟩
      clear HX c0 c1 c2 c3
      obtain ⟨c0, c1, c2, c3⟩ := cells4 HXu
      obtain ⟨y0, y1, y2⟩ := cells3 HYu
      have hall : Hid (∀ x ∈ p.path.take 0, inB x 0 255 = true) := Lib.hid (by simp)
      go_loop [5] (fun i => ∃ (j : Nat), j ≤ p.path.length ∧ i = .int .i64 j ∧ Hid (∀ x ∈ p.path.take j, inB x 0 255 = true)) (fun i => p.path.length - (intOf i).toNat)
      case atStart => exact ⟨0, by omega, rfl, hall⟩
      case round =>
        clear hall
        obtain ⟨j, hj, rfl, hall⟩ := hrel
        rcases Nat.lt_or_ge j p.path.length with hlt2 | hge2
        · obtain ⟨x, hx⟩ : ∃ x, p.path[j]? = some x := ⟨_, List.getElem?_eq_getElem hlt2⟩
          have hce := cell_keep HBu (HR1 j x hx 0 _ rfl)
          simp only [Nat.one_mul, Nat.add_zero] at hce
          have Hx := Lib.hid hx
          clear hx
          by_cases hg : inB x 0 255 = true
          · have Hg := Lib.hid hg
            clear hg
            (repeat (first | with_reducible refine xThenN ?_ | with_reducible refine xThenE ?_ | with_reducible refine xThenR ?_ | with_reducible refine xThenP ?_ | with_reducible refine xBlockEq ?_ | with_reducible refine xBlockNe rfl ?_ | with_reducible refine xBlockN ?_ | with_reducible refine xBlockR ?_ | with_reducible refine xBlockP ?_ | (go_at_call 33; (with_reducible refine (in_anyX _ _ _ _ _ (by assumption)).mono ?_); rintro e w1 ⟨rfl, rfl⟩) | go_values | go_skip | go_guarded | go_step | go_upon | go_back | (dsimp only)))
            refine ⟨⟨j + 1, by omega, by go_num, Lib.hid ?_⟩, by simp [intOf]; omega⟩
            intro y hy
            rw [List.take_add_one, Hx.out] at hy
            simp only [Option.toList_some, List.mem_append, List.mem_singleton] at hy
            rcases hy with hy | rfl
            · exact hall.out y hy
            · exact Hg.out
          · have Hg : Hid (inB x 0 255 = false) := Lib.hid (by simpa using hg)
            have hE3 : Hid (preE p = 3) := Lib.hid (by
              rw [hE.out, if_pos]
              rw [List.all_eq_false]
              exact ⟨x, List.mem_of_getElem? Hx.out, by simp [Hg.out]⟩)
            clear hg
            (repeat (first | with_reducible refine xThenN ?_ | with_reducible refine xThenE ?_ | with_reducible refine xThenR ?_ | with_reducible refine xThenP ?_ | with_reducible refine xBlockEq ?_ | with_reducible refine xBlockNe rfl ?_ | with_reducible refine xBlockN ?_ | with_reducible refine xBlockR ?_ | with_reducible refine xBlockP ?_ | (go_at_call 33; (with_reducible refine (in_anyX _ _ _ _ _ (by assumption)).mono ?_); rintro e w1 ⟨rfl, rfl⟩) | go_values | go_skip | go_guarded | go_step | go_upon | go_back | (dsimp only)))
            go_ret
            exact IntB.mk HBu (Hno.out 3 hE3.out (by decide))
        · have hjj : j = p.path.length := by omega
          subst hjj
          have hall2 : p.path.all (inB · 0 255) ≠ false := by
            have := hall.out
            rw [List.take_length] at this
            simpa using this
          replace hE : Hid (preE p = if quest p.term ≠ 0 then quest p.term else if 16 < p.input.length then 3 else 0) := Lib.hid (by rw [hE.out, if_neg hall2])
          clear hall hall2
          have hsu := HBu.size
          obtain ⟨E, hqE⟩ : ∃ E, Hid (quest p.term = E) := ⟨_, Lib.hid rfl⟩
          by_cases hz : E = 0
          · subst hz
            replace hE : Hid (preE p = if 16 < p.input.length then 3 else 0) := Lib.hid (by rw [hE.out, hqE.out]; simp)
            by_cases h16 : 16 < p.input.length
            · have h16' : (16 : Int) < p.input.length := by omega
              have hE3 : Hid (preE p = 3) := Lib.hid (by rw [hE.out, if_pos h16])
              clear h16
              (repeat (first | with_reducible refine xThenN ?_ | with_reducible refine xThenE ?_ | with_reducible refine xThenR ?_ | with_reducible refine xThenP ?_ | with_reducible refine xBlockEq ?_ | with_reducible refine xBlockNe rfl ?_ | with_reducible refine xBlockN ?_ | with_reducible refine xBlockR ?_ | with_reducible refine xBlockP ?_ | (go_at_call 34; (with_reducible refine (rterm_anyX p.term _ _ (q2.below HBu) Hnd.out _ hqE).mono ?_); rintro e w1 ⟨rfl, hb1⟩; obtain ⟨z0, z1, z2⟩ := cells3 ((hb1.block _ (lt_of_block HYu)).trans HYu)) | go_values | go_skip | go_guarded | go_step | go_upon | go_back | (dsimp only)))
              go_ret
              exact IntB.mk (HBu.trans (hb1.mono hsu)) (Hno.out 3 hE3.out (by decide))
            · have h16' : (p.input.length : Int) ≤ 16 := by omega
              have hE3 : Hid (preE p = 0) := Lib.hid (by rw [hE.out, if_neg h16])
              clear h16
              (repeat (first | with_reducible refine xThenN ?_ | with_reducible refine xThenE ?_ | with_reducible refine xThenR ?_ | with_reducible refine xThenP ?_ | with_reducible refine xBlockEq ?_ | with_reducible refine xBlockNe rfl ?_ | with_reducible refine xBlockN ?_ | with_reducible refine xBlockR ?_ | with_reducible refine xBlockP ?_ | (go_at_call 34; (with_reducible refine (rterm_anyX p.term _ _ (q2.below HBu) Hnd.out _ hqE).mono ?_); rintro e w1 ⟨rfl, hb1⟩; obtain ⟨z0, z1, z2⟩ := cells3 ((hb1.block _ (lt_of_block HYu)).trans HYu)) | go_values | go_skip | go_guarded | go_step | go_upon | go_back | (dsimp only)))
              refine ⟨⟨k + 1, by omega, by go_num, HBu.trans (hb1.mono hsu), (hb1.block _ (lt_of_block HXu)).trans HXu, Lib.hid ?_⟩, by simp [intOf]; omega⟩
              rw [hdr.out, Hst.out, hE3.out]
              simp
          · have fz : (E != 0) = true := by simpa using hz
            have hE3 : Hid (preE p = E) := Lib.hid (by rw [hE.out, hqE.out, if_pos hz])
            have Hz := Lib.hid hz
            clear hz
            (repeat (first | with_reducible refine xThenN ?_ | with_reducible refine xThenE ?_ | with_reducible refine xThenR ?_ | with_reducible refine xThenP ?_ | with_reducible refine xBlockEq ?_ | with_reducible refine xBlockNe rfl ?_ | with_reducible refine xBlockN ?_ | with_reducible refine xBlockR ?_ | with_reducible refine xBlockP ?_ | (go_at_call 34; (with_reducible refine (rterm_anyX p.term _ _ (q2.below HBu) Hnd.out _ hqE).mono ?_); rintro e w1 ⟨rfl, hb1⟩) | go_values | go_skip | go_guarded | go_step | go_upon | go_back | (dsimp only)))
            go_ret
            exact IntB.mk (HBu.trans (hb1.mono hsu)) (Hno.out E hE3.out Hz.out)
    · (repeat (first | with_reducible refine xThenN ?_ | with_reducible refine xThenE ?_ | with_reducible refine xThenR ?_ | with_reducible refine xThenP ?_ | with_reducible refine xBlockEq ?_ | with_reducible refine xBlockNe rfl ?_ | with_reducible refine xBlockN ?_ | with_reducible refine xBlockR ?_ | with_reducible refine xBlockP ?_ | go_values | go_skip | go_guarded | go_step | go_upon | go_back | (dsimp only)))
      go_ret
      exact IntB.mk HB (by rw [hR1.out, hdr.out, List.drop_eq_nil_of_le (by rw [← Hvl.out]; exact hge)]; rfl)

end Go.Proofs.Ytcffgbmgjdhkjaa
