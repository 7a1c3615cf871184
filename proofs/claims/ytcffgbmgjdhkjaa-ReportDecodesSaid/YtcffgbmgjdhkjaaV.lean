import Derived.Test.YtcffgbmgjdhkjaaU
set_option linter.unusedSimpArgs false
set_option linter.unusedVariables false
namespace Go.Proofs.Ytcffgbmgjdhkjaa
open Go.RowKit

theorem rfcheck_anyX (rv re ra : Int) (ps : List Pr) (v : Value) (w : World) (hP : PresIn w v ps) (hps : ∀ p ∈ ps, PrWf p) (hf : fewB ps = true) (E : Int) (hE : Hid (repE ⟨rv, re, ra, ps⟩ = E)) :
    Calls Try.prog 16 #[.agg #[.int .i64 rv, .int .i64 re, .int .i64 ra, v]] w fun e w' => e = .returned (.int .i64 E) ∧ Below w.heap.size w w' := by
  rw [← hE.out]; exact rfcheck_any rv re ra ps v w hP hps hf

set_option maxRecDepth 100000 in
set_option maxHeartbeats 2000000 in
theorem rencode_any (rv re ra : Int) (ps : List Pr) (v : Value) (w : World) (hP : PresIn w v ps) (hps : ∀ p ∈ ps, PrWf p) (hf : fewB ps = true) :
    Calls Try.prog 10 #[.agg #[.int .i64 rv, .int .i64 re, .int .i64 ra, v]] w (Encoded w ⟨rv, re, ra, ps⟩) := by
  have HP := Lib.hid hP
  have Hps := Lib.hid hps
  obtain ⟨vs, hS, hvl, hPs⟩ := hP
  have Hvl := Lib.hid hvl
  have HPs := Lib.hid hPs
  clear hvl hPs hps
  obtain ⟨av, mv, rfl⟩ := hS.shape
  obtain ⟨i0, hi0, hz0, hz1, hz2⟩ := info_parts info5
  obtain ⟨E, hE⟩ : ∃ E, Hid (repE ⟨rv, re, ra, ps⟩ = E) := ⟨_, Lib.hid rfl⟩
  by_cases hz : E = 0
  · subst hz
    obtain ⟨⟨d0, d1⟩, ⟨d2, d3⟩, ⟨d4, d5⟩, _, hE0⟩ := repE_zero hE.out
    dsimp only at d0 d1 d2 d3 d4 d5 hE0
    have He0 := Lib.hid hE0
    have hps20 : ps.length ≤ 20 := by
      unfold fewB at hf
      simp only [Bool.and_eq_true, decide_eq_true_eq] at hf
      exact hf.1
    have hvs0 : (0 : Int) ≤ vs.length := by omega
    have hvs1 : (vs.length : Int) ≤ 20 := by have := Hvl.out; omega
    have Hfew : Hid (∀ p ∈ ps, prFew p = true) := Lib.hid (by
      unfold fewB at hf
      simp only [Bool.and_eq_true, List.all_eq_true] at hf
      exact hf.2)
    clear hE0
    have HX0 : (w.alloc (.cells #[.int .i64 rv, .int .i64 re, .int .i64 ra, .slice av vs.length mv] 25)).heap[w.heap.size]? = _ := heap_alloc_new w _
    go_enter Try.func10, Try.ntmps10
    (repeat (first | with_reducible refine xThenN ?_ | with_reducible refine xThenE ?_ | with_reducible refine xThenR ?_ | with_reducible refine xThenP ?_ | with_reducible refine xBlockEq ?_ | with_reducible refine xBlockNe rfl ?_ | with_reducible refine xBlockN ?_ | with_reducible refine xBlockR ?_ | with_reducible refine xBlockP ?_ | go_values | go_skip | go_guarded | go_step | go_upon | go_back | (dsimp only)))
    (go_at_call 16; (with_reducible refine (rfcheck_anyX _ _ _ _ _ _ (HP.out.below (by (repeat (first | with_reducible exact Below.refl _ _ | assumption | with_reducible refine below_drewN ?_ _ | with_reducible refine Below.drew ?_ | with_reducible refine Below.setRow ?_ ?_ _ | with_reducible refine Below.alloc ?_ ?_ _ | with_reducible refine Below.setCell ?_ ?_ _ | with_reducible exact Nat.le_refl _ | (focus (simp; done)) | (focus (simp; omega)) | omega)))) Hps.out hf _ hE).mono ?_); rintro e w1 ⟨rfl, hb1⟩)
    have HX := (hb1.block _ (by simp)).trans HX0
    have HK := OKeep.ofBelow hb1 (base := w.heap.size) (by simp)
    (obtain ⟨c0, c1, c2, c3⟩ := cells4 HX)
    have hX2 : ∀ o, (w1.alloc o).cell? ⟨w.heap.size, 2, none⟩ = some (.int .i64 ra) := fun o => cell_keep (Below.alloc (Below.refl _ _) (Nat.le_refl _) o) c2
    (repeat (first | with_reducible refine xThenN ?_ | with_reducible refine xThenE ?_ | with_reducible refine xThenR ?_ | with_reducible refine xThenP ?_ | with_reducible refine xBlockEq ?_ | with_reducible refine xBlockNe rfl ?_ | with_reducible refine xBlockN ?_ | with_reducible refine xBlockR ?_ | with_reducible refine xBlockP ?_ | go_values | go_skip | go_guarded | go_step | go_upon | go_back | (dsimp only)))
    have hO : Owns (w1.alloc (.cells #[.int .u8 66, .int .u8 82, .int .u8 82, .int .u8 80, .int .u8 rv, .int .u8 re] 5)) w.heap.size (.slice (some ⟨w1.heap.size, 0, none⟩) 6 6) [66, 82, 82, 80, rv, re] :=
      .inr ⟨w1.heap.size, #[.int .u8 66, .int .u8 82, .int .u8 82, .int .u8 80, .int .u8 rv, .int .u8 re], (0, 0), rfl, by have := HK.below.size; simp at this; omega, heap_alloc_new w1 _, rfl, by simp⟩
    replace HX := (Below.heap_alloc w1 (.cells #[.int .u8 66, .int .u8 82, .int .u8 82, .int .u8 80, .int .u8 rv, .int .u8 re] 5) _ (lt_of_block HX)).trans HX
    replace HK : OKeep w.heap.size w (w1.alloc (.cells #[.int .u8 66, .int .u8 82, .int .u8 82, .int .u8 80, .int .u8 rv, .int .u8 re] 5)) := (((OKeep.refl _ _).alloc (Nat.le_refl _) _).trans HK).alloc (by have := HK.below.size; simp at this; omega) _
    clear hb1 HX0 c0 c1 c2 c3 hX2
    (obtain ⟨c0, c1, c2, c3⟩ := cells4 HX)
    (repeat (first | with_reducible refine xThenN ?_ | with_reducible refine xThenE ?_ | with_reducible refine xThenR ?_ | with_reducible refine xThenP ?_ | with_reducible refine xBlockEq ?_ | with_reducible refine xBlockNe rfl ?_ | with_reducible refine xBlockN ?_ | with_reducible refine xBlockR ?_ | with_reducible refine xBlockP ?_ | (go_at_call 17; (with_reducible refine (bytes_anyX _ _ _ (by omega) (by omega) (by omega) (by omega)).mono ?_); rintro e w1 ⟨v9, rfl, hS9, hb1⟩; replace hO := hO.below hb1; have hk9 := OKeep.ofBelow hb1 HK.below.size; (replace HX := hk9.box HX (by decide); replace HK := HK.trans hk9; clear c0 c1 c2 c3; (obtain ⟨c0, c1, c2, c3⟩ := cells4 HX)); clear hk9 hb1) | (at_builtin; refine wl_append_any rfl _ _ 28 rfl w.heap.size i0 Try.underlying28 hi0 hz0 hz1 hz2 _ _ rfl hO (by (try simp only [List.length_append, beI_len, Int.reduceToNat, List.length_cons, List.length_nil]); omega) _ _ rfl hS9 (by (try simp only [List.length_append, beI_len, Int.reduceToNat, List.length_cons, List.length_nil]); omega) HK.below.size ?_; intro v1 w1 hO1 hk9; clear hO hS9; have hO := hO1; clear hO1; (replace HX := hk9.box HX (by decide); replace HK := HK.trans hk9; clear c0 c1 c2 c3; (obtain ⟨c0, c1, c2, c3⟩ := cells4 HX)); clear hk9; (try simp only [Act.put, List.setIfInBounds_toArray, List.set_cons_succ, List.set_cons_zero])) | go_values | go_skip | go_guarded | go_step | go_upon | go_back | (dsimp only)))
    have hl2 : ([66, 82, 82, 80, rv, re] ++ beI ra (Int.toNat 2) ++ beI vs.length (Int.toNat 2)).length = 10 := by simp [beI_len]
    have hbs0 : Hid ([66, 82, 82, 80, rv, re] ++ beI ra (Int.toNat 2) ++ beI vs.length (Int.toNat 2) ++ presB ps = repB ⟨rv, re, ra, ps⟩) := Lib.hid (by
      simp only [repB, Hvl.out, beI1 rv (by omega) (by omega), beI1 re (by omega) (by omega)]
      simp)
    generalize [66, 82, 82, 80, rv, re] ++ beI ra (Int.toNat 2) ++ beI vs.length (Int.toNat 2) = bs0 at hO hl2 hbs0
    have Hl2 := Lib.hid hl2
    clear hl2 c0 c1 c2 c3 hf
    go_loopw [5, 6] (fun s5 i wr => ∃ (k : Nat) (bs1 : List Int), k ≤ vs.length ∧ bs1.length ≤ 1000000 ∧ 0 < bs1.length ∧ Hid (bs1 = bs0 ++ presB (ps.take k)) ∧ i = .int .i64 k ∧ Owns wr w.heap.size s5 bs1 ∧ OKeep w.heap.size w wr ∧ wr.heap[w.heap.size]? = some (.cells #[.int .i64 rv, .int .i64 re, .int .i64 ra, .slice av vs.length mv] 25 (0, 0))) (fun _ i _ => vs.length - (intOf i).toNat)
    case atStart => exact ⟨0, _, by omega, by have := Hl2.out; omega, by have := Hl2.out; omega, Lib.hid (by simp [presB]), rfl, hO, HK, HX⟩
    case round =>
      clear hO HK HX
      obtain ⟨k, bs1, hk, hl1, hl0, hbs, rfl, hO, HK, HX⟩ := hrel
      obtain ⟨wo, rfl⟩ : ∃ wo : World, wo = wr := ⟨_, rfl⟩
      have hsz := HK.below.size
      (obtain ⟨c0, c1, c2, c3⟩ := cells4 HX)
      rcases Nat.lt_or_ge k vs.length with hlt1 | hge
      · obtain ⟨t, ht⟩ : ∃ t, vs[k]? = some t := ⟨_, List.getElem?_eq_getElem hlt1⟩
        obtain ⟨p, hp⟩ : ∃ p, ps[k]? = some p := ⟨_, List.getElem?_eq_getElem (by rw [← Hvl.out]; exact hlt1)⟩
        obtain ⟨q1, q2, q3⟩ := HPs.out k t p ht hp
        obtain ⟨a1, m1, e1⟩ := q1.shape
        obtain ⟨a2, m2, e2⟩ := q2.shape
        obtain ⟨a3, m3, e3⟩ := q3.shape
        obtain ⟨t1, t2, t3⟩ := t
        dsimp only at e1 e2 e3
        subst e1; subst e2; subst e3
        dsimp only at q1 q2 q3
        have Hp := Lib.hid hp
        have hwp := Lib.hid (Hps.out p (List.mem_of_getElem? hp))
        have hp0 := preE_zero (He0.out p (List.mem_of_getElem? hp))
        obtain ⟨⟨g0, g1⟩, hg2, hg3, hg4⟩ := hp0
        have Hg2 := Lib.hid hg2
        have hsm := Lib.hid (tchk_sm (quest_tchk hg3) hwp.out.2.1)
        have hfp := Hfew.out p (List.mem_of_getElem? hp)
        have hf' : p.path.length ≤ 80 ∧ p.term.length ≤ 400 ∧ p.input.length ≤ 40 := by simpa [prFew] using hfp
        obtain ⟨f1, f2, f3⟩ := hf'
        have f1a : (0 : Int) ≤ p.path.length := by omega
        have f1b : (p.path.length : Int) ≤ 80 := by omega
        have f2a : (0 : Int) ≤ p.term.length := by omega
        have f2b : (p.term.length : Int) ≤ 400 := by omega
        have f3a : (0 : Int) ≤ p.input.length := by omega
        have f3b : (p.input.length : Int) ≤ 40 := by omega
        have hi := Lib.hid ht
        clear ht hp hfp hg2 hg3
        obtain ⟨b9, o9, rfl, HR⟩ : ∃ b o, av = some ⟨b, o, none⟩ ∧ RowAt 3 tripc w b o vs := by
          rcases hS.casesA with ⟨ao, cap, e0, he⟩ | ⟨b2, o2, cap, e0, _, _, HR2⟩
          · rw [he] at hlt1; simp at hlt1
          injection e0 with e0 _ e1
          exact ⟨b2, o2, e0, HR2⟩
        obtain ⟨b1, o1, rfl, HR1⟩ : ∃ b o, a1 = some ⟨b, o, none⟩ ∧ RowAt 1 i64c w b o p.path := by
          rcases q1.casesA with ⟨ao, cap, e0, he⟩ | ⟨b2, o2, cap, e0, _, _, HR2⟩
          · rw [he] at g0; simp at g0
          injection e0 with e0 _ e1
          exact ⟨b2, o2, e0, HR2⟩
        (repeat (first | with_reducible refine xThenN ?_ | with_reducible refine xThenE ?_ | with_reducible refine xThenR ?_ | with_reducible refine xThenP ?_ | with_reducible refine xBlockEq ?_ | with_reducible refine xBlockNe rfl ?_ | with_reducible refine xBlockN ?_ | with_reducible refine xBlockR ?_ | with_reducible refine xBlockP ?_ | ((with_reducible refine wl_id ?_); refine wl_ldTr HR (by first | exact HK.below | ((repeat (first | with_reducible exact Below.refl _ _ | assumption | with_reducible refine below_drewN ?_ _ | with_reducible refine Below.drew ?_ | with_reducible refine Below.setRow ?_ ?_ _ | with_reducible refine Below.alloc ?_ ?_ _ | with_reducible refine Below.setCell ?_ ?_ _ | with_reducible exact Nat.le_refl _ | (focus (simp; done)) | (focus (simp; omega)) | omega)))) k hi rfl _ rfl rfl ?_; simp only [Act.put, List.setIfInBounds_toArray, List.set_cons_succ, List.set_cons_zero]; (try dsimp only)) | (at_builtin; refine wl_append_any rfl _ _ 28 rfl w.heap.size i0 Try.underlying28 hi0 hz0 hz1 hz2 _ _ rfl ((hO.alloc _).alloc _) (by (try simp only [List.length_append, beI_len, Int.reduceToNat, List.length_cons, List.length_nil]); omega) _ _ rfl (SlIs.lit1g _ (by simp)) (by (try simp only [List.length_append, beI_len, Int.reduceToNat, List.length_cons, List.length_nil]); omega) (by first | omega | (simp; omega)) ?_; intro v1 w1 hO1 hk9; clear hO; have hO := hO1; clear hO1; have HY := (((OKeep.refl w.heap.size _).alloc (by first | omega | (simp; omega)) _).trans hk9).box (heap_alloc_new wo _) (by decide); replace hk9 := (((OKeep.refl w.heap.size wo).alloc (by first | omega | (simp; omega)) _).alloc (by first | omega | (simp; omega)) _).trans hk9; replace HX := hk9.box HX (by decide); replace HK := HK.trans hk9; clear c0 c1 c2 c3 hk9; (obtain ⟨c0, c1, c2, c3⟩ := cells4 HX); (obtain ⟨y0, y1, y2⟩ := cells3 HY); (try simp only [Act.put, List.setIfInBounds_toArray, List.set_cons_succ, List.set_cons_zero])) | go_values | go_skip | go_guarded | go_step | go_upon | go_back | (dsimp only)))
        have hb1' : Hid (bs1 ++ [(p.path.length : Int)] = bs1 ++ beI p.path.length 1) := Lib.hid (by rw [beI1 _ (by omega) (by omega)])
        have hl3 : (bs1 ++ [(p.path.length : Int)]).length = bs1.length + 1 := by simp
        generalize bs1 ++ [(p.path.length : Int)] = bs2 at hO hb1' hl3
        have Hl3 := Lib.hid hl3
        clear hl3 c0 c1 c2 c3 y0 y1 y2
        go_loopw [5, 8] (fun s5 i wr => ∃ (j : Nat) (bs3 : List Int), j ≤ p.path.length ∧ bs3.length ≤ 1000100 ∧ 0 < bs3.length ∧ Hid (bs3 = bs2 ++ pathB (p.path.take j)) ∧ i = .int .i64 j ∧ Owns wr w.heap.size s5 bs3 ∧ OKeep w.heap.size w wr ∧ wr.heap[w.heap.size]? = some (.cells #[.int .i64 rv, .int .i64 re, .int .i64 ra, .slice (some ⟨b9, o9, none⟩) vs.length mv] 25 (0, 0)) ∧ wr.heap[wo.heap.size]? = some (.cells #[.slice (some ⟨b1, o1, none⟩) p.path.length m1, .slice a2 p.term.length m2, .slice a3 p.input.length m3] 43 (0, 0))) (fun _ i _ => p.path.length - (intOf i).toNat)
        case atStart => exact ⟨0, _, by omega, by have := Hl3.out; omega, by have := Hl3.out; omega, Lib.hid (by simp [pathB]), rfl, hO, HK, HX, HY⟩
        case round =>
          clear hO HK HX HY hsz
          obtain ⟨j, bs3, hj, hl4, hl5, hbs3, rfl, hO, HK, HX, HY⟩ := hrel
          have hsz := HK.below.size
          (obtain ⟨c0, c1, c2, c3⟩ := cells4 HX)
          (obtain ⟨y0, y1, y2⟩ := cells3 HY)
          rcases Nat.lt_or_ge j p.path.length with hlt2 | hge2
          · obtain ⟨x, hx⟩ : ∃ x, p.path[j]? = some x := ⟨_, List.getElem?_eq_getElem hlt2⟩
            have hce := cell_keep HK.below (HR1 j x hx 0 _ rfl)
            simp only [Nat.one_mul, Nat.add_zero] at hce
            obtain ⟨x0, x1⟩ := Hg2.out x (List.mem_of_getElem? hx)
            have Hx := Lib.hid hx
            clear hx
            (repeat (first | with_reducible refine xThenN ?_ | with_reducible refine xThenE ?_ | with_reducible refine xThenR ?_ | with_reducible refine xThenP ?_ | with_reducible refine xBlockEq ?_ | with_reducible refine xBlockNe rfl ?_ | with_reducible refine xBlockN ?_ | with_reducible refine xBlockR ?_ | with_reducible refine xBlockP ?_ | (at_builtin; refine wl_append_any rfl _ _ 28 rfl w.heap.size i0 Try.underlying28 hi0 hz0 hz1 hz2 _ _ rfl (hO.alloc _) (by (try simp only [List.length_append, beI_len, Int.reduceToNat, List.length_cons, List.length_nil]); omega) _ _ rfl (SlIs.lit1g _ rfl) (by (try simp only [List.length_append, beI_len, Int.reduceToNat, List.length_cons, List.length_nil]); omega) (by first | omega | (simp; omega)) ?_; intro v1 w1 hO1 hk9; clear hO; have hO := hO1; clear hO1; replace hk9 := ((OKeep.refl w.heap.size _).alloc HK.below.size _).trans hk9; (replace HX := hk9.box HX (by decide); replace HY := hk9.box HY (by decide); replace HK := HK.trans hk9; clear c0 c1 c2 c3 y0 y1 y2; (obtain ⟨c0, c1, c2, c3⟩ := cells4 HX); (obtain ⟨y0, y1, y2⟩ := cells3 HY)); clear hk9; (try simp only [Act.put, List.setIfInBounds_toArray, List.set_cons_succ, List.set_cons_zero])) | go_values | go_skip | go_guarded | go_step | go_upon | go_back | (dsimp only)))
            have hbs5 : bs3 ++ [x] = bs2 ++ pathB (p.path.take (j + 1)) := by
              rw [hbs3.out, List.take_add_one, Hx.out]
              simp [pathB, beI1 x x0 x1]
            refine ⟨⟨j + 1, _, by omega, ?_, by simp, Lib.hid hbs5, by go_num, hO, HK, HX, HY⟩, by simp [intOf]; omega⟩
            rw [hbs5, List.length_append, pathB_len, Hl3.out]
            have h2 : (p.path.take (j + 1)).length ≤ p.path.length := List.length_take_le' _ _
            omega
          · have hjj : j = p.path.length := by omega
            subst hjj
            have hbs4 : Hid (bs3 = bs2 ++ pathB p.path) := Lib.hid (by have := hbs3.out; rwa [List.take_length] at this)
            clear hbs3
            (repeat (first | with_reducible refine xThenN ?_ | with_reducible refine xThenE ?_ | with_reducible refine xThenR ?_ | with_reducible refine xThenP ?_ | with_reducible refine xBlockEq ?_ | with_reducible refine xBlockNe rfl ?_ | with_reducible refine xBlockN ?_ | with_reducible refine xBlockR ?_ | with_reducible refine xBlockP ?_ | (go_at_call 17; (with_reducible refine (bytes_anyX _ _ _ (by omega) (by omega) (by omega) (by omega)).mono ?_); rintro e w1 ⟨v9, rfl, hS9, hb1⟩; replace hO := hO.below hb1; have hk9 := OKeep.ofBelow hb1 HK.below.size; (replace HX := hk9.box HX (by decide); replace HY := hk9.box HY (by decide); replace HK := HK.trans hk9; clear c0 c1 c2 c3 y0 y1 y2; (obtain ⟨c0, c1, c2, c3⟩ := cells4 HX); (obtain ⟨y0, y1, y2⟩ := cells3 HY)); clear hk9 hb1) | (at_builtin; refine wl_append_any rfl _ _ 28 rfl w.heap.size i0 Try.underlying28 hi0 hz0 hz1 hz2 _ _ rfl hO (by (try simp only [List.length_append, beI_len, Int.reduceToNat, List.length_cons, List.length_nil]); omega) _ _ rfl hS9 (by (try simp only [List.length_append, beI_len, Int.reduceToNat, List.length_cons, List.length_nil]); omega) HK.below.size ?_; intro v1 w1 hO1 hk9; clear hO hS9; have hO := hO1; clear hO1; (replace HX := hk9.box HX (by decide); replace HY := hk9.box HY (by decide); replace HK := HK.trans hk9; clear c0 c1 c2 c3 y0 y1 y2; (obtain ⟨c0, c1, c2, c3⟩ := cells4 HX); (obtain ⟨y0, y1, y2⟩ := cells3 HY)); clear hk9; (try simp only [Act.put, List.setIfInBounds_toArray, List.set_cons_succ, List.set_cons_zero])) | go_values | go_skip | go_guarded | go_step | go_upon | go_back | (dsimp only)))
            have hl6 : (bs3 ++ beI p.term.length (Int.toNat 3)).length = bs3.length + 3 := by simp [beI_len]
            have hbs6 : Hid (bs3 ++ beI p.term.length (Int.toNat 3) = bs2 ++ (pathB p.path ++ beI p.term.length 3)) := Lib.hid (by rw [hbs4.out]; simp)
            generalize bs3 ++ beI p.term.length (Int.toNat 3) = bs4 at hO hl6 hbs6
            have Hl6 := Lib.hid hl6
            clear hl6 c0 c1 c2 c3 y0 y1 y2
            go_loopw [5, 9] (fun s5 i wr => ∃ (j : Nat) (bs5 : List Int), j ≤ p.term.length ∧ bs5.length ≤ 1010000 ∧ 0 < bs5.length ∧ Hid (bs5 = bs4 ++ termB (p.term.take j)) ∧ i = .int .i64 j ∧ Owns wr w.heap.size s5 bs5 ∧ OKeep w.heap.size w wr ∧ wr.heap[w.heap.size]? = some (.cells #[.int .i64 rv, .int .i64 re, .int .i64 ra, .slice (some ⟨b9, o9, none⟩) vs.length mv] 25 (0, 0)) ∧ wr.heap[wo.heap.size]? = some (.cells #[.slice (some ⟨b1, o1, none⟩) p.path.length m1, .slice a2 p.term.length m2, .slice a3 p.input.length m3] 43 (0, 0))) (fun _ i _ => p.term.length - (intOf i).toNat)
            case atStart => exact ⟨0, _, by omega, by have := Hl6.out; omega, by have := Hl6.out; omega, Lib.hid (by simp [termB]), rfl, hO, HK, HX, HY⟩
            case round =>
              clear hO HK HX HY hsz
              obtain ⟨j, bs5, hj, hl7, hl8, hbs7, rfl, hO, HK, HX, HY⟩ := hrel
              have hsz := HK.below.size
              (obtain ⟨c0, c1, c2, c3⟩ := cells4 HX)
              (obtain ⟨y0, y1, y2⟩ := cells3 HY)
              rcases Nat.lt_or_ge j p.term.length with hlt3 | hge3
              · obtain ⟨d, hd⟩ : ∃ d, p.term[j]? = some d := ⟨_, List.getElem?_eq_getElem hlt3⟩
                obtain ⟨⟨s0, s1⟩, ⟨s2, s3⟩, ⟨s4, s5⟩, ⟨s6, s7⟩, ⟨s8, s9⟩, ⟨s10, s11⟩⟩ := hsm.out d (List.mem_of_getElem? hd)
                replace hd := Lib.hid hd
                obtain ⟨b2, o2, rfl, HR2⟩ : ∃ b o, a2 = some ⟨b, o, none⟩ ∧ RowAt 6 Nd.cells w b o p.term := by
                  rcases q2.casesA with ⟨ao, cap, e0, he⟩ | ⟨b2, o2, cap, e0, _, _, HR2⟩
                  · rw [he] at hlt3; simp at hlt3
                  injection e0 with e0 _ e1
                  exact ⟨b2, o2, e0, HR2⟩
                (repeat (first | with_reducible refine xThenN ?_ | with_reducible refine xThenE ?_ | with_reducible refine xThenR ?_ | with_reducible refine xThenP ?_ | with_reducible refine xBlockEq ?_ | with_reducible refine xBlockNe rfl ?_ | with_reducible refine xBlockN ?_ | with_reducible refine xBlockR ?_ | with_reducible refine xBlockP ?_ | ((with_reducible refine wl_id ?_); refine wl_ldNdA HR2 (by first | exact HK.below | ((repeat (first | with_reducible exact Below.refl _ _ | assumption | with_reducible refine below_drewN ?_ _ | with_reducible refine Below.drew ?_ | with_reducible refine Below.setRow ?_ ?_ _ | with_reducible refine Below.alloc ?_ ?_ _ | with_reducible refine Below.setCell ?_ ?_ _ | with_reducible exact Nat.le_refl _ | (focus (simp; done)) | (focus (simp; omega)) | omega)))) _ _ hd.out rfl _ rfl rfl ?_; simp only [Act.put, List.setIfInBounds_toArray, List.set_cons_succ, List.set_cons_zero]; (try dsimp only)) | (at_builtin; refine wl_append_any rfl _ _ 28 rfl w.heap.size i0 Try.underlying28 hi0 hz0 hz1 hz2 _ _ rfl ((hO.alloc _).alloc _) (by (try simp only [List.length_append, beI_len, Int.reduceToNat, List.length_cons, List.length_nil]); omega) _ _ rfl (SlIs.lit2g _ _ (by simp)) (by (try simp only [List.length_append, beI_len, Int.reduceToNat, List.length_cons, List.length_nil]); omega) (by first | omega | (simp; omega)) ?_; intro v1 w1 hO1 hk9; clear hO; have hO := hO1; clear hO1; have HZ := (((OKeep.refl w.heap.size _).alloc (by first | omega | (simp; omega)) _).trans hk9).box (heap_alloc_new wr _) (by decide); replace hk9 := (((OKeep.refl w.heap.size wr).alloc (by first | omega | (simp; omega)) _).alloc (by first | omega | (simp; omega)) _).trans hk9; (replace HX := hk9.box HX (by decide); replace HY := hk9.box HY (by decide); replace HK := HK.trans hk9; clear c0 c1 c2 c3 y0 y1 y2; (obtain ⟨c0, c1, c2, c3⟩ := cells4 HX); (obtain ⟨y0, y1, y2⟩ := cells3 HY)); clear hk9; (obtain ⟨z0, z1, z2, z3, z4, z5⟩ := cells6 HZ); (try simp only [Act.put, List.setIfInBounds_toArray, List.set_cons_succ, List.set_cons_zero])) | (go_at_call 17; (with_reducible refine (bytes_anyX _ _ _ (by omega) (by omega) (by omega) (by omega)).mono ?_); rintro e w1 ⟨v9, rfl, hS9, hb1⟩; replace hO := hO.below hb1; have hk9 := OKeep.ofBelow hb1 HK.below.size; (replace HX := hk9.box HX (by decide); replace HY := hk9.box HY (by decide); replace HZ := hk9.box HZ (by decide); replace HK := HK.trans hk9; clear c0 c1 c2 c3 y0 y1 y2 z0 z1 z2 z3 z4 z5; (obtain ⟨c0, c1, c2, c3⟩ := cells4 HX); (obtain ⟨y0, y1, y2⟩ := cells3 HY); (obtain ⟨z0, z1, z2, z3, z4, z5⟩ := cells6 HZ)); clear hk9 hb1) | (at_builtin; refine wl_append_any rfl _ _ 28 rfl w.heap.size i0 Try.underlying28 hi0 hz0 hz1 hz2 _ _ rfl hO (by (try simp only [List.length_append, beI_len, Int.reduceToNat, List.length_cons, List.length_nil]); omega) _ _ rfl hS9 (by (try simp only [List.length_append, beI_len, Int.reduceToNat, List.length_cons, List.length_nil]); omega) HK.below.size ?_; intro v1 w1 hO1 hk9; clear hO hS9; have hO := hO1; clear hO1; (replace HX := hk9.box HX (by decide); replace HY := hk9.box HY (by decide); replace HZ := hk9.box HZ (by decide); replace HK := HK.trans hk9; clear c0 c1 c2 c3 y0 y1 y2 z0 z1 z2 z3 z4 z5; (obtain ⟨c0, c1, c2, c3⟩ := cells4 HX); (obtain ⟨y0, y1, y2⟩ := cells3 HY); (obtain ⟨z0, z1, z2, z3, z4, z5⟩ := cells6 HZ)); clear hk9; (try simp only [Act.put, List.setIfInBounds_toArray, List.set_cons_succ, List.set_cons_zero])) | (with_reducible refine wp_loop_rounds 4 ?_) | rw [rounds_succ] | go_values | go_skip | go_guarded | go_step | go_upon | go_back | (dsimp only)))
                have hbs9 : bs5 ++ [d.op, d.w] ++ beI d.n (Int.toNat 8) ++ beI d.k0 (Int.toNat 3) ++ beI d.k1 (Int.toNat 3) ++ beI d.k2 (Int.toNat 3) = bs4 ++ termB (p.term.take (j + 1)) := by
                  rw [hbs7.out, List.take_add_one, hd.out]
                  simp [termB, nodeB, beI1 d.op s0 s1, beI1 d.w s2 s3]
                refine ⟨⟨j + 1, _, by omega, ?_, by (simp; omega), Lib.hid hbs9, by go_num, hO, HK, HX, HY⟩, by simp [intOf]; omega⟩
                rw [hbs9, List.length_append, termB_len, Hl6.out]
                have h2 : (p.term.take (j + 1)).length ≤ p.term.length := List.length_take_le' _ _
                omega
              · have hjj : j = p.term.length := by omega
                subst hjj
                have hbs8 : Hid (bs5 = bs4 ++ termB p.term) := Lib.hid (by have := hbs7.out; rwa [List.take_length] at this)
                clear hbs7
                (repeat (first | with_reducible refine xThenN ?_ | with_reducible refine xThenE ?_ | with_reducible refine xThenR ?_ | with_reducible refine xThenP ?_ | with_reducible refine xBlockEq ?_ | with_reducible refine xBlockNe rfl ?_ | with_reducible refine xBlockN ?_ | with_reducible refine xBlockR ?_ | with_reducible refine xBlockP ?_ | (at_builtin; refine wl_append_any rfl _ _ 28 rfl w.heap.size i0 Try.underlying28 hi0 hz0 hz1 hz2 _ _ rfl (hO.alloc _) (by (try simp only [List.length_append, beI_len, Int.reduceToNat, List.length_cons, List.length_nil]); omega) _ _ rfl (SlIs.lit1g _ rfl) (by (try simp only [List.length_append, beI_len, Int.reduceToNat, List.length_cons, List.length_nil]); omega) (by first | omega | (simp; omega)) ?_; intro v1 w1 hO1 hk9; clear hO; have hO := hO1; clear hO1; replace hk9 := ((OKeep.refl w.heap.size _).alloc HK.below.size _).trans hk9; (replace HX := hk9.box HX (by decide); replace HY := hk9.box HY (by decide); replace HK := HK.trans hk9; clear c0 c1 c2 c3 y0 y1 y2; (obtain ⟨c0, c1, c2, c3⟩ := cells4 HX); (obtain ⟨y0, y1, y2⟩ := cells3 HY)); clear hk9; (try simp only [Act.put, List.setIfInBounds_toArray, List.set_cons_succ, List.set_cons_zero])) | (at_builtin; refine wl_append_any rfl _ _ 28 rfl w.heap.size i0 Try.underlying28 hi0 hz0 hz1 hz2 _ _ rfl hO (by (try simp only [List.length_append, beI_len, Int.reduceToNat, List.length_cons, List.length_nil]); omega) _ _ rfl (q3.below HK.below) (by (try simp only [List.length_append, beI_len, Int.reduceToNat, List.length_cons, List.length_nil]); omega) HK.below.size ?_; intro v1 w1 hO1 hk9; clear hO; have hO := hO1; clear hO1; (replace HX := hk9.box HX (by decide); replace HY := hk9.box HY (by decide); replace HK := HK.trans hk9; clear c0 c1 c2 c3 y0 y1 y2; (obtain ⟨c0, c1, c2, c3⟩ := cells4 HX); (obtain ⟨y0, y1, y2⟩ := cells3 HY)); clear hk9; (try simp only [Act.put, List.setIfInBounds_toArray, List.set_cons_succ, List.set_cons_zero])) | go_values | go_skip | go_guarded | go_step | go_upon | go_back | (dsimp only)))
                have hbs9 : bs5 ++ [(p.input.length : Int)] ++ p.input = bs0 ++ presB (ps.take (k + 1)) := by
                  rw [hbs8.out, hbs6.out, hb1'.out, hbs.out, List.take_add_one, Hp.out]
                  simp [presB, preB, beI1 (p.input.length : Int) (by omega) (by omega)]
                refine ⟨⟨k + 1, _, by omega, ?_, by (simp; omega), Lib.hid hbs9, by go_num, hO, HK, HX⟩, by simp [intOf]; omega⟩
                rw [hbs9, List.length_append, Hl2.out]
                have h1 := presB_len (ps.take (k + 1)) (fun q hq => Hfew.out q (List.mem_of_mem_take hq))
                have h2 : (ps.take (k + 1)).length ≤ ps.length := List.length_take_le' _ _
                omega
      · (repeat (first | with_reducible refine xThenN ?_ | with_reducible refine xThenE ?_ | with_reducible refine xThenR ?_ | with_reducible refine xThenP ?_ | with_reducible refine xBlockEq ?_ | with_reducible refine xBlockNe rfl ?_ | with_reducible refine xBlockN ?_ | with_reducible refine xBlockR ?_ | with_reducible refine xBlockP ?_ | go_values | go_skip | go_guarded | go_step | go_upon | go_back | (dsimp only)))
        go_ret2
        refine ⟨HK.below, .inl ⟨hE.out, u5, rfl, ?_⟩⟩
        have : bs1 = repB ⟨rv, re, ra, ps⟩ := by rw [hbs.out, ← hbs0.out, List.take_of_length_le (by rw [← Hvl.out]; exact hge)]
        rw [← this]
        exact hO
  · have hf0 : (E != 0) = true := by simpa using hz
    have Hz := Lib.hid hz
    clear hz
    go_enter Try.func10, Try.ntmps10
    (repeat (first | with_reducible refine xThenN ?_ | with_reducible refine xThenE ?_ | with_reducible refine xThenR ?_ | with_reducible refine xThenP ?_ | with_reducible refine xBlockEq ?_ | with_reducible refine xBlockNe rfl ?_ | with_reducible refine xBlockN ?_ | with_reducible refine xBlockR ?_ | with_reducible refine xBlockP ?_ | (go_at_call 16; (with_reducible refine (rfcheck_anyX _ _ _ _ _ _ (HP.out.below (by (repeat (first | with_reducible exact Below.refl _ _ | assumption | with_reducible refine below_drewN ?_ _ | with_reducible refine Below.drew ?_ | with_reducible refine Below.setRow ?_ ?_ _ | with_reducible refine Below.alloc ?_ ?_ _ | with_reducible refine Below.setCell ?_ ?_ _ | with_reducible exact Nat.le_refl _ | (focus (simp; done)) | (focus (simp; omega)) | omega)))) Hps.out hf _ hE).mono ?_); rintro e w1 ⟨rfl, hb1⟩) | go_values | go_skip | go_guarded | go_step | go_upon | go_back | (dsimp only)))
    go_ret2
    exact Encoded.no (Below.trans (by (repeat (first | with_reducible exact Below.refl _ _ | assumption | with_reducible refine below_drewN ?_ _ | with_reducible refine Below.drew ?_ | with_reducible refine Below.setRow ?_ ?_ _ | with_reducible refine Below.alloc ?_ ?_ _ | with_reducible refine Below.setCell ?_ ?_ _ | with_reducible exact Nat.le_refl _ | (focus (simp; done)) | (focus (simp; omega)) | omega))) (hb1.mono (by simp))) hE.out Hz.out

end Go.Proofs.Ytcffgbmgjdhkjaa
