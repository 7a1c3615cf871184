import Derived.Test.YtcffgbmgjdhkjaaP
set_option linter.unusedSimpArgs false
set_option linter.unusedVariables false
namespace Go.Proofs.Ytcffgbmgjdhkjaa
open Go.RowKit

theorem u64_bad (x : Int) (h0 : -9223372036854775808 ≤ x) (h1 : x ≤ 9223372036854775807) (hb : inB x 0 255 = false) : 255 < IntKind.u64.wrap x := by
  have hb : ¬ (0 ≤ x ∧ x ≤ 255) := by simpa [inB] using hb
  simp only [IntKind.wrap, IntKind.signed, IntKind.bits]
  simp
  omega

set_option maxRecDepth 100000 in
set_option maxHeartbeats 2000000 in
theorem wpre_any (w0 : World) (t1 t2 t3 : Value) (p : Pr) (hP : PrIn w0 (t1, t2, t3) p) (hwf : PrWf p) (hf : prMed p) (Wb : Nat) (v : Value) (bs : List Int) (w : World) (hB : Below w0.heap.size w0 w)
    (hW : WR w Wb w0.heap.size v bs) (hbw : w0.heap.size ≤ Wb) (hl : bs.length ≤ 800000000) :
    Calls Try.prog 32 #[.pointer (some ⟨Wb, 0, none⟩), .agg #[t1, t2, t3]] w (WDone w0.heap.size Wb w bs (preB p) (preE p)) := by
  have hlt := hW.lt
  have hxw : w.heap.size ≠ Wb := by omega
  have hs0 := hB.size
  obtain ⟨q1, q2, q3⟩ := hP
  obtain ⟨a1, m1, e1⟩ := q1.shape
  obtain ⟨a2, m2, e2⟩ := q2.shape
  obtain ⟨a3, m3, e3⟩ := q3.shape
  dsimp only at e1 e2 e3
  subst e1; subst e2; subst e3
  dsimp only at q1 q2 q3
  obtain ⟨f1, f2, f3⟩ := hf
  have f1a : (0 : Int) ≤ p.path.length := by omega
  have f1b : (p.path.length : Int) ≤ 6000 := by omega
  have f2a : (0 : Int) ≤ p.term.length := by omega
  have f2b : (p.term.length : Int) ≤ 6000 := by omega
  have f3a : (0 : Int) ≤ p.input.length := by omega
  have f3b : (p.input.length : Int) ≤ 6000 := by omega
  have Hwf := Lib.hid hwf
  have Hnd := Lib.hid hwf.2.1
  clear hwf
  obtain ⟨b, hbx⟩ : ∃ b, b = w.alloc (.cells #[.slice a1 p.path.length m1, .slice a2 p.term.length m2, .slice a3 p.input.length m3] 43) := ⟨_, rfl⟩
  have HX : (w.alloc (.cells #[.slice a1 p.path.length m1, .slice a2 p.term.length m2, .slice a3 p.input.length m3] 43)).heap[w.heap.size]? = _ := heap_alloc_new w _
  have HK := (WKeep.refl w0.heap.size Wb w).alloc (by omega) (.cells #[.slice a1 p.path.length m1, .slice a2 p.term.length m2, .slice a3 p.input.length m3] 43)
  replace hW := hW.alloc (.cells #[.slice a1 p.path.length m1, .slice a2 p.term.length m2, .slice a3 p.input.length m3] 43)
  clear hbx b
  by_cases g1 : inB p.path.length 1 65 = false
  · have hE : Hid (preE p = 3) := Lib.hid (by unfold preE; rw [if_pos g1])
    have g1' : ¬ (1 ≤ (p.path.length : Int) ∧ (p.path.length : Int) ≤ 65) := by simpa [inB] using g1
    clear g1
    go_enter Try.func32, Try.ntmps32
    (repeat (first | with_reducible refine xThenN ?_ | with_reducible refine xThenE ?_ | with_reducible refine xThenR ?_ | with_reducible refine xThenP ?_ | with_reducible refine xBlockEq ?_ | with_reducible refine xBlockNe rfl ?_ | with_reducible refine xBlockN ?_ | with_reducible refine xBlockR ?_ | with_reducible refine xBlockP ?_ | (go_at_call 31; (with_reducible refine (wnum_no _ _ _ _ _ _ (by omega)).mono ?_); rintro e w1 ⟨rfl, rfl⟩) | go_values | go_skip | go_guarded | go_step | go_upon | go_back | (dsimp only)))
    first | exact bodyPost_panic rfl (WDone.no HK hE.out (by decide)) | exact ⟨rfl, WDone.no HK hE.out (by decide)⟩
  have hE : Hid (preE p = if p.path.all (inB · 0 255) = false then 3 else if quest p.term ≠ 0 then quest p.term else if 16 < p.input.length then 3 else 0) := Lib.hid (by unfold preE; rw [if_neg g1])
  have g1' : 1 ≤ (p.path.length : Int) ∧ (p.path.length : Int) ≤ 65 := by simpa [inB] using g1
  clear g1
  obtain ⟨g1a, g1b⟩ := g1'
  rcases q1.casesA with ⟨ao, cap, e0, he⟩ | ⟨b1, o1, cap, e0, _, _, HR1⟩
  · rw [he] at g1a; simp at g1a
  injection e0 with e0 _ e1
  subst e0; subst e1
  have hall : Hid (∀ x ∈ p.path.take 0, inB x 0 255 = true) := Lib.hid (by simp)
  obtain ⟨i0, hi0, hz0, hz1, hz2⟩ := info_parts info5
  go_enter Try.func32, Try.ntmps32
  (repeat (first | with_reducible refine xThenN ?_ | with_reducible refine xThenE ?_ | with_reducible refine xThenR ?_ | with_reducible refine xThenP ?_ | with_reducible refine xBlockEq ?_ | with_reducible refine xBlockNe rfl ?_ | with_reducible refine xBlockN ?_ | with_reducible refine xBlockR ?_ | with_reducible refine xBlockP ?_ | (go_at_call 31; (with_reducible refine (wnum_okX _ _ _ _ _ _ _ _ _ hW hbw (by omega) (by omega) (by omega) (by omega) (by omega) (by omega) (by (try simp only [List.length_append, beI_len, Int.reduceToNat]); omega)).mono ?_); rintro e w1 ⟨rfl, hk1, v1, hW1⟩; replace HX := hk1.box HX hxw (by decide); obtain ⟨c0, c1, c2⟩ := cells3 HX; replace HK := HK.trans hk1; clear hk1 hW; have hW := hW1; clear hW1) | go_values | go_skip | go_guarded | go_step | go_upon | go_back | (dsimp only)))
  clear c0 c1 c2
  go_loopw [5, 18] (fun _ i wr => ∃ (k : Nat) (v1 : Value) (bs1 : List Int), k ≤ p.path.length ∧ bs1.length ≤ 800000100 ∧ Hid (bs1 = bs ++ beI p.path.length 1 ++ pathB (p.path.take k)) ∧ i = .int .i64 k ∧ WR wr Wb w0.heap.size v1 bs1 ∧ WKeep w0.heap.size Wb w wr ∧ wr.heap[w.heap.size]? = some (.cells #[.slice (some ⟨b1, o1, none⟩) p.path.length m1, .slice a2 p.term.length m2, .slice a3 p.input.length m3] 43 (0, 0)) ∧ Hid (∀ x ∈ p.path.take k, inB x 0 255 = true)) (fun _ i _ => p.path.length - (intOf i).toNat)
  case atStart => exact ⟨0, v1, _, by omega, by simp [beI_len]; omega, Lib.hid (by simp [pathB]), rfl, hW, HK, HX, hall⟩
  case round =>
    clear hall hW HK HX
    obtain ⟨k, v2, bs1, hk, hl1, hbs, rfl, hW, HK, HX, hall⟩ := hrel
    have HB := hB.trans HK.below
    obtain ⟨c0, c1, c2⟩ := cells3 HX
    rcases Nat.lt_or_ge k p.path.length with hlt1 | hge
    · obtain ⟨x, hx⟩ : ∃ x, p.path[k]? = some x := ⟨_, List.getElem?_eq_getElem hlt1⟩
      have hce := cell_keep HB (HR1 k x hx 0 _ rfl)
      simp only [Nat.one_mul, Nat.add_zero] at hce
      have Hx := Lib.hid hx
      obtain ⟨x0, x1⟩ := Hwf.out.1 x (List.mem_of_getElem? hx)
      clear hx
      by_cases hg : inB x 0 255 = true
      · have hg' : 0 ≤ x ∧ x ≤ 255 := by simpa [inB] using hg
        obtain ⟨y0, y1⟩ := hg'
        have Hg := Lib.hid hg
        clear hg
        (repeat (first | with_reducible refine xThenN ?_ | with_reducible refine xThenE ?_ | with_reducible refine xThenR ?_ | with_reducible refine xThenP ?_ | with_reducible refine xBlockEq ?_ | with_reducible refine xBlockNe rfl ?_ | with_reducible refine xBlockN ?_ | with_reducible refine xBlockR ?_ | with_reducible refine xBlockP ?_ | (go_at_call 31; (with_reducible refine (wnum_okX _ _ _ _ _ _ _ _ _ hW hbw (by omega) (by omega) (by omega) (by omega) (by omega) (by omega) (by (try simp only [List.length_append, beI_len, Int.reduceToNat]); omega)).mono ?_); rintro e w1 ⟨rfl, hk1, v1, hW1⟩; replace HX := hk1.box HX hxw (by decide); obtain ⟨c0, c1, c2⟩ := cells3 HX; replace HK := HK.trans hk1; clear hk1 hW; have hW := hW1; clear hW1) | go_values | go_skip | go_guarded | go_step | go_upon | go_back | (dsimp only)))
        have hbs2 : bs1 ++ beI x (Int.toNat 1) = bs ++ beI p.path.length 1 ++ pathB (p.path.take (k + 1)) := by
          rw [hbs.out, List.take_add_one, Hx.out]
          simp [pathB]
        refine ⟨⟨k + 1, v1, _, by omega, ?_, Lib.hid hbs2, by go_num, hW, HK, HX, Lib.hid ?_⟩, by simp [intOf]; omega⟩
        · rw [hbs2]
          simp only [List.length_append, beI_len, pathB_len, List.length_take]
          omega
        · intro y hy
          rw [List.take_add_one, Hx.out] at hy
          simp only [Option.toList_some, List.mem_append, List.mem_singleton] at hy
          rcases hy with hy | rfl
          · exact hall.out y hy
          · exact Hg.out
      · replace hg : inB x 0 255 = false := by simpa using hg
        have hbad := u64_bad x x0 x1 hg
        have hE3 : Hid (preE p = 3) := Lib.hid (by
          rw [hE.out, if_pos]
          rw [List.all_eq_false]
          exact ⟨x, List.mem_of_getElem? Hx.out, by simp [hg]⟩)
        clear hg
        (repeat (first | with_reducible refine xThenN ?_ | with_reducible refine xThenE ?_ | with_reducible refine xThenR ?_ | with_reducible refine xThenP ?_ | with_reducible refine xBlockEq ?_ | with_reducible refine xBlockNe rfl ?_ | with_reducible refine xBlockN ?_ | with_reducible refine xBlockR ?_ | with_reducible refine xBlockP ?_ | (go_at_call 31; (with_reducible refine (wnum_no _ _ _ _ _ _ (by omega)).mono ?_); rintro e w1 ⟨rfl, rfl⟩) | go_values | go_skip | go_guarded | go_step | go_upon | go_back | (dsimp only)))
        first | exact bodyPost_panic rfl (WDone.no HK hE3.out (by decide)) | exact ⟨rfl, WDone.no HK hE3.out (by decide)⟩
    · have hkk : k = p.path.length := by omega
      subst hkk
      have hbs2 : Hid (bs1 = bs ++ beI p.path.length 1 ++ pathB p.path) := Lib.hid (by have := hbs.out; rwa [List.take_length] at this)
      have hall2 : p.path.all (inB · 0 255) ≠ false := by
        have := hall.out
        rw [List.take_length] at this
        simpa using this
      replace hE : Hid (preE p = if quest p.term ≠ 0 then quest p.term else if 16 < p.input.length then 3 else 0) := Lib.hid (by rw [hE.out, if_neg hall2])
      clear hall hbs hall2
      obtain ⟨E, hqE⟩ : ∃ E, Hid (quest p.term = E) := ⟨_, Lib.hid rfl⟩
      by_cases hz : E = 0
      · subst hz
        have hq0 := quest_tchk hqE.out
        have hsm := Lib.hid (tchk_sm hq0 Hwf.out.2.1)
        have hne := Lib.hid (tchk_nil hq0)
        have hne1 : 1 ≤ (p.term.length : Int) := by have := List.length_pos_iff.2 hne.out; omega
        replace hE : Hid (preE p = if 16 < p.input.length then 3 else 0) := Lib.hid (by rw [hE.out, hqE.out]; simp)
        clear hq0
        obtain ⟨b2, o2, rfl, HR2⟩ : ∃ b2 o2, a2 = some ⟨b2, o2, none⟩ ∧ RowAt 6 Nd.cells w0 b2 o2 p.term := by
          rcases (q2.casesA) with ⟨ao, cap, e0, he⟩ | ⟨b2, o2, cap, e0, _, _, HR2⟩
          · exact absurd he hne.out
          injection e0 with e0 _ e1
          exact ⟨b2, o2, e0, HR2⟩
        (repeat (first | with_reducible refine xThenN ?_ | with_reducible refine xThenE ?_ | with_reducible refine xThenR ?_ | with_reducible refine xThenP ?_ | with_reducible refine xBlockEq ?_ | with_reducible refine xBlockNe rfl ?_ | with_reducible refine xBlockN ?_ | with_reducible refine xBlockR ?_ | with_reducible refine xBlockP ?_ | (go_at_call 41; (with_reducible refine (question_anyX p.term _ _ (q2.below HB) Hnd.out _ hqE).mono ?_); rintro e w1 ⟨rfl, hk1⟩; replace HB := HB.trans (hk1.mono HB.size); replace HX := (hk1.block _ (lt_of_block HX)).trans HX; obtain ⟨c0, c1, c2⟩ := cells3 HX; replace hW := hW.below hk1; replace HK := HK.trans (WKeep.ofBelow hk1 (Nat.le_trans hs0 HK.below.size)); clear hk1) | (go_at_call 31; (with_reducible refine (wnum_okX _ _ _ _ _ _ _ _ _ hW hbw (by omega) (by omega) (by omega) (by omega) (by omega) (by omega) (by (try simp only [List.length_append, beI_len, Int.reduceToNat]); omega)).mono ?_); rintro e w1 ⟨rfl, hk1, v1, hW1⟩; replace HX := hk1.box HX hxw (by decide); obtain ⟨c0, c1, c2⟩ := cells3 HX; replace HK := HK.trans hk1; clear hk1 hW; have hW := hW1; clear hW1) | go_values | go_skip | go_guarded | go_step | go_upon | go_back | (dsimp only)))
        have hl2 : (bs1 ++ beI p.term.length (Int.toNat 3)).length = bs1.length + 3 := by simp [beI_len]
        obtain ⟨bs3, hbs3⟩ : ∃ b, b = bs1 ++ beI p.term.length (Int.toNat 3) := ⟨_, rfl⟩
        rw [← hbs3] at hW hl2
        have Hbs3 := Lib.hid hbs3
        clear hbs3 c0 c1 c2
        go_loopw [8, 44] (fun _ i wr => ∃ (k : Nat) (v1 : Value) (bs1 : List Int), k ≤ p.term.length ∧ bs1.length ≤ 800200000 ∧ Hid (bs1 = bs3 ++ termB (p.term.take k)) ∧ i = .int .i64 k ∧ WR wr Wb w0.heap.size v1 bs1 ∧ WKeep w0.heap.size Wb w wr ∧ wr.heap[w.heap.size]? = some (.cells #[.slice (some ⟨b1, o1, none⟩) p.path.length m1, .slice (some ⟨b2, o2, none⟩) p.term.length m2, .slice a3 p.input.length m3] 43 (0, 0))) (fun _ i _ => p.term.length - (intOf i).toNat)
        case atStart => exact ⟨0, v1, _, by omega, by omega, Lib.hid (by simp [termB]), rfl, hW, HK, HX⟩
        case round =>
          clear hW HK HX HB
          obtain ⟨k, v2, bs1, hk, hl1, hbs, rfl, hW, HK, HX⟩ := hrel
          have HB := hB.trans HK.below
          obtain ⟨c0, c1, c2⟩ := cells3 HX
          rcases Nat.lt_or_ge k p.term.length with hlt1 | hge
          · obtain ⟨d, hd⟩ : ∃ d, p.term[k]? = some d := ⟨_, List.getElem?_eq_getElem hlt1⟩
            have hi := Lib.hid hd
            have hsd := Lib.hid (hsm.out d (List.mem_of_getElem? hd))
            clear hd
            (repeat (first | with_reducible refine xThenN ?_ | with_reducible refine xThenE ?_ | with_reducible refine xThenR ?_ | with_reducible refine xThenP ?_ | with_reducible refine xBlockEq ?_ | with_reducible refine xBlockNe rfl ?_ | with_reducible refine xBlockN ?_ | with_reducible refine xBlockR ?_ | with_reducible refine xBlockP ?_ | ((with_reducible refine wl_id ?_); refine wl_ldNdA HR2 (by first | exact HB | ((repeat (first | with_reducible exact Below.refl _ _ | assumption | with_reducible refine below_drewN ?_ _ | with_reducible refine Below.drew ?_ | with_reducible refine Below.setRow ?_ ?_ _ | with_reducible refine Below.alloc ?_ ?_ _ | with_reducible refine Below.setCell ?_ ?_ _ | with_reducible exact Nat.le_refl _ | (focus (simp; done)) | (focus (simp; omega)) | omega)))) k _ hi.out rfl _ rfl rfl ?_; simp only [Act.put, List.setIfInBounds_toArray, List.set_cons_succ, List.set_cons_zero]; (try dsimp only)) | (go_at_call 42; (with_reducible refine (wnode_ok _ _ _ _ _ _ hsd.out _ _ _ _ _ (hW.alloc _) hbw (by omega)).mono ?_); rintro e w1 ⟨rfl, hk1, v1, hW1⟩; replace HX := hk1.box ((Below.heap_alloc _ _ _ (lt_of_block HX)).trans HX) hxw (by decide); obtain ⟨c0, c1, c2⟩ := cells3 HX; replace HK := (HK.alloc (Nat.le_trans hs0 HK.below.size) _).trans hk1; clear hk1 hW; have hW := hW1; clear hW1) | go_values | go_skip | go_guarded | go_step | go_upon | go_back | (dsimp only)))
            have hbs2 : bs1 ++ nodeB ⟨d.op, d.w, d.n, d.k0, d.k1, d.k2⟩ = bs3 ++ termB (p.term.take (k + 1)) := by
              rw [hbs.out, List.take_add_one, hi.out]
              simp [termB]
            refine ⟨⟨k + 1, v1, _, by omega, ?_, Lib.hid hbs2, by go_num, hW, HK, HX⟩, by simp [intOf]; omega⟩
            rw [hbs2]
            simp only [List.length_append, termB_len, List.length_take]
            omega
          · have hkk : k = p.term.length := by omega
            subst hkk
            have hbs4 : Hid (bs1 = bs3 ++ termB p.term) := Lib.hid (by have := hbs.out; rwa [List.take_length] at this)
            clear hbs
            by_cases h16 : 16 < p.input.length
            · have h16' : (16 : Int) < p.input.length := by omega
              have hE3 : Hid (preE p = 3) := Lib.hid (by rw [hE.out, if_pos h16])
              clear h16
              (repeat (first | with_reducible refine xThenN ?_ | with_reducible refine xThenE ?_ | with_reducible refine xThenR ?_ | with_reducible refine xThenP ?_ | with_reducible refine xBlockEq ?_ | with_reducible refine xBlockNe rfl ?_ | with_reducible refine xBlockN ?_ | with_reducible refine xBlockR ?_ | with_reducible refine xBlockP ?_ | (go_at_call 31; (with_reducible refine (wnum_no _ _ _ _ _ _ (by omega)).mono ?_); rintro e w1 ⟨rfl, rfl⟩) | go_values | go_skip | go_guarded | go_step | go_upon | go_back | (dsimp only)))
              first | exact bodyPost_panic rfl (WDone.no HK hE3.out (by decide)) | exact ⟨rfl, WDone.no HK hE3.out (by decide)⟩
            · have h16' : (p.input.length : Int) ≤ 16 := by omega
              have hE3 : Hid (preE p = 0) := Lib.hid (by rw [hE.out, if_neg h16])
              clear h16
              (repeat (first | with_reducible refine xThenN ?_ | with_reducible refine xThenE ?_ | with_reducible refine xThenR ?_ | with_reducible refine xThenP ?_ | with_reducible refine xBlockEq ?_ | with_reducible refine xBlockNe rfl ?_ | with_reducible refine xBlockN ?_ | with_reducible refine xBlockR ?_ | with_reducible refine xBlockP ?_ | (go_at_call 31; (with_reducible refine (wnum_okX _ _ _ _ _ _ _ _ _ hW hbw (by omega) (by omega) (by omega) (by omega) (by omega) (by omega) (by (try simp only [List.length_append, beI_len, Int.reduceToNat]); omega)).mono ?_); rintro e w1 ⟨rfl, hk1, v1, hW1⟩; replace HX := hk1.box HX hxw (by decide); obtain ⟨c0, c1, c2⟩ := cells3 HX; replace HK := HK.trans hk1; clear hk1 hW; have hW := hW1; clear hW1) | go_values | go_skip | go_guarded | go_step | go_upon | go_back | (dsimp only)))
              have hlen : (bs1 ++ beI p.input.length (Int.toNat 1)).length ≤ 800300000 := by simp only [List.length_append, beI_len]; simp; omega
              have hpos : 0 < (bs1 ++ beI p.input.length (Int.toNat 1)).length := by simp only [List.length_append, beI_len]; simp
              have hfin : Hid (bs1 ++ beI p.input.length (Int.toNat 1) ++ p.input = bs ++ preB p) := Lib.hid (by
                rw [hbs4.out, Hbs3.out, hbs2.out]
                simp [preB])
              generalize bs1 ++ beI p.input.length (Int.toNat 1) = bs5 at hW hlen hpos hfin
              obtain ⟨g9, c9, rfl, hg9, _, _⟩ := hW.2.form hpos
              have hc := hW.cell
              have hfz := free_of_one hW.1
              have hWlt := hW.lt
              rcases (q3.casesA) with ⟨ao, cap, e0, he⟩ | ⟨b3, o3, cap, e0, hne3, _, HR3⟩
              · injection e0 with e0 e2 e1
                rw [e2] at c2
                have He := Lib.hid he
                clear e2 he e0 e1
                go_region_law ((refine step_append_zero _ (by rfl) _ _ _ (by rfl) 5 i0 Try.underlying28 hi0 _ _ _ (by rfl) hg9 a3 m3 (by rfl) ?_))
                all_goals
                  obtain ⟨hWn, hKn⟩ := WR_same hW HK hbw (Below.drew (Below.refl _ w1))
                  (repeat (first | with_reducible refine xThenN ?_ | with_reducible refine xThenE ?_ | with_reducible refine xThenR ?_ | with_reducible refine xThenP ?_ | with_reducible refine xBlockEq ?_ | with_reducible refine xBlockNe rfl ?_ | with_reducible refine xBlockN ?_ | with_reducible refine xBlockR ?_ | with_reducible refine xBlockP ?_ | go_values | go_skip | go_guarded | go_step | go_upon | go_back | (dsimp only)))
                  exact bodyPost_end (results_none rfl _ _ _) rfl (WDone.yes hKn hE3.out hWn (by rw [← hfin.out, He.out]; simp))
              · injection e0 with e0 e2 e1
                subst e0
                have hne : 0 < p.input.length := List.length_pos_iff.2 hne3
                have hownN := hW.own_ne
                clear e2 e1
                have hnews : ∀ j u, (u8s p.input)[j]? = some u → w1.drew.cell? ((⟨b3, o3, none⟩ : Addr).add j) = some u := by
                  intro j u hj
                  simp only [u8s, List.getElem?_map, Option.map_eq_some_iff] at hj
                  obtain ⟨x, hx, rfl⟩ := hj
                  have := cell_keep (hB.trans HK.below) (HR3 j x hx 0 _ rfl)
                  rcases j with _ | j
                  · simpa [Addr.add] using this
                  · simpa [Addr.add] using this
                have hc2 : ∀ w2 : World, w1.drew.grownBy w2 (Value.ownBlock (.slice (some ⟨g9, 0, none⟩) bs5.length c9)) → w2.cell? ⟨Wb, 0, none⟩ = some (.slice (some ⟨g9, 0, none⟩) bs5.length c9) ∧ w2.frozen? ⟨Wb, 0, none⟩ = false := fun w2 hgrow =>
                  ⟨by rw [hgrow.cell_far _ (by simp; omega) (Ne.symm hownN)]; exact hc, by rw [hgrow.frozen_far _ (by simp; omega) (Ne.symm hownN)]; exact hfz⟩
                have Hc2 := Lib.hid hc2
                have Hnews := Lib.hid hnews
                clear hc2 hnews
                have Hown := Lib.hid (hW.2.same (w' := w1.drew) (fun k hk => rfl))
                go_region_law ((refine step_append_owns _ (by rfl) _ _ _ (by rfl) w0.heap.size i0 Try.underlying28 hi0 hz0 hz1 hz2 _ _ (by rfl) Hown.out ⟨b3, o3, none⟩ p.input.length m3 p.input (by rfl) (by rfl) Hnews.out (by omega) (by omega) (by have := HK.below.size; simp; omega) ?_; intro gg cap w2 hown1 hgrow hlt; have hcf := Hc2.out w2 hgrow; obtain ⟨hc1, hf1⟩ := hcf))
                all_goals
                  obtain ⟨hWn, hKn⟩ := WR_grow hW HK hbw (Below.drew (Below.refl _ w1)) hgrow hown1 (by assumption)
                  (repeat (first | with_reducible refine xThenN ?_ | with_reducible refine xThenE ?_ | with_reducible refine xThenR ?_ | with_reducible refine xThenP ?_ | with_reducible refine xBlockEq ?_ | with_reducible refine xBlockNe rfl ?_ | with_reducible refine xBlockN ?_ | with_reducible refine xBlockR ?_ | with_reducible refine xBlockP ?_ | go_values | go_skip | go_guarded | go_step | go_upon | go_back | (dsimp only)))
                  exact bodyPost_end (results_none rfl _ _ _) rfl (WDone.yes hKn hE3.out hWn hfin.out)
      · have fz : (E != 0) = true := by simpa using hz
        have hE3 : Hid (preE p = E) := Lib.hid (by rw [hE.out, hqE.out, if_pos hz])
        have Hz := Lib.hid hz
        clear hz
        (repeat (first | with_reducible refine xThenN ?_ | with_reducible refine xThenE ?_ | with_reducible refine xThenR ?_ | with_reducible refine xThenP ?_ | with_reducible refine xBlockEq ?_ | with_reducible refine xBlockNe rfl ?_ | with_reducible refine xBlockN ?_ | with_reducible refine xBlockR ?_ | with_reducible refine xBlockP ?_ | (go_at_call 41; (with_reducible refine (question_anyX p.term _ _ (q2.below HB) Hnd.out _ hqE).mono ?_); rintro e w1 ⟨rfl, hk1⟩; replace HB := HB.trans (hk1.mono HB.size); replace HX := (hk1.block _ (lt_of_block HX)).trans HX; obtain ⟨c0, c1, c2⟩ := cells3 HX; replace hW := hW.below hk1; replace HK := HK.trans (WKeep.ofBelow hk1 (Nat.le_trans hs0 HK.below.size)); clear hk1) | go_values | go_skip | go_guarded | go_step | go_upon | go_back | (dsimp only)))
        first | exact bodyPost_panic rfl (WDone.no HK hE3.out Hz.out) | exact ⟨rfl, WDone.no HK hE3.out Hz.out⟩

end Go.Proofs.Ytcffgbmgjdhkjaa
