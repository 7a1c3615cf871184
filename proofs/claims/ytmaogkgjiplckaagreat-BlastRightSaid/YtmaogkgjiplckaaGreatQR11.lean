import Derived.Test.YtmaogkgjiplckaaGreatQR10
import Derived.Test.YtmaogkgjiplckaaGreatQR3
set_option linter.unusedVariables false
set_option linter.unusedSimpArgs false
namespace Go.Proofs.YtmaogkgjiplckaaGreat
open Go.RowKit
set_option maxRecDepth 100000 in
set_option maxHeartbeats 8000000 in
theorem term_any (v : Value) (A : List Nd) (w : World) (h : SlIs 6 Nd.cells w v A) (hA : RT A) (hll : A.length ≤ 60) (p : Nat) (hp : p < A.length) :
    Calls Tryz.prog 18 #[v, .int .i64 p] w fun e w' => (∃ (vB : Value) (B : List Nd) (nd : Nat → Bool) (tp : List Int), e = .returned vB ∧ SlIs 6 Nd.cells w' vB B ∧ TermI A nd (p + 1) B tp ∧ nd p = true) ∧ Below w.heap.size w w' := by
  have HA := Lib.hid hA
  have HLN := Lib.hid hll
  have HPL := Lib.hid hp
  obtain ⟨ao, cap, rfl, hcap, -, hrow⟩ := h
  obtain ⟨b, off, rfl, HR⟩ := hrow (List.length_pos_iff.1 (by omega))
  have HRW := Lib.hid HR
  have hlI : (A.length : Int) ≤ 60 := by omega
  have hp0 : (0 : Int) ≤ (p : Int) := by omega
  have hp1 : (p : Int) < (A.length : Int) := by omega
  have hp2 : ¬ ((p : Int) < 0) := by omega
  have hp3 : ¬ ((A.length : Int) ≤ (p : Int)) := by omega
  clear hrow HR hcap hA hll hp
  go_enter Tryz.func18, Tryz.ntmps18
  (repeat (first | (with_reducible first | refine xA ?_ | refine xB ?_ | refine xC ?_ | refine xD ?_ | refine xH ?_ | refine xI rfl ?_ | refine xE ?_ | refine xF ?_ | refine xG ?_) | go_skip | go_guarded | ((with_reducible refine wl_id ?_); refine wl_make_ownB rfl _ _ rfl A.length rfl rfl (by have := HLN.out; omega) ?_; intro w1 hO1 hg1; have HO1 := Lib.hid hO1; have hb1 := below_none (Below.refl w.heap.size w) hg1 (Nat.le_refl _); clear hO1 hg1; (try simp only [Act.put, qz4, qz5, qz6])) | ((with_reducible refine wl_id ?_); refine wl_store_ownB rfl _ _ rfl w.heap.size A.length _ p rfl true rfl HO1.out HPL.out ?_; intro w2 hO2 hg2; have HO2 := Lib.hid hO2; have hb2 := below_grown hb1 hg2 (fun k e => by injection e with e; omega); clear hO2 hg2; (try simp only [Act.put, qz4, qz5, qz6])) | go_values | go_skip | go_guarded | go_step | go_upon | go_back | ((with_reducible show Oper.upon _ _ _ _ _ _); go_simp) | (dsimp only)))
  go_loopw [6] (fun i wr => ∃ (m : Nat) (nb : List Bool), m ≤ p + 1 ∧ i = .int .i64 ((m : Int) - 1) ∧ Hid (OwnB wr w.heap.size A.length nb) ∧ Hid (NdI A p m nb) ∧ Below w.heap.size w wr) (fun i _ => (intOf i + 1).toNat)
  case atStart => exact ⟨p + 1, _, Nat.le_refl _, by go_num, HO2, Lib.hid (NdI.start HPL.out), hb2⟩
  case round =>
    clear hb1 hb2 HO1 HO2
    obtain ⟨m, nb, hm, rfl, HOB, HN, hbr⟩ := hrel
    rcases m with _ | m
    · obtain ⟨z, hz⟩ : ∃ z : Int, ((0 : Nat) : Int) - 1 = z := ⟨_, rfl⟩
      rw [hz]
      have hneg : ¬ (0 ≤ z) := by omega
      clear hz
      (repeat (first | (with_reducible first | refine xA ?_ | refine xB ?_ | refine xC ?_ | refine xD ?_ | refine xH ?_ | refine xI rfl ?_ | refine xE ?_ | refine xF ?_ | refine xG ?_) | go_skip | go_guarded | ((with_reducible refine wl_id ?_); refine wl_make_own rfl _ _ rfl A.length rfl rfl (by have := HLN.out; omega) ?_; intro w5 hO5 hg5; have hb5 := below_none hbr hg5 hbr.size; have HB5 := Lib.hid (HOB.out.kept (Kept.ofBelow (X := fun _ => True) (below_none (Below.refl wr.heap.size wr) hg5 (Nat.le_refl _))) trivial); have HI5 := Lib.hid hO5; clear hO5 hg5; (try simp only [Act.put, qz4, qz5, qz6])) | go_values | go_skip | go_guarded | go_step | go_upon | go_back | ((with_reducible show Oper.upon _ _ _ _ _ _); go_simp) | (dsimp only)))
      obtain ⟨qi, hqi⟩ : ∃ qi, wr.heap.size = qi := ⟨_, rfl⟩
      rw [hqi] at HI5 ⊢
      have hqi0 : w.heap.size < qi := by rw [← hqi]; exact HOB.out.lt
      obtain ⟨nd, hnd⟩ : ∃ nd : Nat → Bool, nd = fun j => nb.getD j false := ⟨_, rfl⟩
      have HND := Lib.hid hnd
      clear hbr HOB hqi hnd hm hneg
      go_loopw [9, 10] (fun vo i wr => ∃ (i' : Nat) (B : List Nd) (tp : List Int), i' ≤ p + 1 ∧ i = .int .i64 i' ∧ Hid (OwnB wr w.heap.size A.length nb) ∧ Hid (OwnI wr qi A.length tp) ∧ Hid (OwnN wr (qi + 1) vo B) ∧ Hid (TermI A nd i' B tp) ∧ Below w.heap.size w wr) (fun _ i _ => p + 1 - (intOf i).toNat)
      case atStart => exact ⟨0, [], _, Nat.zero_le _, rfl, HB5, HI5, Lib.hid (OwnN.nil _ _), Lib.hid (TermI.start A nd (by simp)), hb5⟩
      case round =>
        clear hb5 HB5 HI5
        obtain ⟨i, B, tp, hi, rfl, HOB, HOI, HON, HTI, hbr⟩ := hrel
        rcases Nat.lt_or_ge i (p + 1) with hlt | hge
        · have hil : i < A.length := by have := HPL.out; omega
          obtain ⟨d, hd⟩ : ∃ d, A[i]? = some d := ⟨_, List.getElem?_eq_getElem hil⟩
          obtain ⟨x, hx⟩ : ∃ x, nb[i]? = some x := ⟨_, List.getElem?_eq_getElem (by have := HN.out.len; omega)⟩
          have hndx : nd i = x := by rw [HND.out]; show nb.getD i false = x; rw [List.getD_eq_getElem?_getD, hx]; rfl
          have HNX := Lib.hid hndx
          have hcx := HOB.out.cell hx
          have HD := Lib.hid hd
          have i0 : (0 : Int) ≤ (i : Int) := by omega
          have i1 : (i : Int) < (A.length : Int) := by omega
          have i2 : (i : Int) ≤ (p : Int) := by omega
          rcases x with _ | _
          · clear hndx hx hd
            (repeat (first | (with_reducible first | refine xA ?_ | refine xB ?_ | refine xC ?_ | refine xD ?_ | refine xH ?_ | refine xI rfl ?_ | refine xE ?_ | refine xF ?_ | refine xG ?_) | go_values | go_skip | go_guarded | go_step | go_upon | go_back | ((with_reducible show Oper.upon _ _ _ _ _ _); go_simp) | (dsimp only)))
            exact ⟨⟨i + 1, B, tp, by omega, by go_num, HOB, HOI, HON, Lib.hid (HTI.out.skip HD.out HNX.out), hbr⟩, by simp [intOf]; omega⟩
          · have hNd := HA.out i d hd
            have hl : (A.take i).length = i := by rw [List.length_take]; omega
            obtain ⟨K, hK, hK3⟩ := kids_le d.op
            obtain ⟨l0, l1, l2⟩ := kid_lt hNd
            rw [hl] at l0 l1 l2
            have htl : (tp.set i (B.length : Int)).length = A.length := by rw [List.length_set]; exact HTI.out.len
            have hBl := HTI.out.al
            have hte := told_eq (d := d) (tm := tp.set i (B.length : Int)) hK
            have HTL : Hid (∀ u : World, SlX (fun _ => True) u (.slice (some ⟨qi, 0, none⟩) A.length A.length) (tp.set i (B.length : Int)) → Calls Tryz.prog 40 #[.agg #[.int .i64 d.op, .int .i64 d.w, .int .u64 d.n, .int .i64 d.k0, .int .i64 d.k1, .int .i64 d.k2], .slice (some ⟨qi, 0, none⟩) A.length A.length] u fun e w' => e = .returned (.agg #[.int .i64 d.op, .int .i64 d.w, .int .u64 d.n, .int .i64 (kdK K 0 d.k0 (tp.set i (B.length : Int))), .int .i64 (kdK K 1 d.k1 (tp.set i (B.length : Int))), .int .i64 (kdK K 2 d.k2 (tp.set i (B.length : Int)))]) ∧ Below u.heap.size u w') := Lib.hid (fun u hs => rtold_any d.op d.w d.n d.k0 d.k1 d.k2 _ _ u hs hNd.ops (by rw [htl]; have := HLN.out; omega) K hK hK3 (fun h => by obtain ⟨a, e, ha⟩ := l0 (by omega); exact ⟨a, e, by omega⟩) (fun h => by obtain ⟨a, e, ha⟩ := l1 (by omega); exact ⟨a, e, by omega⟩) (fun h => by obtain ⟨a, e, ha⟩ := l2 (by omega); exact ⟨a, e, by omega⟩))
            generalize kdK K 0 d.k0 (tp.set i (B.length : Int)) = y0 at *
            generalize kdK K 1 d.k1 (tp.set i (B.length : Int)) = y1 at *
            generalize kdK K 2 d.k2 (tp.set i (B.length : Int)) = y2 at *
            have HTE := Lib.hid hte
            have hbqi : w.heap.size ≠ qi := by omega
            have hBI : (B.length : Int) ≤ 60 := by have := HLN.out; omega
            have HBL := Lib.hid (show B.length ≤ 60 by have := HLN.out; omega)
            obtain ⟨ao, co, rfl, -⟩ := HON.out.sl
            clear hndx hx hd hNd hl hK hK3 l0 l1 l2 htl hte hBl
            (repeat (first | (with_reducible first | refine xA ?_ | refine xB ?_ | refine xC ?_ | refine xD ?_ | refine xH ?_ | refine xI rfl ?_ | refine xE ?_ | refine xF ?_ | refine xG ?_) | go_skip | go_guarded | ((with_reducible refine wl_id ?_); refine wl_store_own rfl _ _ rfl qi A.length _ i rfl (B.length : Int) rfl HOI.out hil ?_; intro w6 hO6 hg6; have hbr6 := below_grown hbr hg6 (fun k e => by injection e with e; omega); have HOB6 := Lib.hid (HOB.out.kept ((Kept.refl (fun k => k ≠ qi) _).grown hg6 (fun q e hl hx => hx (by injection e with e; exact e.symm))) hbqi); have HON6 := Lib.hid (HON.out.kept ((Kept.refl (fun k => k ≠ qi) _).grown hg6 (fun q e hl hx => hx (by injection e with e; exact e.symm))) (fun k e => by have := (World.ownsRow.lt HON.out k e).1; omega)); have HOI6 := Lib.hid hO6; have HTO := Lib.hid (HTL.out w6 (SlX.ofOwns (X := fun _ => True) (base := qi) (T := 3) (by rw [hO6.1]; exact hO6.2) (fun _ _ _ => trivial))); clear hO6 hg6; (try simp only [Act.put, qz4, qz5, qz6])) | ((with_reducible refine wl_id ?_); refine wl_ldNdA HRW.out hbr6 i d HD.out rfl _ rfl rfl ?_; (try simp only [Act.put, qz4, qz5, qz6])) | (go_at_call 40; (with_reducible refine HTO.out.mono ?_); rintro _ w7 ⟨rfl, hb7⟩; have hbr7 := hbr6.trans (hb7.mono hbr6.size); have HOB7 := Lib.hid (HOB6.out.below (hb7.trans (Below.alloc (Below.refl _ _) (Nat.le_refl _) (.cells #[.int .i64 d.op, .int .i64 d.w, .int .u64 d.n, .int .i64 y0, .int .i64 y1, .int .i64 y2] 49) |>.mono hb7.size))); have HOI7 := Lib.hid (HOI6.out.below (hb7.trans (Below.alloc (Below.refl _ _) (Nat.le_refl _) (.cells #[.int .i64 d.op, .int .i64 d.w, .int .u64 d.n, .int .i64 y0, .int .i64 y1, .int .i64 y2] 49) |>.mono hb7.size))); have HON7 := Lib.hid ((HON6.out.below hb7).alloc (.cells #[.int .i64 d.op, .int .i64 d.w, .int .u64 d.n, .int .i64 y0, .int .i64 y1, .int .i64 y2] 49)); have hbr8 := Below.alloc hbr7 hbr7.size (.cells #[.int .i64 d.op, .int .i64 d.w, .int .u64 d.n, .int .i64 y0, .int .i64 y1, .int .i64 y2] 49); have HLI7 := Lib.hid HOI7.out.lt; clear hb7) | ((with_reducible refine wl_id ?_); refine wl_appendN rfl _ _ rfl (qi + 1) _ B rfl HON7.out _ [⟨d.op, d.w, d.n, y0, y1, y2⟩] rfl (one_nd _ w7.heap.size _ _ _ _ _ _ (heap_alloc_new w7 _)) (by have := HBL.out; simp; omega) HLI7.out ?_; intro v8 w8 hO8 hg8 hl8; have HB8 := Lib.hid (below_grown hbr8 hg8 (fun k e => by have := (World.ownsRow.lt HON7.out k e).1; omega)); have hk8 := (Kept.refl (fun k => k < qi + 1) _).grown hg8 (fun q e hl hx => by have := (World.ownsRow.lt HON7.out q e).1; have hx' : q < qi + 1 := hx; omega); have HOB8 := Lib.hid (HOB7.out.kept hk8 (by show w.heap.size < qi + 1; omega)); have HOI8 := Lib.hid (HOI7.out.kept hk8 (by show qi < qi + 1; omega)); have HON8 := Lib.hid hO8; clear hO8 hg8 hl8 hk8; (try simp only [Act.put, qz4, qz5, qz6])) | go_values | go_skip | go_guarded | go_step | go_upon | go_back | ((with_reducible show Oper.upon _ _ _ _ _ _); go_simp) | (dsimp only)))
            exact ⟨⟨i + 1, B ++ [toldN d (tp.set i (B.length : Int))], tp.set i (B.length : Int), by omega, by go_num, HOB8, HOI8, Lib.hid (by rw [HTE.out]; exact HON8.out), Lib.hid (HTI.out.take HA.out (by have := HLN.out; omega) HD.out (fun a ha hai => by
              have h9 := HN.out.cl i d (Nat.zero_le _) (by omega) HD.out (by have := HNX.out; rw [HND.out] at this; exact this) a ha hai
              rw [HND.out]; exact h9)), HB8.out⟩, by simp [intOf]; omega⟩
        · have hi9 : i = p + 1 := by omega
          have hnp : ¬ ((i : Int) ≤ (p : Int)) := by omega
          obtain ⟨ao, co, rfl, -⟩ := HON.out.sl
          have HT9 := Lib.hid (show TermI A nd (p + 1) B tp by rw [← hi9]; exact HTI.out)
          clear hi9 hi hge HTI
          (repeat (first | (with_reducible first | refine xA ?_ | refine xB ?_ | refine xC ?_ | refine xD ?_ | refine xH ?_ | refine xI rfl ?_ | refine xE ?_ | refine xF ?_ | refine xG ?_) | go_values | go_skip | go_guarded | go_step | go_upon | go_back | ((with_reducible show Oper.upon _ _ _ _ _ _); go_simp) | (dsimp only)))
          go_ret
          exact ⟨⟨_, B, nd, tp, rfl, HON.out.sl, HT9.out, by rw [HND.out]; exact HN.out.at'⟩, hbr⟩
    · have em : (((m + 1 : Nat) : Int) - 1) = (m : Int) := by omega
      rw [em]
      obtain ⟨d, hd⟩ : ∃ d, A[m]? = some d := ⟨_, List.getElem?_eq_getElem (by have := HPL.out; omega)⟩
      have hN := HA.out m d hd
      have hl : (A.take m).length = m := by rw [List.length_take]; have := HPL.out; omega
      obtain ⟨K, hK, hK3⟩ := kids_le d.op
      obtain ⟨op, hop⟩ : ∃ op, d.op = op := ⟨_, rfl⟩
      have HOP := Lib.hid (show 0 ≤ op ∧ op ≤ 24 by rw [← hop]; exact hN.ops)
      have HK := Lib.hid (show kidsI op = K by rw [← hop]; exact hK)
      obtain ⟨x, hx⟩ : ∃ x, nb[m]? = some x := ⟨_, List.getElem?_eq_getElem (by have := HPL.out; have := HN.out.len; omega)⟩
      have HX := Lib.hid (show nb.getD m false = x by rw [List.getD_eq_getElem?_getD, hx]; rfl)
      have HQ : Hid (∀ q, q < K → ∃ a : Nat, kdA d q = a ∧ a < m) := Lib.hid (fun q hq => by
        obtain ⟨a, e, ha⟩ := kid_qlt hN hK hq hK3
        exact ⟨a, e, by omega⟩)
      have HIK : Hid (∀ a, isKid d a ↔ ∃ q, q < K ∧ kdA d q = a) := Lib.hid (fun a => kid_q hK hK3)
      have HRD := Lib.hid (nd_row HRW.out hd)
      have HD := Lib.hid hd
      have HOPE := Lib.hid hop
      have m0 : (0 : Int) ≤ (m : Int) := by omega
      have m1 : (m : Int) < (A.length : Int) := by have := HPL.out; omega
      have hmp : m ≤ p := by omega
      have HK3 := Lib.hid hK3
      clear hN hl hK hop hx hd em hm
      (repeat (first | (with_reducible first | refine xA ?_ | refine xB ?_ | refine xC ?_ | refine xD ?_ | refine xH ?_ | refine xI rfl ?_ | refine xE ?_ | refine xF ?_ | refine xG ?_) | go_values | go_skip | go_guarded | go_step | go_upon | go_back | ((with_reducible show Oper.upon _ _ _ _ _ _); go_simp) | (dsimp only)))
      go_loopw [7] (fun i wr' => ∃ (q : Nat) (nb' : List Bool), q ≤ 3 ∧ i = .int .i64 q ∧ Hid (OwnB wr' w.heap.size A.length nb') ∧ Hid (NdI A p (m + 1) nb') ∧ Hid (nb'.getD m false = x) ∧ Hid (x = true → q ≤ K ∧ ∀ s, s < q → ∀ a : Nat, kdA d s = a → nb'.getD a false = true) ∧ Below w.heap.size w wr') (fun i _ => 4 - (intOf i).toNat)
      case atStart => exact ⟨0, nb, by omega, rfl, HOB, HN, HX, Lib.hid (fun _ => ⟨by omega, fun s hs => by omega⟩), hbr⟩
      case round =>
        clear HOB HN HX hbr nb
        obtain ⟨q, nb, hq, rfl, HOB, HN, HX, HC, hbr⟩ := hrel
        have hxm : nb[m]? = some x := by
          have h9 := HX.out
          rw [List.getD_eq_getElem?_getD, List.getElem?_eq_getElem (show m < nb.length by have := HN.out.len; have := HPL.out; omega)] at h9
          rw [List.getElem?_eq_getElem (show m < nb.length by have := HN.out.len; have := HPL.out; omega)]
          exact congrArg some h9
        have hcx := HOB.out.cell hxm
        obtain ⟨e0, e1, e2, e3, e4, e5⟩ := HRD.out
        have c0 := cell_keep hbr e0
        rw [HOPE.out] at c0
        have c3 := cell_keep hbr e3
        have c4 := cell_keep hbr e4
        have c5 := cell_keep hbr e5
        clear hxm e0 e1 e2 e3 e4 e5
        rcases x with _ | _
        · clear c3 c4 c5
          (repeat (first | (with_reducible first | refine xA ?_ | refine xB ?_ | refine xC ?_ | refine xD ?_ | refine xH ?_ | refine xI rfl ?_ | refine xE ?_ | refine xF ?_ | refine xG ?_) | go_values | go_skip | go_guarded | go_step | go_upon | go_back | ((with_reducible show Oper.upon _ _ _ _ _ _); go_simp) | (dsimp only)))
          exact ⟨⟨m, nb, by omega, rfl, HOB, Lib.hid (HN.out.down HD.out (fun e => by rw [HX.out] at e; cases e)), hbr⟩, by simp [intOf] <;> omega⟩
        · obtain ⟨hqK, hdone⟩ := HC.out rfl
          rcases Nat.lt_or_ge q K with hlt | hge
          · obtain ⟨a, ha, ham⟩ := HQ.out q hlt
            have hal : a < A.length := by have := HPL.out; omega
            have q0 : (q : Int) < (K : Int) := by omega
            have a0 : (0 : Int) ≤ (a : Int) := by omega
            have a1 : (a : Int) < (A.length : Int) := by omega
            have HDN := Lib.hid hdone
            have HAQ := Lib.hid ha
            have q3 : q = 0 ∨ q = 1 ∨ q = 2 := by have := HK3.out; omega
            clear hdone
            have fin : ∀ nb', nb' = nb.set a true → Hid (NdI A p (m + 1) nb' ∧ nb'.getD m false = true ∧ (q + 1 ≤ K ∧ ∀ s, s < q + 1 → ∀ c : Nat, kdA d s = c → nb'.getD c false = true)) := fun nb' e => Lib.hid (by
              subst e
              have hl : a < nb.length := by rw [HN.out.len]; exact hal
              refine ⟨HN.out.set (by omega) hal, ?_, by omega, fun s hs c hc => ?_⟩
              · rw [getB_set hl]
                split
                · rfl
                · exact HX.out
              · rw [getB_set hl]
                split
                · rfl
                · rcases Nat.lt_or_ge s q with h | h
                  · exact HDN.out s h c hc
                  · obtain rfl : s = q := by omega
                    rw [HAQ.out] at hc
                    omega)
            have FIN := Lib.hid fin
            clear fin
            rcases q3 with rfl | rfl | rfl
            · have ck : d.k0 = (a : Int) := ha
              rw [ck] at c3
              clear c4 c5 ck ha
              (repeat (first | (with_reducible first | refine xA ?_ | refine xB ?_ | refine xC ?_ | refine xD ?_ | refine xH ?_ | refine xI rfl ?_ | refine xE ?_ | refine xF ?_ | refine xG ?_) | go_skip | go_guarded | (go_at_call 41; (with_reducible refine (rkids_anyX op _ _ HK.out HOP.out).mono ?_); rintro _ w3 ⟨rfl, rfl⟩) | ((with_reducible refine wl_id ?_); refine wl_store_ownB rfl _ _ rfl w.heap.size A.length _ a rfl true rfl HOB.out hal ?_; intro w4 hO4 hg4; (try simp only [Act.put, qz4, qz5, qz6])) | go_values | go_skip | go_guarded | go_step | go_upon | go_back | ((with_reducible show Oper.upon _ _ _ _ _ _); go_simp) | (dsimp only)))
              have hf := (FIN.out _ rfl).out
              exact ⟨⟨1, nb.set a true, by omega, rfl, Lib.hid hO4, Lib.hid hf.1, Lib.hid hf.2.1, Lib.hid (fun _ => hf.2.2), below_grown hbr hg4 (fun k e => by injection e with e; omega)⟩, by simp [intOf] <;> omega⟩
            · have ck : d.k1 = (a : Int) := ha
              rw [ck] at c4
              clear c3 c5 ck ha
              (repeat (first | (with_reducible first | refine xA ?_ | refine xB ?_ | refine xC ?_ | refine xD ?_ | refine xH ?_ | refine xI rfl ?_ | refine xE ?_ | refine xF ?_ | refine xG ?_) | go_skip | go_guarded | (go_at_call 41; (with_reducible refine (rkids_anyX op _ _ HK.out HOP.out).mono ?_); rintro _ w3 ⟨rfl, rfl⟩) | ((with_reducible refine wl_id ?_); refine wl_store_ownB rfl _ _ rfl w.heap.size A.length _ a rfl true rfl HOB.out hal ?_; intro w4 hO4 hg4; (try simp only [Act.put, qz4, qz5, qz6])) | go_values | go_skip | go_guarded | go_step | go_upon | go_back | ((with_reducible show Oper.upon _ _ _ _ _ _); go_simp) | (dsimp only)))
              have hf := (FIN.out _ rfl).out
              exact ⟨⟨2, nb.set a true, by omega, rfl, Lib.hid hO4, Lib.hid hf.1, Lib.hid hf.2.1, Lib.hid (fun _ => hf.2.2), below_grown hbr hg4 (fun k e => by injection e with e; omega)⟩, by simp [intOf] <;> omega⟩
            · have ck : d.k2 = (a : Int) := ha
              rw [ck] at c5
              clear c3 c4 ck ha
              (repeat (first | (with_reducible first | refine xA ?_ | refine xB ?_ | refine xC ?_ | refine xD ?_ | refine xH ?_ | refine xI rfl ?_ | refine xE ?_ | refine xF ?_ | refine xG ?_) | go_skip | go_guarded | (go_at_call 41; (with_reducible refine (rkids_anyX op _ _ HK.out HOP.out).mono ?_); rintro _ w3 ⟨rfl, rfl⟩) | ((with_reducible refine wl_id ?_); refine wl_store_ownB rfl _ _ rfl w.heap.size A.length _ a rfl true rfl HOB.out hal ?_; intro w4 hO4 hg4; (try simp only [Act.put, qz4, qz5, qz6])) | go_values | go_skip | go_guarded | go_step | go_upon | go_back | ((with_reducible show Oper.upon _ _ _ _ _ _); go_simp) | (dsimp only)))
              have hf := (FIN.out _ rfl).out
              exact ⟨⟨3, nb.set a true, by omega, rfl, Lib.hid hO4, Lib.hid hf.1, Lib.hid hf.2.1, Lib.hid (fun _ => hf.2.2), below_grown hbr hg4 (fun k e => by injection e with e; omega)⟩, by simp [intOf] <;> omega⟩
          · have hqe : q = K := by omega
            have hnq : ¬ ((q : Int) < (K : Int)) := by omega
            have HDN := Lib.hid hdone
            clear hdone c3 c4 c5
            (repeat (first | (with_reducible first | refine xA ?_ | refine xB ?_ | refine xC ?_ | refine xD ?_ | refine xH ?_ | refine xI rfl ?_ | refine xE ?_ | refine xF ?_ | refine xG ?_) | go_skip | go_guarded | (go_at_call 41; (with_reducible refine (rkids_anyX op _ _ HK.out HOP.out).mono ?_); rintro _ w3 ⟨rfl, rfl⟩) | go_values | go_skip | go_guarded | go_step | go_upon | go_back | ((with_reducible show Oper.upon _ _ _ _ _ _); go_simp) | (dsimp only)))
            exact ⟨⟨m, nb, by omega, rfl, HOB, Lib.hid (HN.out.down HD.out (fun _ a ha ham => by
              obtain ⟨s, hs, e⟩ := (HIK.out a).1 ha
              exact HDN.out s (by omega) a e)), hbr⟩, by simp [intOf] <;> omega⟩
end Go.Proofs.YtmaogkgjiplckaaGreat
namespace Go.Proofs.YtmaogkgjiplckaaGreat
open Go.RowKit
set_option maxRecDepth 100000 in
theorem rliteral_any {x : Int} (w : World) (h : okL x) : Calls Tryz.prog 37 #[.int .i64 x] w fun e w' => e = .returned (.bool true) ∧ w' = w := by
  obtain ⟨h0, h1, h2⟩ := h
  have e0 : (x != 0) = true := by simpa using h0
  go_enter Tryz.func37, Tryz.ntmps37
  (repeat (first | (with_reducible first | refine xA ?_ | refine xB ?_ | refine xC ?_ | refine xD ?_ | refine xH ?_ | refine xI rfl ?_ | refine xE ?_ | refine xF ?_ | refine xG ?_) | go_values | go_skip | go_guarded | go_step | go_upon | go_back | ((with_reducible show Oper.upon _ _ _ _ _ _); go_simp) | (dsimp only)))
  go_ret
  exact ⟨rfl, rfl⟩
set_option maxRecDepth 100000 in
theorem rvar_any {x : Int} (w : World) (h : okL x) (r : Int) (hr : Hid (absI x = r)) : Calls Tryz.prog 38 #[.int .i64 x] w fun e w' => e = .returned (.int .i64 r) ∧ w' = w := by
  obtain ⟨h0, h1, h2⟩ := h
  by_cases hn : x < 0
  · go_enter Tryz.func38, Tryz.ntmps38
    (repeat (first | (with_reducible first | refine xA ?_ | refine xB ?_ | refine xC ?_ | refine xD ?_ | refine xH ?_ | refine xI rfl ?_ | refine xE ?_ | refine xF ?_ | refine xG ?_) | go_values | go_skip | go_guarded | go_step | go_upon | go_back | ((with_reducible show Oper.upon _ _ _ _ _ _); go_simp) | (dsimp only)))
    go_ret
    exact ⟨ret_int (by rw [← hr.out]; unfold absI; rw [if_pos hn]), rfl⟩
  · go_enter Tryz.func38, Tryz.ntmps38
    (repeat (first | (with_reducible first | refine xA ?_ | refine xB ?_ | refine xC ?_ | refine xD ?_ | refine xH ?_ | refine xI rfl ?_ | refine xE ?_ | refine xF ?_ | refine xG ?_) | go_values | go_skip | go_guarded | go_step | go_upon | go_back | ((with_reducible show Oper.upon _ _ _ _ _ _); go_simp) | (dsimp only)))
    go_ret
    exact ⟨ret_int (by rw [← hr.out]; unfold absI; rw [if_neg hn]), rfl⟩
set_option maxRecDepth 100000 in
set_option maxHeartbeats 1000000 in
theorem rright_any {Y : Nat → Prop} (w : World) (q n : Nat) (vs : List Value) (cl : List (List Int)) (hq : RowV w q vs) (hS : SlsX Y w vs cl) (hn : cl.length = n) (hok : ∀ c ∈ cl, ∀ x ∈ c, okL x) (hlen : n ≤ 100000000) (hll : ∀ c ∈ cl, c.length ≤ 1000000) :
    Calls Tryz.prog 15 #[.slice (some ⟨q, 0, none⟩) n n] w fun e w' => e = .returned (.bool true) ∧ w' = w := by
  have HQ := Lib.hid hq
  have HS := Lib.hid hS
  have HN := Lib.hid hn
  have HOK := Lib.hid hok
  have HLL := Lib.hid hll
  have hnI : (n : Int) ≤ 100000000 := by omega
  clear hq hS hn hok hlen hll
  go_enter Tryz.func15, Tryz.ntmps15
  (repeat (first | (with_reducible first | refine xA ?_ | refine xB ?_ | refine xC ?_ | refine xD ?_ | refine xH ?_ | refine xI rfl ?_ | refine xE ?_ | refine xF ?_ | refine xG ?_) | go_values | go_skip | go_guarded | go_step | go_upon | go_back | ((with_reducible show Oper.upon _ _ _ _ _ _); go_simp) | (dsimp only)))
  go_loopw [3] (fun i wr => ∃ k : Nat, k ≤ n ∧ i = .int .i64 k ∧ wr = w) (fun i _ => n - (intOf i).toNat)
  case atStart => exact ⟨0, Nat.zero_le _, rfl, rfl⟩
  case round =>
    obtain ⟨k, hk, rfl, rfl⟩ := hrel
    rcases Nat.lt_or_ge k n with hlt | hge
    · obtain ⟨c, hc⟩ : ∃ c, cl[k]? = some c := ⟨_, List.getElem?_eq_getElem (by have := HN.out; omega)⟩
      obtain ⟨x, hx⟩ : ∃ x, vs[k]? = some x := ⟨_, List.getElem?_eq_getElem (by have := HN.out; have := HS.out.1; omega)⟩
      have hcx := HQ.out k x hx
      have hsx := HS.out.2 k x c hx hc
      have hcl := HLL.out c (List.mem_of_getElem? hc)
      have hclI : (c.length : Int) ≤ 1000000 := by omega
      have HC := Lib.hid (HOK.out c (List.mem_of_getElem? hc))
      obtain ⟨ax, cx, rfl⟩ := hsx.shape
      have HSx := Lib.hid hsx
      clear hsx hc hx hcl
      (repeat (first | (with_reducible first | refine xA ?_ | refine xB ?_ | refine xC ?_ | refine xD ?_ | refine xH ?_ | refine xI rfl ?_ | refine xE ?_ | refine xF ?_ | refine xG ?_) | go_values | go_skip | go_guarded | go_step | go_upon | go_back | ((with_reducible show Oper.upon _ _ _ _ _ _); go_simp) | (dsimp only)))
      go_loopw [4] (fun i wr' => ∃ j : Nat, j ≤ c.length ∧ i = .int .i64 j ∧ wr' = wr) (fun i _ => c.length - (intOf i).toNat)
      case atStart => exact ⟨0, Nat.zero_le _, rfl, rfl⟩
      case round =>
        obtain ⟨j, hj, rfl, rfl⟩ := hrel
        rcases Nat.lt_or_ge j c.length with hlt' | hge'
        · obtain ⟨b, o, rfl, _, _, _, hR⟩ := HSx.out.row (by omega)
          obtain ⟨y, hy⟩ : ∃ y, c[j]? = some y := ⟨_, List.getElem?_eq_getElem hlt'⟩
          have hcy := hR j y hy
          have HL := Lib.hid (HC.out y (List.mem_of_getElem? hy))
          clear hR hy
          (repeat (first | (with_reducible first | refine xA ?_ | refine xB ?_ | refine xC ?_ | refine xD ?_ | refine xH ?_ | refine xI rfl ?_ | refine xE ?_ | refine xF ?_ | refine xG ?_) | go_skip | go_guarded | (go_at_call 37; (with_reducible refine (rliteral_any _ HL.out).mono ?_); rintro _ w1 ⟨rfl, rfl⟩) | go_values | go_skip | go_guarded | go_step | go_upon | go_back | ((with_reducible show Oper.upon _ _ _ _ _ _); go_simp) | (dsimp only)))
          exact ⟨⟨j + 1, by omega, by go_num, rfl⟩, by simp [intOf]; omega⟩
        · obtain rfl : j = c.length := by omega
          (repeat (first | (with_reducible first | refine xA ?_ | refine xB ?_ | refine xC ?_ | refine xD ?_ | refine xH ?_ | refine xI rfl ?_ | refine xE ?_ | refine xF ?_ | refine xG ?_) | go_values | go_skip | go_guarded | go_step | go_upon | go_back | ((with_reducible show Oper.upon _ _ _ _ _ _); go_simp) | (dsimp only)))
          exact ⟨⟨k + 1, by omega, by go_num, rfl⟩, by simp [intOf]; omega⟩
    · obtain rfl : k = n := by omega
      (repeat (first | (with_reducible first | refine xA ?_ | refine xB ?_ | refine xC ?_ | refine xD ?_ | refine xH ?_ | refine xI rfl ?_ | refine xE ?_ | refine xF ?_ | refine xG ?_) | go_values | go_skip | go_guarded | go_step | go_upon | go_back | ((with_reducible show Oper.upon _ _ _ _ _ _); go_simp) | (dsimp only)))
      go_ret
      exact ⟨rfl, rfl⟩
def mostP (l : List Int) : Int := l.foldl (fun m x => if absI x > m then absI x else m) 0
theorem mostP_snoc (l : List Int) (x : Int) : mostP (l ++ [x]) = if absI x > mostP l then absI x else mostP l := by
  unfold mostP
  rw [List.foldl_append]
  rfl
theorem mostP_le {N : Nat} : ∀ (n : Nat) (l : List Int), l.length = n → (∀ x ∈ l, absI x ≤ N) → 0 ≤ mostP l ∧ mostP l ≤ N := by
  intro n
  induction n with
  | zero =>
    intro l hl _
    obtain rfl : l = [] := List.length_eq_zero_iff.1 hl
    exact ⟨Int.le_refl _, by show (0 : Int) ≤ _; omega⟩
  | succ n ih =>
    intro l hl h
    have hne : l ≠ [] := fun e => by rw [e] at hl; cases hl
    obtain ⟨l', x, rfl⟩ : ∃ l' x, l = l' ++ [x] := ⟨l.dropLast, l.getLast hne, (List.dropLast_concat_getLast hne).symm⟩
    have := ih l' (by simpa using hl) (fun y hy => h y (List.mem_append_left _ hy))
    have hx := h x (by simp)
    have h0 : 0 ≤ absI x := by unfold absI; split <;> omega
    rw [mostP_snoc]
    split <;> omega
set_option maxRecDepth 100000 in
set_option maxHeartbeats 1000000 in
theorem rmost_any {Y : Nat → Prop} (w : World) (q n : Nat) (vs : List Value) (cl : List (List Int)) (hq : RowV w q vs) (hS : SlsX Y w vs cl) (hn : cl.length = n) (hok : ∀ c ∈ cl, ∀ x ∈ c, okL x) (hlen : n ≤ 100000000) (hll : ∀ c ∈ cl, c.length ≤ 1000000) (R : Int) (hR : Hid (mostP cl.flatten = R)) :
    Calls Tryz.prog 16 #[.slice (some ⟨q, 0, none⟩) n n] w fun e w' => e = .returned (.int .i64 R) ∧ w' = w := by
  have HQ := Lib.hid hq
  have HS := Lib.hid hS
  have HN := Lib.hid hn
  have HOK := Lib.hid hok
  have HLL := Lib.hid hll
  have HBD : Hid (∀ P : List Int, (∀ x ∈ P, x ∈ cl.flatten) → 0 ≤ mostP P ∧ mostP P ≤ (1048576 : Nat)) := Lib.hid (fun P h => mostP_le _ P rfl (fun x hx => by
    obtain ⟨c, hc, hx⟩ := List.mem_flatten.1 (h x hx)
    have := hok c hc x hx
    unfold okL at this
    unfold absI
    split <;> omega))
  have hnI : (n : Int) ≤ 100000000 := by omega
  clear hq hS hn hok hlen hll
  go_enter Tryz.func16, Tryz.ntmps16
  (repeat (first | (with_reducible first | refine xA ?_ | refine xB ?_ | refine xC ?_ | refine xD ?_ | refine xH ?_ | refine xI rfl ?_ | refine xE ?_ | refine xF ?_ | refine xG ?_) | go_values | go_skip | go_guarded | go_step | go_upon | go_back | ((with_reducible show Oper.upon _ _ _ _ _ _); go_simp) | (dsimp only)))
  go_loopw [3, 4] (fun m i wr => ∃ (k : Nat) (r : Int), k ≤ n ∧ i = .int .i64 k ∧ m = .int .i64 r ∧ Hid (mostP (cl.take k).flatten = r) ∧ wr = w) (fun _ i _ => n - (intOf i).toNat)
  case atStart => exact ⟨0, 0, Nat.zero_le _, rfl, rfl, Lib.hid rfl, rfl⟩
  case round =>
    obtain ⟨k, r, hk, rfl, rfl, HR, rfl⟩ := hrel
    rcases Nat.lt_or_ge k n with hlt | hge
    · obtain ⟨c, hc⟩ : ∃ c, cl[k]? = some c := ⟨_, List.getElem?_eq_getElem (by have := HN.out; omega)⟩
      obtain ⟨x, hx⟩ : ∃ x, vs[k]? = some x := ⟨_, List.getElem?_eq_getElem (by have := HN.out; have := HS.out.1; omega)⟩
      have hcx := HQ.out k x hx
      have hsx := HS.out.2 k x c hx hc
      have hcl := HLL.out c (List.mem_of_getElem? hc)
      have hclI : (c.length : Int) ≤ 1000000 := by omega
      have HC := Lib.hid (HOK.out c (List.mem_of_getElem? hc))
      have HTK : Hid ((cl.take (k + 1)).flatten = (cl.take k).flatten ++ c) := Lib.hid (by rw [List.take_add_one, hc]; simp)
      have HMB : Hid (∀ j, ∀ x ∈ (cl.take k).flatten ++ c.take j, x ∈ cl.flatten) := Lib.hid (fun j x hx => by
        rcases List.mem_append.1 hx with h | h
        · obtain ⟨c', h1, h2⟩ := List.mem_flatten.1 h
          exact List.mem_flatten.2 ⟨c', List.mem_of_mem_take h1, h2⟩
        · exact List.mem_flatten.2 ⟨c, List.mem_of_getElem? hc, List.mem_of_mem_take h⟩)
      obtain ⟨ax, cx, rfl⟩ := hsx.shape
      have HSx := Lib.hid hsx
      clear hsx hc hx hcl
      (repeat (first | (with_reducible first | refine xA ?_ | refine xB ?_ | refine xC ?_ | refine xD ?_ | refine xH ?_ | refine xI rfl ?_ | refine xE ?_ | refine xF ?_ | refine xG ?_) | go_values | go_skip | go_guarded | go_step | go_upon | go_back | ((with_reducible show Oper.upon _ _ _ _ _ _); go_simp) | (dsimp only)))
      go_loopw [3, 5] (fun m i wr' => ∃ (j : Nat) (r : Int), j ≤ c.length ∧ i = .int .i64 j ∧ m = .int .i64 r ∧ Hid (mostP ((cl.take k).flatten ++ c.take j) = r) ∧ wr' = wr) (fun _ i _ => c.length - (intOf i).toNat)
      case atStart => exact ⟨0, r, Nat.zero_le _, rfl, rfl, Lib.hid (by simpa using HR.out), rfl⟩
      case round =>
        clear HR
        obtain ⟨j, r, hj, rfl, rfl, HR, rfl⟩ := hrel
        rcases Nat.lt_or_ge j c.length with hlt' | hge'
        · obtain ⟨b, o, rfl, _, _, _, hRr⟩ := HSx.out.row (by omega)
          obtain ⟨y, hy⟩ : ∃ y, c[j]? = some y := ⟨_, List.getElem?_eq_getElem hlt'⟩
          have hcy := hRr j y hy
          have HL := Lib.hid (HC.out y (List.mem_of_getElem? hy))
          have hbd := HBD.out _ (HMB.out j)
          rw [HR.out] at hbd
          obtain ⟨hr0, hr1⟩ := hbd
          have hr1' : r ≤ 1048576 := hr1
          have hV0 : 0 ≤ absI y ∧ absI y ≤ 1048576 := by have := HL.out; unfold okL at this; unfold absI; split <;> omega
          obtain ⟨V, hVe⟩ : ∃ V, Hid (absI y = V) := ⟨_, Lib.hid rfl⟩
          rw [hVe.out] at hV0
          obtain ⟨hV0, hV1⟩ := hV0
          have HST : Hid (mostP ((cl.take k).flatten ++ c.take (j + 1)) = if V > r then V else r) := Lib.hid (by
            rw [list_upto hy, ← List.append_assoc, mostP_snoc, HR.out, hVe.out])
          clear hRr hy hr1
          by_cases hg : V > r
          · (repeat (first | (with_reducible first | refine xA ?_ | refine xB ?_ | refine xC ?_ | refine xD ?_ | refine xH ?_ | refine xI rfl ?_ | refine xE ?_ | refine xF ?_ | refine xG ?_) | go_skip | go_guarded | (go_at_call 38; (with_reducible refine (rvar_any _ HL.out V hVe).mono ?_); rintro _ w1 ⟨rfl, rfl⟩) | go_values | go_skip | go_guarded | go_step | go_upon | go_back | ((with_reducible show Oper.upon _ _ _ _ _ _); go_simp) | (dsimp only)))
            exact ⟨⟨j + 1, V, by omega, by go_num, rfl, Lib.hid (by rw [HST.out, if_pos hg]), rfl⟩, by simp [intOf]; omega⟩
          · (repeat (first | (with_reducible first | refine xA ?_ | refine xB ?_ | refine xC ?_ | refine xD ?_ | refine xH ?_ | refine xI rfl ?_ | refine xE ?_ | refine xF ?_ | refine xG ?_) | go_skip | go_guarded | (go_at_call 38; (with_reducible refine (rvar_any _ HL.out V hVe).mono ?_); rintro _ w1 ⟨rfl, rfl⟩) | go_values | go_skip | go_guarded | go_step | go_upon | go_back | ((with_reducible show Oper.upon _ _ _ _ _ _); go_simp) | (dsimp only)))
            exact ⟨⟨j + 1, r, by omega, by go_num, rfl, Lib.hid (by rw [HST.out, if_neg hg]), rfl⟩, by simp [intOf]; omega⟩
        · have HR2 := Lib.hid (show mostP (cl.take (k + 1)).flatten = r by
            have e : c.take j = c := List.take_of_length_le (by omega)
            rw [HTK.out, ← HR.out, e])
          obtain rfl : j = c.length := by omega
          (repeat (first | (with_reducible first | refine xA ?_ | refine xB ?_ | refine xC ?_ | refine xD ?_ | refine xH ?_ | refine xI rfl ?_ | refine xE ?_ | refine xF ?_ | refine xG ?_) | go_values | go_skip | go_guarded | go_step | go_upon | go_back | ((with_reducible show Oper.upon _ _ _ _ _ _); go_simp) | (dsimp only)))
          exact ⟨⟨k + 1, r, by omega, by go_num, rfl, HR2, rfl⟩, by simp [intOf]; omega⟩
    · have HR2 := Lib.hid (show r = R by rw [← HR.out, ← hR.out, List.take_of_length_le (by have := HN.out; omega)])
      obtain rfl : k = n := by omega
      (repeat (first | (with_reducible first | refine xA ?_ | refine xB ?_ | refine xC ?_ | refine xD ?_ | refine xH ?_ | refine xI rfl ?_ | refine xE ?_ | refine xF ?_ | refine xG ?_) | go_values | go_skip | go_guarded | go_step | go_upon | go_back | ((with_reducible show Oper.upon _ _ _ _ _ _); go_simp) | (dsimp only)))
      go_ret
      exact ⟨ret_int HR2.out, rfl⟩
end Go.Proofs.YtmaogkgjiplckaaGreat
namespace Go.Proofs.YtmaogkgjiplckaaGreat
open Go.RowKit
set_option maxRecDepth 100000 in
set_option maxHeartbeats 16000000 in
theorem right_main {ia : Option Addr} {ic : Nat} {vm : Value} {r0 r1 r2 r3 r4 r5 r6 r7 : Int} (inp : List Int) (hE : EnvWf inp (regL r0 r1 r2 r3 r4 r5 r6 r7)) (ls : List Nd) (v : Value) (w : World) (h : SlIs 6 Nd.cells w v ls) (hi : SlIs 1 u8c w (.slice ia inp.length ic) inp) (hl : lightB ls = true) (hll : ls.length ≤ 60) (hwf : ∀ d ∈ ls, NdWf d) (hRTs : RT ls) (htc : (tchk ls).1 = 0) (hne : ls ≠ []) (b : BS) (root : List Int) (s : Nat → Bool) (V : Nat)
    (hGI : GI b.g (frB (inI inp) (rgR (regL r0 r1 r2 r3 r4 r5 r6 r7)) b) s) (hbn : b.g.n ≤ 1048576) (hleaf : ∀ l, l ∈ b.inp ∨ l ∈ b.reg → l.length ≤ 64 ∧ ∀ a ∈ l, -1048576 ≤ a ∧ a ≤ 1048576) (hfl : (frB (inI inp) (rgR (regL r0 r1 r2 r3 r4 r5 r6 r7)) b).length ≤ 1000000) (hrx : ∀ x ∈ root, isL b.g.n x) (hr64 : root.length ≤ 64) (hrV : bv (root.map (lit s)) = V)
    (hVV : V = (vK (inI inp) (rgR (regL r0 r1 r2 r3 r4 r5 r6 r7)) ls ls.length).getD (ls.length - 1) 0)
    (hOF : ∀ (u : World) (v' : Value), SlIs 6 Nd.cells u v' ls → Calls Tryz.prog 8 #[v'] u fun e w' => OfRes b root e w' ∧ Below u.heap.size u w')
    (hCK : ∀ u : World, Below w.heap.size w u → Calls Tryz.prog 9 #[v] u fun e w' => e = .returned (.int .i64 0) ∧ Below u.heap.size u w') :
    Calls Tryz.prog 5 #[v, .agg #[.slice ia inp.length ic, .int .u64 r0, .int .u64 r1, .int .u64 r2, .int .u64 r3, .int .u64 r4, .int .u64 r5, .int .u64 r6, .int .u64 r7, vm]] w fun e w' => e = .returned (.bool true) ∧ Below w.heap.size w w' := by
  have HLG : Hid (∀ u : World, Below w.heap.size w u → Calls Tryz.prog 7 #[v] u fun e w' => e = .returned (.bool true) ∧ w' = u) := Lib.hid (fun u hb => light_any v ls u (h.below hb) true (Lib.hid hl))
  have HPUT : Hid (∀ u : World, Below w.heap.size w u → Calls Tryz.prog 17 #[.slice none 0 0, v] u fun e w' => (∃ (va : Value) (A : List Nd) (tm : List Int) (p : Nat), e = .returned (.tuple #[va, .int .i64 p, .int .i64 0]) ∧ SlIs 6 Nd.cells w' va A ∧ PutI ls ls.length A tm ∧ tm.getD (ls.length - 1) 0 = (p : Int)) ∧ Below u.heap.size u w') := Lib.hid (fun u hb => put_any v ls u (h.below hb) hwf htc hRTs hne hll)
  have HOF := Lib.hid hOF
  have HCK := Lib.hid hCK
  have HL := Lib.hid h
  have HLB := Lib.hid hl
  have HEW := Lib.hid hE
  have HIN := Lib.hid hi
  have HLN := Lib.hid hll
  have HNE := Lib.hid hne
  have HVV := Lib.hid hVV
  have hin' : ¬ (inp.length : Int) > 100 := by have := hE.il; omega
  have HGI1 := Lib.hid hGI
  have HBN1 := Lib.hid hbn
  have HLF1 := Lib.hid hleaf
  have HFL1 := Lib.hid hfl
  have HRX1 := Lib.hid hrx
  have HR641 := Lib.hid hr64
  have HRV1 := Lib.hid hrV
  clear h hl hOF hCK hE hi hGI hbn hleaf hfl hrx hr64 hrV hwf hRTs htc hne hVV
  go_enter Tryz.func5, Tryz.ntmps5
  (repeat (first | (with_reducible first | refine xA ?_ | refine xB ?_ | refine xC ?_ | refine xD ?_ | refine xH ?_ | refine xI rfl ?_ | refine xE ?_ | refine xF ?_ | refine xG ?_) | go_skip | go_guarded | (go_at_call 6; (with_reducible refine (awake16_any _).mono ?_); rintro _ w0 ⟨rfl, hb⟩; have he0 := (hb.block w.heap.size (by simp)).trans (heap_alloc_new w (.cells #[.slice ia inp.length ic, .int .u64 r0, .int .u64 r1, .int .u64 r2, .int .u64 r3, .int .u64 r4, .int .u64 r5, .int .u64 r6, .int .u64 r7, vm] 27)); have hb0 : Below w.heap.size w w0 := (Below.alloc (Below.refl _ _) (Nat.le_refl _) _).trans (hb.mono (by simp)); clear hb; have hci : w0.cell? ⟨w.heap.size, 0, none⟩ = some (.slice ia inp.length ic) := (cell_of_row w0 w.heap.size 0 _ _ _ he0).trans rfl; have HE0 := Lib.hid he0) | (go_at_call 7; (with_reducible refine (HLG.out _ hb0).mono ?_); rintro _ w1 ⟨rfl, rfl⟩) | (go_at_call 9; (with_reducible refine (HCK.out _ hb0).mono ?_); rintro _ w2 ⟨rfl, hbc⟩; have hb5 := hb0.trans (hbc.mono hb0.size); have HE5 := Lib.hid ((hbc.block _ (lt_of_block HE0.out)).trans HE0.out); have HSL := Lib.hid (HL.out.below hb5); clear hbc) | (go_at_call 8; (with_reducible refine (HOF.out _ _ HSL.out).mono ?_); rintro _ w6 ⟨⟨q, cs, ar, cr, iv, rv, rfl, hO, hC, hR, hil, hrl, hI, hRg, hni, hnr, hcm⟩, hb6⟩; have HB6 := Lib.hid (hb5.trans (hb6.mono hb5.size)); have HE6 := Lib.hid ((hb6.block _ (lt_of_block HE5.out)).trans HE5.out); clear hb6 hni hnr) | ((with_reducible refine wl_id ?_); refine wl_strow rfl 35 _ _ rfl w6.heap.size _ rfl rfl 35 fzero.toArray (heap_alloc_new w6 _) (by rw [List.size_toArray, fcells_len hil hrl]; exact sizeTF) (by rw [List.size_toArray, List.size_toArray, fcells_len hil hrl, fzero_len]) (fcells_one rfl rfl rfl (slsx_one hI) (slsx_one hRg)) ?_; intro w7 hh7 hg7; have hb67 := below_grown (Below.alloc (Below.refl w6.heap.size w6) (Nat.le_refl _) _) hg7 (fun k e => by injection e with e; omega); have HQ1 := Lib.hid (hO.kept (Kept.ofBelow (X := fun _ => True) hb67) trivial); have HC1 := Lib.hid (hC.kept (Kept.ofBelow hb67)); have HRT1 := Lib.hid (hR.kept (Kept.ofBelow hb67)); have HI1 := Lib.hid (hI.kept (Kept.ofBelow hb67)); have HRG1 := Lib.hid (hRg.kept (Kept.ofBelow hb67)); have HCM1 := Lib.hid hcm; have HIL1 := Lib.hid hil; have HRL1 := Lib.hid hrl; have HE7 := Lib.hid ((hb67.block _ (lt_of_block HE6.out)).trans HE6.out); have HB7 := Lib.hid (HB6.out.trans (hb67.mono HB6.out.size)); have HH1 := Lib.hid hh7; clear hb67 hg7 hh7 hO hC hR hI hRg hil hrl hcm; (try simp only [Act.put, qz4, qz5, qz6])) | go_values | go_skip | go_guarded | go_step | go_upon | go_back | ((with_reducible show Oper.upon _ _ _ _ _ _); go_simp) | (dsimp only)))
  obtain ⟨q1, hq1⟩ : ∃ q1, w6.heap.size = q1 := ⟨_, rfl⟩
  rw [hq1] at HH1 ⊢
  have HX1 : Hid (∀ u : World, Below w7.heap.size w7 u → u.heap[q1]? = some (.cells (fcells (.slice (some ⟨q, 0, none⟩) b.g.cl.length b.g.cl.length) (.int .i64 b.g.n) (.slice ar root.length cr) iv rv).toArray 35 (0, 0))) := Lib.hid (fun u hu => (hu.block _ (lt_of_block HH1.out)).trans HH1.out)
  have HCA1 : Hid (∀ u : World, Below w7.heap.size w7 u → u.cell? ⟨q1, 0, none⟩ = some (.slice (some ⟨q, 0, none⟩) b.g.cl.length b.g.cl.length)) := Lib.hid (fun u hu => (cell_of_row u q1 0 _ _ _ (HX1.out u hu)).trans rfl)
  have HCB1 : Hid (∀ u : World, Below w7.heap.size w7 u → u.cell? ⟨q1, 1, none⟩ = some (.int .i64 b.g.n)) := Lib.hid (fun u hu => (cell_of_row u q1 1 _ _ _ (HX1.out u hu)).trans rfl)
  have HCC1 : Hid (∀ u : World, Below w7.heap.size w7 u → u.cell? ⟨q1, 2, none⟩ = some (.slice ar root.length cr)) := Lib.hid (fun u hu => (cell_of_row u q1 2 _ _ _ (HX1.out u hu)).trans rfl)
  have HLI1 : Hid (∀ u : World, Below w7.heap.size w7 u → (Instr.loadAt 32 (.pointer (some ⟨q1, 3, none⟩))).run Tryz.prog u = .ok (.agg iv.toArray) u) := Lib.hid (fun u hu => ld_mid u q1 3 16 35 32 _ _ iv (HX1.out u hu) (fun j v hj => (List.getElem?_toArray ..).trans (fc_inp hj)) HIL1.out Tryz.underlying32 rfl size16)
  have HLR1 : Hid (∀ u : World, Below w7.heap.size w7 u → (Instr.loadAt 33 (.pointer (some ⟨q1, 19, none⟩))).run Tryz.prog u = .ok (.agg rv.toArray) u) := Lib.hid (fun u hu => ld_mid u q1 19 8 35 33 _ _ rv (HX1.out u hu) (fun j v hj => (List.getElem?_toArray ..).trans (fc_reg HIL1.out hj)) HRL1.out Tryz.underlying33 rfl size8)
  have hca := HCA1.out w7 (Below.refl _ _)
  have hcb := HCB1.out w7 (Below.refl _ _)
  obtain ⟨R, hR⟩ : ∃ R, mostP b.g.cl.flatten = R := ⟨_, rfl⟩
  have hRb : 0 ≤ R ∧ R ≤ (b.g.n : Nat) := by
    rw [← hR]
    refine mostP_le _ _ rfl (fun x hx => ?_)
    obtain ⟨c, hc, hx⟩ := List.mem_flatten.1 hx
    obtain ⟨-, h1, h2⟩ := HGI1.out.rng c hc x hx
    unfold absI
    split <;> omega
  obtain ⟨hR0, hR1⟩ := hRb
  have hRn : ¬ (R > (b.g.n : Int)) := by omega
  have hokc : ∀ c ∈ b.g.cl, ∀ x ∈ c, okL x := fun c hc x hx => isL_ok (HGI1.out.rng c hc x hx) HBN1.out
  have HRR : Hid (∀ n : Nat, Calls Tryz.prog 15 #[.slice (some ⟨q, 0, none⟩) b.g.cl.length b.g.cl.length] (w7.drewN n) fun e w' => e = .returned (.bool true) ∧ w' = w7.drewN n) := Lib.hid (fun n => rright_any (w7.drewN n) q _ cs b.g.cl ((HQ1.out.kept (Kept.ofBelow (X := fun _ => True) (below_drewN (Below.refl _ _) n)) trivial).rows) (HC1.out.kept (Kept.ofBelow (below_drewN (Below.refl _ _) n))) rfl hokc (by have := HCM1.out; omega) (fun c hc => by have := HGI1.out.len c hc; omega))
  have HRM : Hid (∀ n : Nat, Calls Tryz.prog 16 #[.slice (some ⟨q, 0, none⟩) b.g.cl.length b.g.cl.length] (w7.drewN n) fun e w' => e = .returned (.int .i64 R) ∧ w' = w7.drewN n) := Lib.hid (fun n => rmost_any (w7.drewN n) q _ cs b.g.cl ((HQ1.out.kept (Kept.ofBelow (X := fun _ => True) (below_drewN (Below.refl _ _) n)) trivial).rows) (HC1.out.kept (Kept.ofBelow (below_drewN (Below.refl _ _) n))) rfl hokc (by have := HCM1.out; omega) (fun c hc => by have := HGI1.out.len c hc; omega) R (Lib.hid hR))
  clear hR hokc hR1 hR0 hq1
  go_quiet (first | (go_at_call 15; (with_reducible refine Calls.quiet_of_same (HRR.out _))) | (go_at_call 16; (with_reducible refine Calls.quiet_of_same (HRM.out _))))
  have H78 := Lib.hid (show Below w7.heap.size w7 (w7.drewN nq) from below_drewN (Below.refl _ _) nq)
  have HB8 := Lib.hid (HB7.out.trans (H78.out.mono HB7.out.size))
  clear hca hcb hRn HRR HRM
  generalize w7.drewN nq = w8 at *
  (repeat (first | (with_reducible first | refine xA ?_ | refine xB ?_ | refine xC ?_ | refine xD ?_ | refine xH ?_ | refine xI rfl ?_ | refine xE ?_ | refine xF ?_ | refine xG ?_) | go_skip | go_guarded | (go_at_call 17; (with_reducible refine (HPUT.out _ HB8.out).mono ?_); rintro _ w9 ⟨⟨va, A, tm, p, rfl, hS9, hP9, hp9⟩, hb9⟩; have H79 := Lib.hid (H78.out.trans (hb9.mono H78.out.size)); have HS9 := Lib.hid hS9; have HP9 := Lib.hid hP9; have Hp9 := Lib.hid hp9; have HTRM := Lib.hid (term_any va A w9 hS9 hP9.rt (by have := hP9.al; omega) p (by have h1 := (hP9.emb (ls.length - 1) (by have := List.length_pos_iff.2 HNE.out; omega)).2.1; rw [hp9] at h1; omega)); clear hS9 hP9 hp9 hb9) | (go_at_call 18; (with_reducible refine HTRM.out.mono ?_); rintro _ w10 ⟨⟨vB, B, nd, tp, rfl, hSB, hTB, hnp⟩, hb10⟩; have H710 := Lib.hid (H79.out.trans (hb10.mono H79.out.size)); have HSB := Lib.hid hSB; have HTB := Lib.hid hTB; have HNP := Lib.hid hnp; clear hSB hTB hnp hb10) | go_values | go_skip | go_guarded | go_step | go_upon | go_back | ((with_reducible show Oper.upon _ _ _ _ _ _); go_simp) | (dsimp only)))
  obtain ⟨hBT, hBne, hBl, hBv⟩ := put_term HP9.out HNE.out Hp9.out HLB.out HTB.out HNP.out
  have hB60 : B.length ≤ 60 := by unfold lightB at hBl; rw [Bool.and_eq_true, decide_eq_true_eq] at hBl; exact hBl.1
  have hBc := hBT.okTchk (by omega) hBne
  have hBwf : ∀ d ∈ B, NdWf d := fun d hd => by
    obtain ⟨j, hj⟩ := List.mem_iff_getElem?.1 hd
    exact (hBT j d hj).2.2
  have hBa : B.any arrB = false := by
    rw [List.any_eq_false]
    intro d hd
    obtain ⟨j, hj⟩ := List.mem_iff_getElem?.1 hd
    rw [arr_no.2 (hBT j d hj).2.1]
    simp
  have hBn := light_n hBT.tf hBl
  have HOF2 : Hid (∀ (u : World) (v' : Value), SlIs 6 Nd.cells u v' B → Calls Tryz.prog 8 #[v'] u fun e w' => OfRes (bK B B.length) ((bK B B.length).at ((B.length - 1 : Nat) : Int)) e w' ∧ Below u.heap.size u w') := Lib.hid (fun u v' hs => of_ok B v' u hs hBwf (by rw [hBc]) (by omega) hBT.tf hBne (ops_of hBc (by omega)) hBa hBn)
  obtain ⟨s2, hp2⟩ := plain_ok (I := inI inp) (R := rgR (regL r0 r1 r2 r3 r4 r5 r6 r7)) hBT.tf hBne HEW.out.I HEW.out.R
  have hbn2 : (bK B B.length).g.n ≤ 1048576 := by have := hBn B.length (Nat.le_refl _); omega
  have hlf2 := leaf_b hBT.tf hbn2
  have HGI2 := Lib.hid hp2.gi
  have HBN2 := Lib.hid hbn2
  have HLF2 := Lib.hid hlf2
  have HFL2 := Lib.hid (show (frB (inI inp) (rgR (regL r0 r1 r2 r3 r4 r5 r6 r7)) (bK B B.length)).length ≤ 1000000 by have := fr_len (I := inI inp) (R := rgR (regL r0 r1 r2 r3 r4 r5 r6 r7)) (b := bK B B.length) (fun l h => (hlf2 l h).1); omega)
  have HRX2 := Lib.hid hp2.rx
  have HR642 := Lib.hid hp2.r64
  have HRV2 := Lib.hid (hp2.rv.trans ((hBv _ _).trans HVV.out.symm))
  clear hBT hBne hBl hBv hBc hBwf hBa hBn hp2 hbn2 hlf2 hB60
  generalize bK B B.length = b2 at *
  generalize b2.at ((B.length - 1 : Nat) : Int) = root2 at *
  (repeat (first | (with_reducible first | refine xA ?_ | refine xB ?_ | refine xC ?_ | refine xD ?_ | refine xH ?_ | refine xI rfl ?_ | refine xE ?_ | refine xF ?_ | refine xG ?_) | go_skip | go_guarded | (go_at_call 8; (with_reducible refine (HOF2.out _ _ HSB.out).mono ?_); rintro _ w11 ⟨⟨qq, cs2, ar2, cr2, iv2, rv2, rfl, hO, hC, hR, hil, hrl, hI, hRg, hni, hnr, hcm⟩, hb11⟩; have HB11 := Lib.hid (H710.out.trans (hb11.mono H710.out.size)); clear hb11 hni hnr) | ((with_reducible refine wl_id ?_); refine wl_strow rfl 35 _ _ rfl w11.heap.size _ rfl rfl 35 fzero.toArray (heap_alloc_new w11 _) (by rw [List.size_toArray, fcells_len hil hrl]; exact sizeTF) (by rw [List.size_toArray, List.size_toArray, fcells_len hil hrl, fzero_len]) (fcells_one rfl rfl rfl (slsx_one hI) (slsx_one hRg)) ?_; intro y hh7 hg7; have hb67 := below_grown (Below.alloc (Below.refl w11.heap.size w11) (Nat.le_refl _) _) hg7 (fun k e => by injection e with e; omega); have HQ2 := Lib.hid (hO.kept (Kept.ofBelow (X := fun _ => True) hb67) trivial); have HC2 := Lib.hid (hC.kept (Kept.ofBelow hb67)); have HRT2 := Lib.hid (hR.kept (Kept.ofBelow hb67)); have HI2 := Lib.hid (hI.kept (Kept.ofBelow hb67)); have HRG2 := Lib.hid (hRg.kept (Kept.ofBelow hb67)); have HCM2 := Lib.hid hcm; have HIL2 := Lib.hid hil; have HRL2 := Lib.hid hrl; have H7Y := Lib.hid (HB11.out.trans (hb67.mono HB11.out.size)); have HH2 := Lib.hid hh7; clear hb67 hg7 hh7 hO hC hR hI hRg hil hrl hcm; (try simp only [Act.put, qz4, qz5, qz6])) | go_values | go_skip | go_guarded | go_step | go_upon | go_back | ((with_reducible show Oper.upon _ _ _ _ _ _); go_simp) | (dsimp only)))
  obtain ⟨q2, hq2⟩ : ∃ q2, w11.heap.size = q2 := ⟨_, rfl⟩
  rw [hq2] at HH2 ⊢
  have HX2 : Hid (∀ u : World, Below y.heap.size y u → u.heap[q2]? = some (.cells (fcells (.slice (some ⟨qq, 0, none⟩) b2.g.cl.length b2.g.cl.length) (.int .i64 b2.g.n) (.slice ar2 root2.length cr2) iv2 rv2).toArray 35 (0, 0))) := Lib.hid (fun u hu => (hu.block _ (lt_of_block HH2.out)).trans HH2.out)
  have HCA2 : Hid (∀ u : World, Below y.heap.size y u → u.cell? ⟨q2, 0, none⟩ = some (.slice (some ⟨qq, 0, none⟩) b2.g.cl.length b2.g.cl.length)) := Lib.hid (fun u hu => (cell_of_row u q2 0 _ _ _ (HX2.out u hu)).trans rfl)
  have HCB2 : Hid (∀ u : World, Below y.heap.size y u → u.cell? ⟨q2, 1, none⟩ = some (.int .i64 b2.g.n)) := Lib.hid (fun u hu => (cell_of_row u q2 1 _ _ _ (HX2.out u hu)).trans rfl)
  have HCC2 : Hid (∀ u : World, Below y.heap.size y u → u.cell? ⟨q2, 2, none⟩ = some (.slice ar2 root2.length cr2)) := Lib.hid (fun u hu => (cell_of_row u q2 2 _ _ _ (HX2.out u hu)).trans rfl)
  have HLI2 : Hid (∀ u : World, Below y.heap.size y u → (Instr.loadAt 32 (.pointer (some ⟨q2, 3, none⟩))).run Tryz.prog u = .ok (.agg iv2.toArray) u) := Lib.hid (fun u hu => ld_mid u q2 3 16 35 32 _ _ iv2 (HX2.out u hu) (fun j v hj => (List.getElem?_toArray ..).trans (fc_inp hj)) HIL2.out Tryz.underlying32 rfl size16)
  have HLR2 : Hid (∀ u : World, Below y.heap.size y u → (Instr.loadAt 33 (.pointer (some ⟨q2, 19, none⟩))).run Tryz.prog u = .ok (.agg rv2.toArray) u) := Lib.hid (fun u hu => ld_mid u q2 19 8 35 33 _ _ rv2 (HX2.out u hu) (fun j v hj => (List.getElem?_toArray ..).trans (fc_reg HIL2.out hj)) HRL2.out Tryz.underlying33 rfl size8)
  have HBY := Lib.hid (HB7.out.trans (H7Y.out.mono HB7.out.size))
  have HXE : Hid (∀ u : World, Below y.heap.size y u → u.heap[w.heap.size]? = some (.cells #[.slice ia inp.length ic, .int .u64 r0, .int .u64 r1, .int .u64 r2, .int .u64 r3, .int .u64 r4, .int .u64 r5, .int .u64 r6, .int .u64 r7, vm] 27 (0, 0))) := Lib.hid (fun u hu => ((H7Y.out.trans (hu.mono H7Y.out.size)).block _ (lt_of_block HE7.out)).trans HE7.out)
  have HTW : Hid (∀ u : World, Below y.heap.size y u → Below w7.heap.size w7 u) := Lib.hid (fun u hu => H7Y.out.trans (hu.mono H7Y.out.size))
  clear hq2
  have hyy := Below.refl y.heap.size y
  refine wp_region_held (S := fun u => Below y.heap.size y u) (by kernel_rfl) ?_
  have HSC : Below y.heap.size y ({ y with drawn := y.drawn + 1 } : World) := hyy.trans ⟨rfl, rfl, rfl, Nat.le_refl _, fun _ _ => rfl⟩
  clear hyy
  generalize ({ y with drawn := y.drawn + 1 } : World) = u0 at *
  (refine wpAnyH_take (i := 0) (v := .pointer (some ⟨q1, 0, none⟩)) rfl (by kernel_rfl) (by kernel_rfl) (by kernel_rfl) (fun _ _ _ h => h) (Or.inl ⟨rfl, fun w _ => by go_simp⟩) HSC ?_; simp only [Act.put, qz1, qz2, qz3, qz4, qz5, qz6])
  (refine wpAnyH_take (i := 1) (v := .slice (some ⟨q, 0, none⟩) b.g.cl.length b.g.cl.length) rfl (by kernel_rfl) (by kernel_rfl) (by kernel_rfl) (fun _ _ _ h => h) (Or.inl ⟨rfl, fun w hw => by have hx := HCA1.out w (HTW.out _ hw); go_simp⟩) HSC ?_; simp only [Act.put, qz1, qz2, qz3, qz4, qz5, qz6])
  (refine wpAnyH_take (i := 2) (v := .pointer (some ⟨q1, 3, none⟩)) rfl (by kernel_rfl) (by kernel_rfl) (by kernel_rfl) (fun _ _ _ h => h) (Or.inl ⟨rfl, fun w _ => by go_simp⟩) HSC ?_; simp only [Act.put, qz1, qz2, qz3, qz4, qz5, qz6])
  (refine wpAnyH_take (i := 3) (v := .agg iv.toArray) rfl (by kernel_rfl) (by kernel_rfl) (by kernel_rfl) (fun _ _ _ h => h) (Or.inl ⟨rfl, fun w hw => take_ld rfl rfl (HLI1.out w (HTW.out _ hw))⟩) HSC ?_; simp only [Act.put, qz1, qz2, qz3, qz4, qz5, qz6])
  (refine wpAnyH_take (i := 4) (v := .pointer (some ⟨q1, 19, none⟩)) rfl (by kernel_rfl) (by kernel_rfl) (by kernel_rfl) (fun _ _ _ h => h) (Or.inl ⟨rfl, fun w _ => by go_simp⟩) HSC ?_; simp only [Act.put, qz1, qz2, qz3, qz4, qz5, qz6])
  (refine wpAnyH_take (i := 5) (v := .agg rv.toArray) rfl (by kernel_rfl) (by kernel_rfl) (by kernel_rfl) (fun _ _ _ h => h) (Or.inl ⟨rfl, fun w hw => take_ld rfl rfl (HLR1.out w (HTW.out _ hw))⟩) HSC ?_; simp only [Act.put, qz1, qz2, qz3, qz4, qz5, qz6])
  (refine wpAnyH_take (i := 6) (v := .agg #[.slice ia inp.length ic, .int .u64 r0, .int .u64 r1, .int .u64 r2, .int .u64 r3, .int .u64 r4, .int .u64 r5, .int .u64 r6, .int .u64 r7, vm]) rfl (by kernel_rfl) (by kernel_rfl) (by kernel_rfl) (fun _ _ _ h => h) (Or.inl ⟨rfl, fun w hw => take_ld rfl rfl (ldEnv w _ (HXE.out w (id hw)))⟩) HSC ?_; simp only [Act.put, qz1, qz2, qz3, qz4, qz5, qz6])
  refine wpAnyH_all (rs := [7]) (by kernel_rfl) (by simp) (fun i hi => ?_)
  obtain rfl : i = 7 := by simpa using hi
  refine wpOp_one rfl ?_
  have HFRM := Lib.hid (from_any (w := u0) inp HEW.out (HIN.out.below (HBY.out.trans (HSC.mono HBY.out.size))) b iv rv (HI1.out.kept (Kept.ofBelow (HTW.out _ HSC))) (HRG1.out.kept (Kept.ofBelow (HTW.out _ HSC))) HIL1.out HRL1.out HLF1.out (inI inp) (rgR (regL r0 r1 r2 r3 r4 r5 r6 r7)) rfl rfl (vm := vm))
  (repeat (first | (with_reducible first | refine xA ?_ | refine xB ?_ | refine xC ?_ | refine xD ?_ | refine xH ?_ | refine xI rfl ?_ | refine xE ?_ | refine xF ?_ | refine xG ?_) | go_skip | go_guarded | (go_at_call 11; (with_reducible refine HFRM.out.mono ?_); rintro _ u1 ⟨⟨vf, rfl, hOF⟩, hb1⟩) | go_values | go_skip | go_guarded | go_step | go_upon | go_back | ((with_reducible show Oper.upon _ _ _ _ _ _); go_simp) | (dsimp only)))
  have HS1 := HSC.trans (hb1.mono HSC.size)
  refine ⟨HS1, ?_⟩
  refine wpAnyH_all (rs := [8]) (by kernel_rfl) (by simp) (fun i hi => ?_)
  obtain rfl : i = 8 := by simpa using hi
  refine wpOp_one rfl ?_
  have HSP := Lib.hid (spread_b q u1 HGI1.out HBN1.out HCM1.out (HQ1.out.kept (Kept.ofBelow (X := fun _ => True) (HTW.out _ HS1)) trivial) (HC1.out.kept (Kept.ofBelow (HTW.out _ HS1))) (own_sl (X := fun _ => True) hOF fun _ _ => trivial) HFL1.out)
  (repeat (first | (with_reducible first | refine xA ?_ | refine xB ?_ | refine xC ?_ | refine xD ?_ | refine xH ?_ | refine xI rfl ?_ | refine xE ?_ | refine xF ?_ | refine xG ?_) | go_skip | go_guarded | (go_at_call 10; (with_reducible refine HSP.out.mono ?_); rintro _ u2 ⟨at1', ct1, rfl, hTD, hb2⟩) | go_values | go_skip | go_guarded | go_step | go_upon | go_back | ((with_reducible show Oper.upon _ _ _ _ _ _); go_simp) | (dsimp only)))
  have HS2 := HS1.trans (hb2.mono HS1.size)
  refine ⟨HS2, ?_⟩
  clear HSC
  have HSC := HS2
  (refine wpAnyH_take (i := 9) (v := .tuple #[.slice at1' b.g.n ct1, .bool true]) rfl (by kernel_rfl) (by kernel_rfl) (by kernel_rfl) (fun _ _ _ h => h) (Or.inl ⟨rfl, fun w _ => by go_simp⟩) HSC ?_; simp only [Act.put, qz1, qz2, qz3, qz4, qz5, qz6])
  (refine wpAnyH_take (i := 10) (v := .slice at1' b.g.n ct1) rfl (by kernel_rfl) (by kernel_rfl) (by kernel_rfl) (fun _ _ _ h => h) (Or.inl ⟨rfl, fun w _ => by go_simp⟩) HSC ?_; simp only [Act.put, qz1, qz2, qz3, qz4, qz5, qz6])
  (refine wpAnyH_take (i := 11) (v := .bool true) rfl (by kernel_rfl) (by kernel_rfl) (by kernel_rfl) (fun _ _ _ h => h) (Or.inl ⟨rfl, fun w _ => by go_simp⟩) HSC ?_; simp only [Act.put, qz1, qz2, qz3, qz4, qz5, qz6])
  (refine wpAnyH_take (i := 12) (v := .slice at1' b.g.n ct1) rfl (by kernel_rfl) (by kernel_rfl) (by kernel_rfl) (fun _ _ _ h => h) (Or.inl ⟨rfl, fun w _ => by go_simp⟩) HSC ?_; simp only [Act.put, qz1, qz2, qz3, qz4, qz5, qz6])
  (refine wpAnyH_take (i := 13) (v := .bool true) rfl (by kernel_rfl) (by kernel_rfl) (by kernel_rfl) (fun _ _ _ h => h) (Or.inl ⟨rfl, fun w _ => by go_simp⟩) HSC ?_; simp only [Act.put, qz1, qz2, qz3, qz4, qz5, qz6])
  refine wpAnyH_done (by kernel_rfl) ?_ _
  have HTD1 := Lib.hid hTD
  have hy2 := HS2
  have HT1 : Hid (∀ u : World, Below u2.heap.size u2 u → SlX (fun _ => True) u (.slice at1' b.g.n ct1) (toldL b.g.n s)) := Lib.hid (fun u hu => HTD1.out.kept (Kept.ofBelow hu))
  obtain ⟨z1, hz1⟩ : ∃ z, z = u2 := ⟨_, rfl⟩
  rw [← hz1] at hy2 HT1 ⊢
  clear HSC HS1 HS2 hb1 hb2 hTD hOF HSP HFRM HTD1 hz1
  clear u0 u1 u2
  have HTY : Hid (∀ u : World, Below z1.heap.size z1 u → Below y.heap.size y u) := Lib.hid (fun u hu => hy2.trans (hu.mono hy2.size))
  have HBZ := Lib.hid (HBY.out.trans (hy2.mono HBY.out.size))
  clear hy2
  (repeat (first | (with_reducible first | refine xA ?_ | refine xB ?_ | refine xC ?_ | refine xD ?_ | refine xH ?_ | refine xI rfl ?_ | refine xE ?_ | refine xF ?_ | refine xG ?_) | go_values | go_skip | go_guarded | go_step | go_upon | go_back | ((with_reducible show Oper.upon _ _ _ _ _ _); go_simp) | (dsimp only)))
  have hzz := Below.refl z1.heap.size z1
  refine wp_region_held (S := fun u => Below z1.heap.size z1 u) (by kernel_rfl) ?_
  have HSC : Below z1.heap.size z1 ({ z1 with drawn := z1.drawn + 1 } : World) := hzz.trans ⟨rfl, rfl, rfl, Nat.le_refl _, fun _ _ => rfl⟩
  clear hzz
  generalize ({ z1 with drawn := z1.drawn + 1 } : World) = u0 at *
  (refine wpAnyH_take (i := 0) (v := .pointer (some ⟨q2, 0, none⟩)) rfl (by kernel_rfl) (by kernel_rfl) (by kernel_rfl) (fun _ _ _ h => h) (Or.inl ⟨rfl, fun w _ => by go_simp⟩) HSC ?_; simp only [Act.put, qz1, qz2, qz3, qz4, qz5, qz6])
  (refine wpAnyH_take (i := 1) (v := .slice (some ⟨qq, 0, none⟩) b2.g.cl.length b2.g.cl.length) rfl (by kernel_rfl) (by kernel_rfl) (by kernel_rfl) (fun _ _ _ h => h) (Or.inl ⟨rfl, fun w hw => by have hx := HCA2.out w (HTY.out _ hw); go_simp⟩) HSC ?_; simp only [Act.put, qz1, qz2, qz3, qz4, qz5, qz6])
  (refine wpAnyH_take (i := 2) (v := .pointer (some ⟨q2, 3, none⟩)) rfl (by kernel_rfl) (by kernel_rfl) (by kernel_rfl) (fun _ _ _ h => h) (Or.inl ⟨rfl, fun w _ => by go_simp⟩) HSC ?_; simp only [Act.put, qz1, qz2, qz3, qz4, qz5, qz6])
  (refine wpAnyH_take (i := 3) (v := .agg iv2.toArray) rfl (by kernel_rfl) (by kernel_rfl) (by kernel_rfl) (fun _ _ _ h => h) (Or.inl ⟨rfl, fun w hw => take_ld rfl rfl (HLI2.out w (HTY.out _ hw))⟩) HSC ?_; simp only [Act.put, qz1, qz2, qz3, qz4, qz5, qz6])
  (refine wpAnyH_take (i := 4) (v := .pointer (some ⟨q2, 19, none⟩)) rfl (by kernel_rfl) (by kernel_rfl) (by kernel_rfl) (fun _ _ _ h => h) (Or.inl ⟨rfl, fun w _ => by go_simp⟩) HSC ?_; simp only [Act.put, qz1, qz2, qz3, qz4, qz5, qz6])
  (refine wpAnyH_take (i := 5) (v := .agg rv2.toArray) rfl (by kernel_rfl) (by kernel_rfl) (by kernel_rfl) (fun _ _ _ h => h) (Or.inl ⟨rfl, fun w hw => take_ld rfl rfl (HLR2.out w (HTY.out _ hw))⟩) HSC ?_; simp only [Act.put, qz1, qz2, qz3, qz4, qz5, qz6])
  (refine wpAnyH_take (i := 6) (v := .agg #[.slice ia inp.length ic, .int .u64 r0, .int .u64 r1, .int .u64 r2, .int .u64 r3, .int .u64 r4, .int .u64 r5, .int .u64 r6, .int .u64 r7, vm]) rfl (by kernel_rfl) (by kernel_rfl) (by kernel_rfl) (fun _ _ _ h => h) (Or.inl ⟨rfl, fun w hw => take_ld rfl rfl (ldEnv w _ (HXE.out w (HTY.out _ hw)))⟩) HSC ?_; simp only [Act.put, qz1, qz2, qz3, qz4, qz5, qz6])
  refine wpAnyH_all (rs := [7]) (by kernel_rfl) (by simp) (fun i hi => ?_)
  obtain rfl : i = 7 := by simpa using hi
  refine wpOp_one rfl ?_
  have HFRM := Lib.hid (from_any (w := u0) inp HEW.out (HIN.out.below (HBZ.out.trans (HSC.mono HBZ.out.size))) b2 iv2 rv2 (HI2.out.kept (Kept.ofBelow (HTY.out _ HSC))) (HRG2.out.kept (Kept.ofBelow (HTY.out _ HSC))) HIL2.out HRL2.out HLF2.out (inI inp) (rgR (regL r0 r1 r2 r3 r4 r5 r6 r7)) rfl rfl (vm := vm))
  (repeat (first | (with_reducible first | refine xA ?_ | refine xB ?_ | refine xC ?_ | refine xD ?_ | refine xH ?_ | refine xI rfl ?_ | refine xE ?_ | refine xF ?_ | refine xG ?_) | go_skip | go_guarded | (go_at_call 11; (with_reducible refine HFRM.out.mono ?_); rintro _ u1 ⟨⟨vf, rfl, hOF⟩, hb1⟩) | go_values | go_skip | go_guarded | go_step | go_upon | go_back | ((with_reducible show Oper.upon _ _ _ _ _ _); go_simp) | (dsimp only)))
  have HS1 := HSC.trans (hb1.mono HSC.size)
  refine ⟨HS1, ?_⟩
  refine wpAnyH_all (rs := [8]) (by kernel_rfl) (by simp) (fun i hi => ?_)
  obtain rfl : i = 8 := by simpa using hi
  refine wpOp_one rfl ?_
  have HSP := Lib.hid (spread_b qq u1 HGI2.out HBN2.out HCM2.out (HQ2.out.kept (Kept.ofBelow (X := fun _ => True) (HTY.out _ HS1)) trivial) (HC2.out.kept (Kept.ofBelow (HTY.out _ HS1))) (own_sl (X := fun _ => True) hOF fun _ _ => trivial) HFL2.out)
  (repeat (first | (with_reducible first | refine xA ?_ | refine xB ?_ | refine xC ?_ | refine xD ?_ | refine xH ?_ | refine xI rfl ?_ | refine xE ?_ | refine xF ?_ | refine xG ?_) | go_skip | go_guarded | (go_at_call 10; (with_reducible refine HSP.out.mono ?_); rintro _ u2 ⟨at2', ct2, rfl, hTD, hb2⟩) | go_values | go_skip | go_guarded | go_step | go_upon | go_back | ((with_reducible show Oper.upon _ _ _ _ _ _); go_simp) | (dsimp only)))
  have HS2 := HS1.trans (hb2.mono HS1.size)
  refine ⟨HS2, ?_⟩
  clear HSC
  have HSC := HS2
  (refine wpAnyH_take (i := 9) (v := .tuple #[.slice at2' b2.g.n ct2, .bool true]) rfl (by kernel_rfl) (by kernel_rfl) (by kernel_rfl) (fun _ _ _ h => h) (Or.inl ⟨rfl, fun w _ => by go_simp⟩) HSC ?_; simp only [Act.put, qz1, qz2, qz3, qz4, qz5, qz6])
  (refine wpAnyH_take (i := 10) (v := .slice at2' b2.g.n ct2) rfl (by kernel_rfl) (by kernel_rfl) (by kernel_rfl) (fun _ _ _ h => h) (Or.inl ⟨rfl, fun w _ => by go_simp⟩) HSC ?_; simp only [Act.put, qz1, qz2, qz3, qz4, qz5, qz6])
  (refine wpAnyH_take (i := 11) (v := .bool true) rfl (by kernel_rfl) (by kernel_rfl) (by kernel_rfl) (fun _ _ _ h => h) (Or.inl ⟨rfl, fun w _ => by go_simp⟩) HSC ?_; simp only [Act.put, qz1, qz2, qz3, qz4, qz5, qz6])
  (refine wpAnyH_take (i := 12) (v := .slice at2' b2.g.n ct2) rfl (by kernel_rfl) (by kernel_rfl) (by kernel_rfl) (fun _ _ _ h => h) (Or.inl ⟨rfl, fun w _ => by go_simp⟩) HSC ?_; simp only [Act.put, qz1, qz2, qz3, qz4, qz5, qz6])
  (refine wpAnyH_take (i := 13) (v := .bool true) rfl (by kernel_rfl) (by kernel_rfl) (by kernel_rfl) (fun _ _ _ h => h) (Or.inl ⟨rfl, fun w _ => by go_simp⟩) HSC ?_; simp only [Act.put, qz1, qz2, qz3, qz4, qz5, qz6])
  refine wpAnyH_done (by kernel_rfl) ?_ _
  have HTD2 := Lib.hid hTD
  have hY2 := HTY.out _ HS2
  have hW2 := HTW.out _ hY2
  have hcc1 := HCC1.out u2 hW2
  have hcc2 := HCC2.out u2 hY2
  have HW1 := Lib.hid (Word_any u2 _ _ b.g.n s (HT1.out u2 HS2) root (HRT1.out.kept (Kept.ofBelow hW2)) HRX1.out HBN1.out HR641.out V (Lib.hid HRV1.out))
  have HW2 := Lib.hid (Word_any u2 _ _ b2.g.n s2 HTD2.out root2 (HRT2.out.kept (Kept.ofBelow hY2)) HRX2.out HBN2.out HR642.out V (Lib.hid HRV2.out))
  have HB9 := Lib.hid (HBZ.out.trans (HS2.mono HBZ.out.size))
  clear HSC HS1 HS2 hb1 hb2 hTD hOF HSP HFRM hY2 hW2
  (repeat (first | (with_reducible first | refine xA ?_ | refine xB ?_ | refine xC ?_ | refine xD ?_ | refine xH ?_ | refine xI rfl ?_ | refine xE ?_ | refine xF ?_ | refine xG ?_) | go_skip | go_guarded | (go_at_call 12; (with_reducible refine HW1.out.mono ?_); rintro _ u3 ⟨rfl, rfl⟩) | (go_at_call 12; (with_reducible refine HW2.out.mono ?_); rintro _ u4 ⟨rfl, rfl⟩) | go_values | go_skip | go_guarded | go_step | go_upon | go_back | ((with_reducible show Oper.upon _ _ _ _ _ _); go_simp) | (dsimp only)))
  go_ret
  exact ⟨rfl, HB9.out⟩
end Go.Proofs.YtmaogkgjiplckaaGreat
namespace Go.Proofs.YtmaogkgjiplckaaGreat
open Go.RowKit
open Go.ChangeShapes Go.WideShapes Go.Deep Go.Joins
set_option maxRecDepth 100000 in
theorem right_walk {ia : Option Addr} {ic : Nat} {vm : Value} {r0 r1 r2 r3 r4 r5 r6 r7 : Int} (inp : List Int) (ls : List Nd) (v : Value) (w : World) (h : SlIs 6 Nd.cells w v ls) (hwf : ∀ d ∈ ls, NdWf d) (hi : SlIs 1 u8c w (.slice ia inp.length ic) inp) (hib : ∀ a ∈ inp, 0 ≤ a ∧ a < 256) (hrb : ∀ x ∈ regL r0 r1 r2 r3 r4 r5 r6 r7, 0 ≤ x ∧ x < 18446744073709551616) :
    Calls Tryz.prog 5 #[v, .agg #[.slice ia inp.length ic, .int .u64 r0, .int .u64 r1, .int .u64 r2, .int .u64 r3, .int .u64 r4, .int .u64 r5, .int .u64 r6, .int .u64 r7, vm]] w fun e w' => e = .returned (.bool true) ∧ Below w.heap.size w w' := by
  cases hl : lightB ls with
  | false => exact right_dark (n := 0) inp ls v w h hl
  | true =>
    have hll : ls.length ≤ 60 := by
      unfold lightB at hl
      rw [Bool.and_eq_true, decide_eq_true_eq] at hl
      exact hl.1
    by_cases hin : inp.length ≤ 100
    · by_cases hE : (tchk ls).1 = 0
      · have h00 := tchk_00 hE
        have ho := ops_of h00 (by omega)
        cases ha : ls.any arrB with
        | true => exact right_bad (n := 0) inp (by omega) ls v w h hl 8 rfl (fun u hb => check16_any ls v u (h.below hb) hwf hE (by omega) ho 8 (Lib.hid (by rw [ha]; rfl)))
        | false =>
          have hna : ∀ d ∈ ls, noArr d := fun d hd => arr_no.1 (by
            have := List.any_eq_false.1 ha d hd
            simpa using this)
          obtain ⟨hT, hne⟩ := tf_of h00 (by omega) hna hwf
          have hEW : EnvWf inp (regL r0 r1 r2 r3 r4 r5 r6 r7) := ⟨hin, hib, hrb⟩
          obtain ⟨s, hp⟩ := plain_ok (I := inI inp) (R := rgR (regL r0 r1 r2 r3 r4 r5 r6 r7)) hT hne hEW.I hEW.R
          have hn := light_n hT hl
          have hbn : (bK ls ls.length).g.n ≤ 1048576 := by have := hn ls.length (Nat.le_refl _); omega
          have hlf := leaf_b hT hbn
          exact right_main inp hEW ls v w h hi hl hll hwf (RT.ofTchk h00 (by omega) hna hwf) hE hne (bK ls ls.length) ((bK ls ls.length).at ((ls.length - 1 : Nat) : Int)) s _ hp.gi hbn hlf (by have := fr_len (I := inI inp) (R := rgR (regL r0 r1 r2 r3 r4 r5 r6 r7)) (b := bK ls ls.length) (fun l h => (hlf l h).1); omega) hp.rx hp.r64 hp.rv rfl (fun u v' hs => of_ok ls v' u hs hwf hE (by omega) hT hne ho ha hn) (fun u hb => check16_any ls v u (h.below hb) hwf hE (by omega) ho 0 (Lib.hid (by rw [ha]; rfl)))
      · exact right_bad (n := 0) inp (by omega) ls v w h hl (tchk ls).1 (by simpa using hE) (fun u hb => check16_bad ls v u (h.below hb) hwf _ (Lib.hid rfl) (by simpa using hE))
    · exact right_many (n := 0) inp (by omega) ls v w h hl
set_option maxRecDepth 100000 in
theorem right_law {H : Type} {enc : TypeId × Value → H} {base : Nat} {d0 d1 : DataW H} {p0 p1 : List MemPlace} (v0 v1 : Value) (w : World) (o0 : Value.okWide Tryz.prog w .any base 22 v0) (k0 : DataW.Trod enc Tryz.prog w 0 (fun _ => true) true 22 v0 d0 p0) (o1 : Value.okWide Tryz.prog w .any base 27 v1) (k1 : DataW.Trod enc Tryz.prog w 0 (fun _ => true) true 27 v1 d1 p1) :
    Calls Tryz.prog 5 #[v0, v1] w fun e w' => e = .returned (.bool true) ∧ Below w.heap.size w w' := by
  obtain ⟨a, l, c, rfl⟩ := okWide_slice Tryz.underlying22 o0
  obtain ⟨fuel, h⟩ := k0
  obtain ⟨ls, h1, h2⟩ := open_nodes (by simpa [Value.cells] using h)
  obtain ⟨inp, ia, ic, r0, r1, r2, r3, r4, r5, r6, r7, vm, rfl, hs, hb, hr⟩ := open_env o1 k1
  exact right_walk inp ls _ w h1 h2 hs hb hr
end Go.Proofs.YtmaogkgjiplckaaGreat

