import Derived.Test.YtcffgbmgjdhkjaaH
set_option linter.unusedSimpArgs false
set_option linter.unusedVariables false
namespace Go.Proofs.Ytcffgbmgjdhkjaa
open Go.RowKit

section
variable {ops : Array Oper} {rest : List Oper} {o : Oper} {a : Act} {w W : World} {Q : Exit → Act → World → Prop} {K : Act → Prop}
theorem wl_ldNdA {w0 : World} {b off : Nat} {ls : List Nd} (HR : RowAt 6 Nd.cells w0 b off ls) (hb : Below w0.heap.size w0 w) (i : Nat) (d : Nd) (hi : ls[i]? = some d) (hgd : o.guard = none) (x : Operand) (ho : o.op = .load 49 x)
    (hx : a.eval x = .pointer (some ⟨b, off + i * 6, none⟩)) (h : wpList Try.prog ops Q rest (a.put o.dst (.agg #[.int .i64 d.op, .int .i64 d.w, .int .u64 d.n, .int .i64 d.k0, .int .i64 d.k1, .int .i64 d.k2])) w) : wpList Try.prog ops Q (o :: rest) a w :=
  wl_ldNd HR hb i d hi hgd x ho (by rw [Nat.mul_comm]; exact hx) h
theorem quiet_ldNdA {b off : Nat} {ls : List Nd} (HR : RowAt 6 Nd.cells W b off ls) (i : Nat) (d : Nd) (hi : ls[i]? = some d) (x : Operand) (ho : o.op = .load 49 x)
    (hx : a.eval x = .pointer (some ⟨b, off + i * 6, none⟩)) (hk : K (a.put o.dst (.agg #[.int .i64 d.op, .int .i64 d.w, .int .u64 d.n, .int .i64 d.k0, .int .i64 d.k1, .int .i64 d.k2]))) : o.quiet Try.prog a (Cls W) K :=
  quiet_ldNd HR i d hi x ho (by rw [Nat.mul_comm]; exact hx) hk
end

theorem row6 {w : World} {b : Nat} {d : Nd} (h0 : w.cell? ⟨b, 0, none⟩ = some (.int .i64 d.op)) (h1 : w.cell? ⟨b, 1, none⟩ = some (.int .i64 d.w)) (h2 : w.cell? ⟨b, 2, none⟩ = some (.int .u64 d.n))
    (h3 : w.cell? ⟨b, 3, none⟩ = some (.int .i64 d.k0)) (h4 : w.cell? ⟨b, 4, none⟩ = some (.int .i64 d.k1)) (h5 : w.cell? ⟨b, 5, none⟩ = some (.int .i64 d.k2)) : RowAt 6 Nd.cells w b 0 [d] := by
  intro i e hi j c hj
  match i, hi with
  | 0, hi =>
    obtain rfl : d = e := by simpa using hi
    match j, hj with
    | 0, hj => obtain rfl : _ = c := by simpa [Nd.cells] using hj
               simpa using h0
    | 1, hj => obtain rfl : _ = c := by simpa [Nd.cells] using hj
               simpa using h1
    | 2, hj => obtain rfl : _ = c := by simpa [Nd.cells] using hj
               simpa using h2
    | 3, hj => obtain rfl : _ = c := by simpa [Nd.cells] using hj
               simpa using h3
    | 4, hj => obtain rfl : _ = c := by simpa [Nd.cells] using hj
               simpa using h4
    | 5, hj => obtain rfl : _ = c := by simpa [Nd.cells] using hj
               simpa using h5
    | j + 6, hj => simp [Nd.cells] at hj
  | i + 1, hi => simp at hi

theorem SlIs.take {w : World} {b o cap : Nat} {ls : List Nd} (h : RowAt 6 Nd.cells w b o ls) (hc : ls.length ≤ cap) {k : Nat} (hk : k ≤ ls.length) : SlIs 6 Nd.cells w (.slice (some ⟨b, o, none⟩) k cap) (ls.take k) :=
  ⟨_, cap, by rw [List.length_take, Nat.min_eq_left hk], by rw [List.length_take]; omega, by simp, fun _ => ⟨b, o, rfl, h.take k⟩⟩

theorem right_anyX (op wd n k0 k1 k2 : Int) (v : Value) (ls : List Nd) (w : World) (h : SlIs 6 Nd.cells w v ls) (hn : 0 ≤ n) (E : Int) (hE : Hid (E = rightE ⟨op, wd, n, k0, k1, k2⟩ ls)) :
    Calls Try.prog 51 #[.agg #[.int .i64 op, .int .i64 wd, .int .u64 n, .int .i64 k0, .int .i64 k1, .int .i64 k2], v] w fun e w' => e = .returned (.int .i64 E) ∧ Below w.heap.size w w' := by
  rw [hE.out]; exact right_any op wd n k0 k1 k2 v ls w h hn
theorem right50_anyX (op wd n k0 k1 k2 : Int) (v : Value) (ls : List Nd) (w : World) (h : SlIs 6 Nd.cells w v ls) (hn : 0 ≤ n) (hn' : n < 18446744073709551616) (hw : ∀ d ∈ ls, 0 ≤ d.w) (E : Int) (hE : Hid (E = rightE ⟨op, wd, n, k0, k1, k2⟩ ls)) :
    Calls Try.prog 50 #[.agg #[.int .i64 op, .int .i64 wd, .int .u64 n, .int .i64 k0, .int .i64 k1, .int .i64 k2], v] w fun e w' => e = .returned (.int .i64 E) ∧ Below w.heap.size w w' := by
  rw [hE.out]; exact right50_any op wd n k0 k1 k2 v ls w h hn hn' hw

set_option maxHeartbeats 1000000 in
theorem check_any (ls : List Nd) (v : Value) (w : World) (h : SlIs 6 Nd.cells w v ls) (hwf : ∀ d ∈ ls, NdWf d) :
    Calls Try.prog 49 #[v] w fun e w' => e = .returned (.tuple #[.int .i64 (tchk ls).1, .int .i64 (tchk ls).2]) ∧ Below w.heap.size w w' := by
  rcases h.cases with ⟨ao, cap, rfl, rfl⟩ | ⟨b, off, cap, rfl, hne, HR0⟩
  · go_enter Try.func49, Try.ntmps49
    (repeat (first | with_reducible refine xThenN ?_ | with_reducible refine xThenE ?_ | with_reducible refine xThenR ?_ | with_reducible refine xThenP ?_ | with_reducible refine xBlockEq ?_ | with_reducible refine xBlockNe rfl ?_ | with_reducible refine xBlockN ?_ | with_reducible refine xBlockR ?_ | with_reducible refine xBlockP ?_ | go_values | go_skip | go_guarded | go_step | go_upon | go_back | (dsimp only)))
    go_ret2
    exact ⟨rfl, by (repeat (first | with_reducible exact Below.refl _ _ | assumption | with_reducible refine below_drewN ?_ _ | with_reducible refine Below.drew ?_ | with_reducible refine Below.setRow ?_ ?_ _ | with_reducible refine Below.alloc ?_ ?_ _ | with_reducible refine Below.setCell ?_ ?_ _ | with_reducible exact Nat.le_refl _ | (focus (simp; done)) | (focus (simp; omega)) | omega))⟩
  have hcap : ls.length ≤ cap := by
    obtain ⟨_, _, e, hc, _⟩ := h
    injection e with e1 e2 e3
    omega
  have hl0 : ((ls.length : Int) == 0) = false := by
    have := List.length_pos_iff.2 hne
    simpa using hne
  have Ht : Hid (tchk ls = chk (ls.take 0) (ls.drop 0)) := Lib.hid (by unfold tchk; rw [if_neg hne]; rfl)
  have Hwf := Lib.hid hwf
  clear hwf
  go_enter Try.func49, Try.ntmps49
  (repeat (first | with_reducible refine xThenN ?_ | with_reducible refine xThenE ?_ | with_reducible refine xThenR ?_ | with_reducible refine xThenP ?_ | with_reducible refine xBlockEq ?_ | with_reducible refine xBlockNe rfl ?_ | with_reducible refine xBlockN ?_ | with_reducible refine xBlockR ?_ | with_reducible refine xBlockP ?_ | go_values | go_skip | go_guarded | go_step | go_upon | go_back | (dsimp only)))
  go_loopw [12] (fun i wr => ∃ k : Nat, k ≤ ls.length ∧ k ≤ 65536 ∧ Hid (tchk ls = chk (ls.take k) (ls.drop k)) ∧ i = .int .i64 k ∧ Below w.heap.size w wr) (fun i _ => ls.length - (intOf i).toNat)
  case atStart => exact ⟨0, by omega, by omega, Ht, rfl, Below.refl _ _⟩
  case round =>
    clear Ht
    obtain ⟨k, hk, hkM, Ht, rfl, HB⟩ := hrel
    have HR := HR0.below HB
    have hsz := HB.size
    rcases Nat.lt_or_ge k ls.length with hlt | hge
    · obtain ⟨d, hd⟩ : ∃ d, ls[k]? = some d := ⟨_, List.getElem?_eq_getElem hlt⟩
      have hi := Lib.hid hd
      have hwd := Hwf.out d (List.mem_of_getElem? hd)
      have hd0 := hwd.2.2.1.1
      have hd1 := hwd.2.2.1.2
      have hst := chk_step hd
      clear hwd hd
      obtain ⟨E, hE⟩ : ∃ E, Hid (E = rightE d (ls.take k)) := ⟨_, Lib.hid rfl⟩
      rw [← hE.out] at hst
      by_cases hM : k = 65536
      · have fM : ((k : Int) == 65536) = true := by simp; omega
        rw [if_pos hM] at hst
        have Hst := Lib.hid (Ht.out.trans hst)
        have HM := Lib.hid hM
        clear hst hM
        (repeat (first | with_reducible refine xThenN ?_ | with_reducible refine xThenE ?_ | with_reducible refine xThenR ?_ | with_reducible refine xThenP ?_ | with_reducible refine xBlockEq ?_ | with_reducible refine xBlockNe rfl ?_ | with_reducible refine xBlockN ?_ | with_reducible refine xBlockR ?_ | with_reducible refine xBlockP ?_ | ((with_reducible refine wl_id ?_); refine wl_ldNdA HR (by (repeat (first | with_reducible exact Below.refl _ _ | assumption | with_reducible refine below_drewN ?_ _ | with_reducible refine Below.drew ?_ | with_reducible refine Below.setRow ?_ ?_ _ | with_reducible refine Below.alloc ?_ ?_ _ | with_reducible refine Below.setCell ?_ ?_ _ | with_reducible exact Nat.le_refl _ | (focus (simp; done)) | (focus (simp; omega)) | omega))) k _ hi rfl _ rfl rfl ?_; simp only [Act.put, List.setIfInBounds_toArray, List.set_cons_succ, List.set_cons_zero]; (try dsimp only)) | go_values | go_skip | go_guarded | go_step | go_upon | go_back | (dsimp only)))
        go_ret2
        exact ⟨by rw [Hst.out]; simp [HM.out], by (repeat (first | with_reducible exact Below.refl _ _ | assumption | with_reducible refine below_drewN ?_ _ | with_reducible refine Below.drew ?_ | with_reducible refine Below.setRow ?_ ?_ _ | with_reducible refine Below.alloc ?_ ?_ _ | with_reducible refine Below.setCell ?_ ?_ _ | with_reducible exact Nat.le_refl _ | (focus (simp; done)) | (focus (simp; omega)) | omega))⟩
      · have fM : ((k : Int) == 65536) = false := by simp; omega
        have HM := Lib.hid hM
        rw [if_neg hM] at hst
        clear hM
        (repeat (first | with_reducible refine xThenN ?_ | with_reducible refine xThenE ?_ | with_reducible refine xThenR ?_ | with_reducible refine xThenP ?_ | with_reducible refine xBlockEq ?_ | with_reducible refine xBlockNe rfl ?_ | with_reducible refine xBlockN ?_ | with_reducible refine xBlockR ?_ | with_reducible refine xBlockP ?_ | ((with_reducible refine wl_id ?_); refine wl_ldNdA HR (by (repeat (first | with_reducible exact Below.refl _ _ | assumption | with_reducible refine below_drewN ?_ _ | with_reducible refine Below.drew ?_ | with_reducible refine Below.setRow ?_ ?_ _ | with_reducible refine Below.alloc ?_ ?_ _ | with_reducible refine Below.setCell ?_ ?_ _ | with_reducible exact Nat.le_refl _ | (focus (simp; done)) | (focus (simp; omega)) | omega))) k _ hi rfl _ rfl rfl ?_; simp only [Act.put, List.setIfInBounds_toArray, List.set_cons_succ, List.set_cons_zero]; (try dsimp only)) | go_values | go_skip | go_guarded | go_step | go_upon | go_back | (dsimp only)))
        refine wp_abs (fun u => Below w.heap.size w u ∧ RowAt 6 Nd.cells u wr.heap.size 0 [d] ∧ RowAt 6 Nd.cells u b off ls) ⟨by (repeat (first | with_reducible exact Below.refl _ _ | assumption | with_reducible refine below_drewN ?_ _ | with_reducible refine Below.drew ?_ | with_reducible refine Below.setRow ?_ ?_ _ | with_reducible refine Below.alloc ?_ ?_ _ | with_reducible refine Below.setCell ?_ ?_ _ | with_reducible exact Nat.le_refl _ | (focus (simp; done)) | (focus (simp; omega)) | omega)), ?_, HR.below (by (repeat (first | with_reducible exact Below.refl _ _ | assumption | with_reducible refine below_drewN ?_ _ | with_reducible refine Below.drew ?_ | with_reducible refine Below.setRow ?_ ?_ _ | with_reducible refine Below.alloc ?_ ?_ _ | with_reducible refine Below.setCell ?_ ?_ _ | with_reducible exact Nat.le_refl _ | (focus (simp; done)) | (focus (simp; omega)) | omega)))⟩ ?_
        · exact row6 (by simp [go_sem]) (by simp [go_sem]) (by simp [go_sem]) (by simp [go_sem]) (by simp [go_sem]) (by simp [go_sem])
        rintro w9 ⟨HB9, HX, HR9⟩
        have hS := SlIs.take HR9 hcap hk
        have hE' : Hid (E = rightE ⟨d.op, d.w, d.n, d.k0, d.k1, d.k2⟩ (ls.take k)) := hE
        have hkc : (k : Int) ≤ cap := by omega
        by_cases hz : E = 0
        · have fz : (E != 0) = false := by simp [hz]
          rw [if_neg (by simp [hz])] at hst
          have Hst := Lib.hid (Ht.out.trans hst)
          clear hst hz
          refine wp_region_cls (by kernel_rfl) (by kernel_rfl) ?_
          (repeat (first | go_big_quiet_skip | (go_big_quiet_want; first | (refine quiet_ldNd HX 0 _ rfl _ rfl rfl ?_; simp only [Act.put, List.setIfInBounds_toArray, List.set_cons_succ, List.set_cons_zero]; (try dsimp only); go_big_quiet_on) | (refine quiet_ldNdA HR k _ hi _ rfl rfl ?_; simp only [Act.put, List.setIfInBounds_toArray, List.set_cons_succ, List.set_cons_zero]; go_big_quiet_on) | (go_big_quiet_op; first | go_big_quiet_on | (refine Exists.intro _ (And.intro (fun _ _ => rfl) ?_); go_big_quiet_on) | go_big_quiet_call (((intro hC; replace hC : Below _ _ _ := hC); first | (go_at_call 51; (with_reducible refine (right_anyX _ _ _ _ _ _ _ _ _ (hS.below hC) hd0 _ hE).mono ?_); (rintro e w2 ⟨rfl, hb⟩; exact ⟨rfl, hC.trans (hb.mono hC.size)⟩)) | (go_at_call 50; (with_reducible refine (right50_anyX _ _ _ _ _ _ _ _ _ (hS.below hC) hd0 hd1 hwk.out _ hE).mono ?_); (rintro e w2 ⟨rfl, hb⟩; exact ⟨rfl, hC.trans (hb.mono hC.size)⟩))))))))
          refine wpQuiet_nil ?_
          intro w8 hb
          replace hb : Below _ _ _ := hb
          replace HB9 := HB9.trans (hb.mono HB9.size)
          clear hb
          (repeat (first | with_reducible refine xThenN ?_ | with_reducible refine xThenE ?_ | with_reducible refine xThenR ?_ | with_reducible refine xThenP ?_ | with_reducible refine xBlockEq ?_ | with_reducible refine xBlockNe rfl ?_ | with_reducible refine xBlockN ?_ | with_reducible refine xBlockR ?_ | with_reducible refine xBlockP ?_ | go_values | go_skip | go_guarded | go_step | go_upon | go_back | (dsimp only)))
          exact ⟨⟨k + 1, by omega, by have := HM.out; omega, Hst, by go_num, HB9⟩, by simp [intOf]; omega⟩
        · have fz : (E != 0) = true := by simpa using hz
          rw [if_pos hz] at hst
          have Hst := Lib.hid (Ht.out.trans hst)
          clear hst hz
          refine wp_region_cls (by kernel_rfl) (by kernel_rfl) ?_
          (repeat (first | go_big_quiet_skip | (go_big_quiet_want; first | (refine quiet_ldNd HX 0 _ rfl _ rfl rfl ?_; simp only [Act.put, List.setIfInBounds_toArray, List.set_cons_succ, List.set_cons_zero]; (try dsimp only); go_big_quiet_on) | (refine quiet_ldNdA HR k _ hi _ rfl rfl ?_; simp only [Act.put, List.setIfInBounds_toArray, List.set_cons_succ, List.set_cons_zero]; go_big_quiet_on) | (go_big_quiet_op; first | go_big_quiet_on | (refine Exists.intro _ (And.intro (fun _ _ => rfl) ?_); go_big_quiet_on) | go_big_quiet_call (((intro hC; replace hC : Below _ _ _ := hC); first | (go_at_call 51; (with_reducible refine (right_anyX _ _ _ _ _ _ _ _ _ (hS.below hC) hd0 _ hE).mono ?_); (rintro e w2 ⟨rfl, hb⟩; exact ⟨rfl, hC.trans (hb.mono hC.size)⟩)) | (go_at_call 50; (with_reducible refine (right50_anyX _ _ _ _ _ _ _ _ _ (hS.below hC) hd0 hd1 hwk.out _ hE).mono ?_); (rintro e w2 ⟨rfl, hb⟩; exact ⟨rfl, hC.trans (hb.mono hC.size)⟩))))))))
          refine wpQuiet_nil ?_
          intro w8 hb
          replace hb : Below _ _ _ := hb
          replace HB9 := HB9.trans (hb.mono HB9.size)
          clear hb
          (repeat (first | with_reducible refine xThenN ?_ | with_reducible refine xThenE ?_ | with_reducible refine xThenR ?_ | with_reducible refine xThenP ?_ | with_reducible refine xBlockEq ?_ | with_reducible refine xBlockNe rfl ?_ | with_reducible refine xBlockN ?_ | with_reducible refine xBlockR ?_ | with_reducible refine xBlockP ?_ | go_values | go_skip | go_guarded | go_step | go_upon | go_back | (dsimp only)))
          go_ret2
          exact ⟨by rw [Hst.out]; rfl, HB9⟩
    · (repeat (first | with_reducible refine xThenN ?_ | with_reducible refine xThenE ?_ | with_reducible refine xThenR ?_ | with_reducible refine xThenP ?_ | with_reducible refine xBlockEq ?_ | with_reducible refine xBlockNe rfl ?_ | with_reducible refine xBlockN ?_ | with_reducible refine xBlockR ?_ | with_reducible refine xBlockP ?_ | go_values | go_skip | go_guarded | go_step | go_upon | go_back | (dsimp only)))
      go_ret2
      exact ⟨by rw [Ht.out, List.drop_eq_nil_of_le hge]; rfl, HB⟩

theorem take_w {ls : List Nd} {k : Nat} {d : Nd} (h : ls[k]? = some d) (hw : ∀ e ∈ ls.take k, 0 ≤ e.w) (hE : rightE d (ls.take k) = 0) : ∀ e ∈ ls.take (k + 1), 0 ≤ e.w := by
  intro e he
  rw [List.take_add_one, h] at he
  simp only [Option.toList_some, List.mem_append, List.mem_singleton] at he
  rcases he with he | rfl
  · exact hw e he
  · exact right_w hE hw

set_option maxHeartbeats 1000000 in
theorem rcheck_any (ls : List Nd) (v : Value) (w : World) (h : SlIs 6 Nd.cells w v ls) (hwf : ∀ d ∈ ls, NdWf d) :
    Calls Try.prog 43 #[v] w fun e w' => e = .returned (.tuple #[.int .i64 (tchk ls).1, .int .i64 (tchk ls).2]) ∧ Below w.heap.size w w' := by
  rcases h.cases with ⟨ao, cap, rfl, rfl⟩ | ⟨b, off, cap, rfl, hne, HR0⟩
  · go_enter Try.func43, Try.ntmps43
    (repeat (first | with_reducible refine xThenN ?_ | with_reducible refine xThenE ?_ | with_reducible refine xThenR ?_ | with_reducible refine xThenP ?_ | with_reducible refine xBlockEq ?_ | with_reducible refine xBlockNe rfl ?_ | with_reducible refine xBlockN ?_ | with_reducible refine xBlockR ?_ | with_reducible refine xBlockP ?_ | go_values | go_skip | go_guarded | go_step | go_upon | go_back | (dsimp only)))
    go_ret2
    exact ⟨rfl, by (repeat (first | with_reducible exact Below.refl _ _ | assumption | with_reducible refine below_drewN ?_ _ | with_reducible refine Below.drew ?_ | with_reducible refine Below.setRow ?_ ?_ _ | with_reducible refine Below.alloc ?_ ?_ _ | with_reducible refine Below.setCell ?_ ?_ _ | with_reducible exact Nat.le_refl _ | (focus (simp; done)) | (focus (simp; omega)) | omega))⟩
  have hcap : ls.length ≤ cap := by
    obtain ⟨_, _, e, hc, _⟩ := h
    injection e with e1 e2 e3
    omega
  have hl0 : ((ls.length : Int) == 0) = false := by
    have := List.length_pos_iff.2 hne
    simpa using hne
  have Ht : Hid (tchk ls = chk (ls.take 0) (ls.drop 0)) := Lib.hid (by unfold tchk; rw [if_neg hne]; rfl)
  have Hwf := Lib.hid hwf
  clear hwf
  go_enter Try.func43, Try.ntmps43
  (repeat (first | with_reducible refine xThenN ?_ | with_reducible refine xThenE ?_ | with_reducible refine xThenR ?_ | with_reducible refine xThenP ?_ | with_reducible refine xBlockEq ?_ | with_reducible refine xBlockNe rfl ?_ | with_reducible refine xBlockN ?_ | with_reducible refine xBlockR ?_ | with_reducible refine xBlockP ?_ | go_values | go_skip | go_guarded | go_step | go_upon | go_back | (dsimp only)))
  go_loopw [4] (fun i wr => ∃ k : Nat, k ≤ ls.length ∧ k ≤ 65536 ∧ Hid (∀ d ∈ ls.take k, 0 ≤ d.w) ∧ Hid (tchk ls = chk (ls.take k) (ls.drop k)) ∧ i = .int .i64 k ∧ Below w.heap.size w wr) (fun i _ => ls.length - (intOf i).toNat)
  case atStart => exact ⟨0, by omega, by omega, Lib.hid (by simp), Ht, rfl, Below.refl _ _⟩
  case round =>
    clear Ht
    obtain ⟨k, hk, hkM, hwk, Ht, rfl, HB⟩ := hrel
    have HR := HR0.below HB
    have hsz := HB.size
    rcases Nat.lt_or_ge k ls.length with hlt | hge
    · obtain ⟨d, hd⟩ : ∃ d, ls[k]? = some d := ⟨_, List.getElem?_eq_getElem hlt⟩
      have hi := Lib.hid hd
      have hwd := Hwf.out d (List.mem_of_getElem? hd)
      have hd0 := hwd.2.2.1.1
      have hd1 := hwd.2.2.1.2
      have hst := chk_step hd
      clear hwd hd
      obtain ⟨E, hE⟩ : ∃ E, Hid (E = rightE d (ls.take k)) := ⟨_, Lib.hid rfl⟩
      rw [← hE.out] at hst
      by_cases hM : k = 65536
      · have fM : ((k : Int) == 65536) = true := by simp; omega
        rw [if_pos hM] at hst
        have Hst := Lib.hid (Ht.out.trans hst)
        have HM := Lib.hid hM
        clear hst hM
        (repeat (first | with_reducible refine xThenN ?_ | with_reducible refine xThenE ?_ | with_reducible refine xThenR ?_ | with_reducible refine xThenP ?_ | with_reducible refine xBlockEq ?_ | with_reducible refine xBlockNe rfl ?_ | with_reducible refine xBlockN ?_ | with_reducible refine xBlockR ?_ | with_reducible refine xBlockP ?_ | ((with_reducible refine wl_id ?_); refine wl_ldNdA HR (by (repeat (first | with_reducible exact Below.refl _ _ | assumption | with_reducible refine below_drewN ?_ _ | with_reducible refine Below.drew ?_ | with_reducible refine Below.setRow ?_ ?_ _ | with_reducible refine Below.alloc ?_ ?_ _ | with_reducible refine Below.setCell ?_ ?_ _ | with_reducible exact Nat.le_refl _ | (focus (simp; done)) | (focus (simp; omega)) | omega))) k _ hi rfl _ rfl rfl ?_; simp only [Act.put, List.setIfInBounds_toArray, List.set_cons_succ, List.set_cons_zero]; (try dsimp only)) | go_values | go_skip | go_guarded | go_step | go_upon | go_back | (dsimp only)))
        go_ret2
        exact ⟨by rw [Hst.out]; simp [HM.out], by (repeat (first | with_reducible exact Below.refl _ _ | assumption | with_reducible refine below_drewN ?_ _ | with_reducible refine Below.drew ?_ | with_reducible refine Below.setRow ?_ ?_ _ | with_reducible refine Below.alloc ?_ ?_ _ | with_reducible refine Below.setCell ?_ ?_ _ | with_reducible exact Nat.le_refl _ | (focus (simp; done)) | (focus (simp; omega)) | omega))⟩
      · have fM : ((k : Int) == 65536) = false := by simp; omega
        have HM := Lib.hid hM
        rw [if_neg hM] at hst
        clear hM
        (repeat (first | with_reducible refine xThenN ?_ | with_reducible refine xThenE ?_ | with_reducible refine xThenR ?_ | with_reducible refine xThenP ?_ | with_reducible refine xBlockEq ?_ | with_reducible refine xBlockNe rfl ?_ | with_reducible refine xBlockN ?_ | with_reducible refine xBlockR ?_ | with_reducible refine xBlockP ?_ | ((with_reducible refine wl_id ?_); refine wl_ldNdA HR (by (repeat (first | with_reducible exact Below.refl _ _ | assumption | with_reducible refine below_drewN ?_ _ | with_reducible refine Below.drew ?_ | with_reducible refine Below.setRow ?_ ?_ _ | with_reducible refine Below.alloc ?_ ?_ _ | with_reducible refine Below.setCell ?_ ?_ _ | with_reducible exact Nat.le_refl _ | (focus (simp; done)) | (focus (simp; omega)) | omega))) k _ hi rfl _ rfl rfl ?_; simp only [Act.put, List.setIfInBounds_toArray, List.set_cons_succ, List.set_cons_zero]; (try dsimp only)) | go_values | go_skip | go_guarded | go_step | go_upon | go_back | (dsimp only)))
        refine wp_abs (fun u => Below w.heap.size w u ∧ RowAt 6 Nd.cells u b off ls) ⟨by (repeat (first | with_reducible exact Below.refl _ _ | assumption | with_reducible refine below_drewN ?_ _ | with_reducible refine Below.drew ?_ | with_reducible refine Below.setRow ?_ ?_ _ | with_reducible refine Below.alloc ?_ ?_ _ | with_reducible refine Below.setCell ?_ ?_ _ | with_reducible exact Nat.le_refl _ | (focus (simp; done)) | (focus (simp; omega)) | omega)), HR.below (by (repeat (first | with_reducible exact Below.refl _ _ | assumption | with_reducible refine below_drewN ?_ _ | with_reducible refine Below.drew ?_ | with_reducible refine Below.setRow ?_ ?_ _ | with_reducible refine Below.alloc ?_ ?_ _ | with_reducible refine Below.setCell ?_ ?_ _ | with_reducible exact Nat.le_refl _ | (focus (simp; done)) | (focus (simp; omega)) | omega)))⟩ ?_
        rintro w9 ⟨HB9, HR9⟩
        have HR := HR9
        have hS := SlIs.take HR9 hcap hk
        have hE' : Hid (E = rightE ⟨d.op, d.w, d.n, d.k0, d.k1, d.k2⟩ (ls.take k)) := hE
        have hkc : (k : Int) ≤ cap := by omega
        by_cases hz : E = 0
        · have fz : (E != 0) = false := by simp [hz]
          rw [if_neg (by simp [hz])] at hst
          have Hst := Lib.hid (Ht.out.trans hst)
          have HZ := Lib.hid hz
          clear hst hz
          refine wp_region_cls (by kernel_rfl) (by kernel_rfl) ?_
          (repeat (first | go_big_quiet_skip | (go_big_quiet_want; first | (refine quiet_ldNd HX 0 _ rfl _ rfl rfl ?_; simp only [Act.put, List.setIfInBounds_toArray, List.set_cons_succ, List.set_cons_zero]; (try dsimp only); go_big_quiet_on) | (refine quiet_ldNdA HR k _ hi _ rfl rfl ?_; simp only [Act.put, List.setIfInBounds_toArray, List.set_cons_succ, List.set_cons_zero]; go_big_quiet_on) | (go_big_quiet_op; first | go_big_quiet_on | (refine Exists.intro _ (And.intro (fun _ _ => rfl) ?_); go_big_quiet_on) | go_big_quiet_call (((intro hC; replace hC : Below _ _ _ := hC); first | (go_at_call 51; (with_reducible refine (right_anyX _ _ _ _ _ _ _ _ _ (hS.below hC) hd0 _ hE).mono ?_); (rintro e w2 ⟨rfl, hb⟩; exact ⟨rfl, hC.trans (hb.mono hC.size)⟩)) | (go_at_call 50; (with_reducible refine (right50_anyX _ _ _ _ _ _ _ _ _ (hS.below hC) hd0 hd1 hwk.out _ hE).mono ?_); (rintro e w2 ⟨rfl, hb⟩; exact ⟨rfl, hC.trans (hb.mono hC.size)⟩))))))))
          refine wpQuiet_nil ?_
          intro w8 hb
          replace hb : Below _ _ _ := hb
          replace HB9 := HB9.trans (hb.mono HB9.size)
          clear hb
          (repeat (first | with_reducible refine xThenN ?_ | with_reducible refine xThenE ?_ | with_reducible refine xThenR ?_ | with_reducible refine xThenP ?_ | with_reducible refine xBlockEq ?_ | with_reducible refine xBlockNe rfl ?_ | with_reducible refine xBlockN ?_ | with_reducible refine xBlockR ?_ | with_reducible refine xBlockP ?_ | go_values | go_skip | go_guarded | go_step | go_upon | go_back | (dsimp only)))
          exact ⟨⟨k + 1, by omega, by have := HM.out; omega, Lib.hid (take_w hi.out hwk.out (by rw [← hE.out]; exact HZ.out)), Hst, by go_num, HB9⟩, by simp [intOf]; omega⟩
        · have fz : (E != 0) = true := by simpa using hz
          rw [if_pos hz] at hst
          have Hst := Lib.hid (Ht.out.trans hst)
          clear hst hz
          refine wp_region_cls (by kernel_rfl) (by kernel_rfl) ?_
          (repeat (first | go_big_quiet_skip | (go_big_quiet_want; first | (refine quiet_ldNd HX 0 _ rfl _ rfl rfl ?_; simp only [Act.put, List.setIfInBounds_toArray, List.set_cons_succ, List.set_cons_zero]; (try dsimp only); go_big_quiet_on) | (refine quiet_ldNdA HR k _ hi _ rfl rfl ?_; simp only [Act.put, List.setIfInBounds_toArray, List.set_cons_succ, List.set_cons_zero]; go_big_quiet_on) | (go_big_quiet_op; first | go_big_quiet_on | (refine Exists.intro _ (And.intro (fun _ _ => rfl) ?_); go_big_quiet_on) | go_big_quiet_call (((intro hC; replace hC : Below _ _ _ := hC); first | (go_at_call 51; (with_reducible refine (right_anyX _ _ _ _ _ _ _ _ _ (hS.below hC) hd0 _ hE).mono ?_); (rintro e w2 ⟨rfl, hb⟩; exact ⟨rfl, hC.trans (hb.mono hC.size)⟩)) | (go_at_call 50; (with_reducible refine (right50_anyX _ _ _ _ _ _ _ _ _ (hS.below hC) hd0 hd1 hwk.out _ hE).mono ?_); (rintro e w2 ⟨rfl, hb⟩; exact ⟨rfl, hC.trans (hb.mono hC.size)⟩))))))))
          refine wpQuiet_nil ?_
          intro w8 hb
          replace hb : Below _ _ _ := hb
          replace HB9 := HB9.trans (hb.mono HB9.size)
          clear hb
          (repeat (first | with_reducible refine xThenN ?_ | with_reducible refine xThenE ?_ | with_reducible refine xThenR ?_ | with_reducible refine xThenP ?_ | with_reducible refine xBlockEq ?_ | with_reducible refine xBlockNe rfl ?_ | with_reducible refine xBlockN ?_ | with_reducible refine xBlockR ?_ | with_reducible refine xBlockP ?_ | go_values | go_skip | go_guarded | go_step | go_upon | go_back | (dsimp only)))
          go_ret2
          exact ⟨by rw [Hst.out]; rfl, HB9⟩
    · (repeat (first | with_reducible refine xThenN ?_ | with_reducible refine xThenE ?_ | with_reducible refine xThenR ?_ | with_reducible refine xThenP ?_ | with_reducible refine xBlockEq ?_ | with_reducible refine xBlockNe rfl ?_ | with_reducible refine xBlockN ?_ | with_reducible refine xBlockR ?_ | with_reducible refine xBlockP ?_ | go_values | go_skip | go_guarded | go_step | go_upon | go_back | (dsimp only)))
      go_ret2
      exact ⟨by rw [Ht.out, List.drop_eq_nil_of_le hge]; rfl, HB⟩

end Go.Proofs.Ytcffgbmgjdhkjaa
