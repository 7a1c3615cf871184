import Derived.Test.YtmaogkgjiplckaaGI
set_option linter.unusedSimpArgs false
set_option linter.unusedVariables false
namespace Go.Proofs.Ytmaogkgjiplckaa
open Go.RowKit

theorem ZS.start {f : G → Int → Int → G × Int} {d : Nat} {g : G} {fr : List Int} {s : Nat → Bool} {xs ys : List Int} (h : GI g fr s) : ZS f d g fr s xs ys 0 g [] s := ⟨rfl, rfl, h, Step.refl _ _, Nat.le_refl _⟩

/-- one round more -/
theorem ZS.next {f : G → Int → Int → G × Int} {d : Nat} {g : G} {fr : List Int} {s : Nat → Bool} {xs ys : List Int} {k : Nat} {gk : G} {outs : List Int} {sk : Nat → Bool} (h : ZS f d g fr s xs ys k gk outs sk)
    (hx : ∀ x ∈ xs, isL g.n x) (hy : ∀ y ∈ ys, isL g.n y) {x y : Int} (ex : xs[k]? = some x) (ey : ys[k]? = some y) {r : G × Int} (hr : f gk x y = r)
    (hf : isL gk.n x → isL gk.n y → ∃ s', GI r.1 fr s' ∧ Step gk sk r.1 s' ∧ r.1.n ≤ gk.n + d) : ∃ s', ZS f d g fr s xs ys (k + 1) r.1 (outs ++ [r.2]) s' := by
  obtain ⟨s', h1, h2, h3⟩ := hf (h.st.isL (hx x (List.mem_of_getElem? ex))) (h.st.isL (hy y (List.mem_of_getElem? ey)))
  refine ⟨s', ⟨?_, by simp [h.len], h1, h.st.trans h2, by have := h.le; rw [Nat.mul_add]; omega⟩⟩
  have lx := (List.getElem?_eq_some_iff.1 ex).1
  have ly := (List.getElem?_eq_some_iff.1 ey).1
  rw [list_upto ex, list_upto ey, zipG_snoc f _ _ _ _ _ (by rw [List.length_take, List.length_take]; omega), h.eq]
  dsimp only
  rw [hr]
set_option maxRecDepth 100000 in
set_option maxHeartbeats 1000000 in
theorem choose_any {X : Nat → Prop} {base gb : Nat} {g : G} {fr : List Int} {s : Nat → Bool} (w : World) (hG : GR X base w gb g) (hba : base ≤ w.heap.size) (c : Int) (vx vy : Value) (xs ys : List Int) (hX : SlX X w vx xs) (hY : SlX X w vy ys) (hxy : ys.length = xs.length) (hn : g.n + 3 * xs.length ≤ 1048576) (hn1 : xs.length ≤ 1000000) (hc : isL g.n c) (hx : ∀ x ∈ xs, isL g.n x) (hy : ∀ y ∈ ys, isL g.n y) (hI : GI g fr s) (r : G × List Int) (hr : chooseG g c xs ys = r) :
    Calls Try.prog 41 #[.pointer (some ⟨gb, 0, none⟩), .int .i64 c, vx, vy] w (Word1 X base gb xs.length w r) := by
  obtain ⟨ax, cx, rfl⟩ := hX.shape
  obtain ⟨ay, cy, rfl⟩ := hY.shape
  have HX := Lib.hid hX
  have HY := Lib.hid hY
  have Hxy := Lib.hid hxy
  have Hn := Lib.hid hn
  have Hn1 := Lib.hid hn1
  have Hc := Lib.hid hc
  have Hx := Lib.hid hx
  have Hy := Lib.hid hy
  have HI := Lib.hid hI
  have Hr := Lib.hid hr
  have HBA := Lib.hid hba
  have HG := Lib.hid hG
  have hnb : (xs.length : Int) ≤ 1000000 := by omega
  clear hX hY hxy hn hn1 hc hx hy hI hr hba hG
  go_enter Try.func41, Try.ntmps41
  (repeat (first | (with_reducible first | refine xA ?_ | refine xB ?_ | refine xC ?_ | refine xD ?_ | refine xH ?_ | refine xI rfl ?_ | refine xE ?_ | refine xF ?_ | refine xG ?_) | go_skip | go_guarded | (at_make; refine wl_make_own rfl _ _ rfl xs.length rfl rfl Hn1.out ?_; intro w1 hO hg; (try simp only [Act.put, List.setIfInBounds_toArray, List.set_cons_succ, List.set_cons_zero])) | go_values | go_skip | go_guarded | go_step | go_upon | go_back | ((with_reducible show Oper.upon _ _ _ _ _ _); go_simp) | (dsimp only)))
  have hG1 := HG.out.owned hg (Nat.le_refl _) hO.lt
  have hK1 : Kept X w w1 := ⟨hg.os, hg.tape, hg.output, hg.size, fun i hi _ => hg.block i hi (by simp)⟩
  have hO1 : OwnI w1 w.heap.size xs.length (filled [] xs.length) := by simpa [filled] using hO
  clear hO hg
  go_loopw [16] (fun i wr => ∃ (k : Nat) (gk : G) (outs : List Int) (sk : Nat → Bool), k ≤ xs.length ∧ i = .int .i64 k ∧ Hid (ZS (fun g x y => choice g c x y) 3 g fr s xs ys k gk outs sk) ∧ OwnI wr w.heap.size xs.length (filled outs xs.length) ∧ GR (fun k => X k ∨ k = w.heap.size) base wr gb gk ∧ Kept X w wr) (fun i _ => xs.length - (intOf i).toNat)
  case atStart => exact ⟨0, g, [], s, Nat.zero_le _, rfl, Lib.hid (ZS.start HI.out), hO1, hG1, hK1⟩
  case round =>
    clear hO1 hG1 hK1
    obtain ⟨k, gk, outs, sk, hk, rfl, hZ, hO, hG, hK⟩ := hrel
    rcases Nat.lt_or_ge k xs.length with hlt | hge
    · obtain ⟨bx, ox, rfl, xbx, lbx, cbx, HRx⟩ := HX.out.row (by omega)
      obtain ⟨by', oy, rfl, xby, lby, cby, HRy⟩ := HY.out.row (by have := Hxy.out; omega)
      obtain ⟨x, hx⟩ : ∃ x, xs[k]? = some x := ⟨_, List.getElem?_eq_getElem hlt⟩
      obtain ⟨y, hy⟩ : ∃ y, ys[k]? = some y := ⟨_, List.getElem?_eq_getElem (by have := Hxy.out; omega)⟩
      have hcx := hK.cell (HRx k x hx) xbx
      have hcy := hK.cell (HRy k y hy) xby
      have Hxk := Lib.hid hx
      have Hyk := Lib.hid hy
      have hyl : ys.length = xs.length := Hxy.out
      have i0 : (0 : Int) ≤ (k : Int) := by omega
      have i1 : (k : Int) < (xs.length : Int) := by omega
      have i2 : (k : Int) < (ys.length : Int) := by omega
      have HO := Lib.hid hO
      have HCx := Lib.hid hcx
      have HCy := Lib.hid hcy
      clear hx hy HRx HRy hO hcx hcy hyl
      (repeat (first | (with_reducible first | refine xA ?_ | refine xB ?_ | refine xC ?_ | refine xD ?_ | refine xH ?_ | refine xI rfl ?_ | refine xE ?_ | refine xF ?_ | refine xG ?_) | go_values | go_skip | go_guarded | go_step | go_upon | go_back | ((with_reducible show Oper.upon _ _ _ _ _ _); go_simp) | (dsimp only)))
      refine wp_region_held (S := fun u => u.cell? ⟨bx, ox + k, none⟩ = some (.int .i64 x) ∧ u.cell? ⟨by', oy + k, none⟩ = some (.int .i64 y)) (by kernel_rfl) ?_
      have HS : (({ wr with drawn := wr.drawn + 1 } : World)).cell? ⟨bx, ox + k, none⟩ = some (.int .i64 x) ∧ (({ wr with drawn := wr.drawn + 1 } : World)).cell? ⟨by', oy + k, none⟩ = some (.int .i64 y) := ⟨HCx.out, HCy.out⟩
      have hO : OwnI ({ wr with drawn := wr.drawn + 1 } : World) w.heap.size xs.length (filled outs xs.length) := HO.out
      replace hG : GR _ base ({ wr with drawn := wr.drawn + 1 } : World) gb gk := hG.same ⟨rfl, rfl, rfl, Nat.le_refl _, fun _ _ _ => rfl⟩
      replace hK : Kept X w ({ wr with drawn := wr.drawn + 1 } : World) := hK.drew 1
      clear HO HCx HCy
      generalize ({ wr with drawn := wr.drawn + 1 } : World) = u0 at *
      refine wpAnyH_take (i := 0) (v := .slice (some ⟨w.heap.size, 0, none⟩) xs.length xs.length) rfl (by kernel_rfl) (by kernel_rfl) (by kernel_rfl) (fun _ _ _ h => h) (Or.inl ⟨rfl, fun w _ => by go_simp⟩) HS ?_; simp only [Act.put, List.getElem_toArray, List.getElem_cons_zero, List.getElem_cons_succ, List.setIfInBounds_toArray, List.set_cons_succ, List.set_cons_zero]
      refine wpAnyH_take (i := 1) (v := .int .i64 k) rfl (by kernel_rfl) (by kernel_rfl) (by kernel_rfl) (fun _ _ _ h => h) (Or.inl ⟨rfl, fun w _ => by go_simp⟩) HS ?_; simp only [Act.put, List.getElem_toArray, List.getElem_cons_zero, List.getElem_cons_succ, List.setIfInBounds_toArray, List.set_cons_succ, List.set_cons_zero]
      refine wpAnyH_take (i := 2) (v := .pointer (some ⟨gb, 0, none⟩)) rfl (by kernel_rfl) (by kernel_rfl) (by kernel_rfl) (fun _ _ _ h => h) (Or.inl ⟨rfl, fun w _ => by go_simp⟩) HS ?_; simp only [Act.put, List.getElem_toArray, List.getElem_cons_zero, List.getElem_cons_succ, List.setIfInBounds_toArray, List.set_cons_succ, List.set_cons_zero]
      refine wpAnyH_take (i := 3) (v := .int .i64 c) rfl (by kernel_rfl) (by kernel_rfl) (by kernel_rfl) (fun _ _ _ h => h) (Or.inl ⟨rfl, fun w _ => by go_simp⟩) HS ?_; simp only [Act.put, List.getElem_toArray, List.getElem_cons_zero, List.getElem_cons_succ, List.setIfInBounds_toArray, List.set_cons_succ, List.set_cons_zero]
      refine wpAnyH_take (i := 4) (v := .slice (some ⟨bx, ox, none⟩) xs.length cx) rfl (by kernel_rfl) (by kernel_rfl) (by kernel_rfl) (fun _ _ _ h => h) (Or.inl ⟨rfl, fun w _ => by go_simp⟩) HS ?_; simp only [Act.put, List.getElem_toArray, List.getElem_cons_zero, List.getElem_cons_succ, List.setIfInBounds_toArray, List.set_cons_succ, List.set_cons_zero]
      refine wpAnyH_take (i := 5) (v := .int .i64 k) rfl (by kernel_rfl) (by kernel_rfl) (by kernel_rfl) (fun _ _ _ h => h) (Or.inl ⟨rfl, fun w _ => by go_simp⟩) HS ?_; simp only [Act.put, List.getElem_toArray, List.getElem_cons_zero, List.getElem_cons_succ, List.setIfInBounds_toArray, List.set_cons_succ, List.set_cons_zero]
      refine wpAnyH_take (i := 6) (v := .pointer (some ⟨bx, ox + k, none⟩)) rfl (by kernel_rfl) (by kernel_rfl) (by kernel_rfl) (fun _ _ _ h => h) (Or.inl ⟨rfl, fun w _ => by go_simp⟩) HS ?_; simp only [Act.put, List.getElem_toArray, List.getElem_cons_zero, List.getElem_cons_succ, List.setIfInBounds_toArray, List.set_cons_succ, List.set_cons_zero]
      refine wpAnyH_take (i := 7) (v := .int .i64 x) rfl (by kernel_rfl) (by kernel_rfl) (by kernel_rfl) (fun _ _ _ h => h) (Or.inl ⟨rfl, fun w hw => by have hx := hw.1; go_simp⟩) HS ?_
      simp only [Act.put, List.getElem_toArray, List.getElem_cons_zero, List.getElem_cons_succ, List.setIfInBounds_toArray, List.set_cons_succ, List.set_cons_zero]
      refine wpAnyH_take (i := 8) (v := .slice (some ⟨by', oy, none⟩) ys.length cy) rfl (by kernel_rfl) (by kernel_rfl) (by kernel_rfl) (fun _ _ _ h => h) (Or.inl ⟨rfl, fun w _ => by go_simp⟩) HS ?_; simp only [Act.put, List.getElem_toArray, List.getElem_cons_zero, List.getElem_cons_succ, List.setIfInBounds_toArray, List.set_cons_succ, List.set_cons_zero]
      refine wpAnyH_take (i := 9) (v := .int .i64 k) rfl (by kernel_rfl) (by kernel_rfl) (by kernel_rfl) (fun _ _ _ h => h) (Or.inl ⟨rfl, fun w _ => by go_simp⟩) HS ?_; simp only [Act.put, List.getElem_toArray, List.getElem_cons_zero, List.getElem_cons_succ, List.setIfInBounds_toArray, List.set_cons_succ, List.set_cons_zero]
      refine wpAnyH_take (i := 10) (v := .pointer (some ⟨by', oy + k, none⟩)) rfl (by kernel_rfl) (by kernel_rfl) (by kernel_rfl) (fun _ _ _ h => h) (Or.inl ⟨rfl, fun w _ => by go_simp⟩) HS ?_; simp only [Act.put, List.getElem_toArray, List.getElem_cons_zero, List.getElem_cons_succ, List.setIfInBounds_toArray, List.set_cons_succ, List.set_cons_zero]
      refine wpAnyH_take (i := 11) (v := .int .i64 y) rfl (by kernel_rfl) (by kernel_rfl) (by kernel_rfl) (fun _ _ _ h => h) (Or.inl ⟨rfl, fun w hw => by have hx := hw.2; go_simp⟩) HS ?_
      simp only [Act.put, List.getElem_toArray, List.getElem_cons_zero, List.getElem_cons_succ, List.setIfInBounds_toArray, List.set_cons_succ, List.set_cons_zero]
      refine wpAnyH_all (rs := [12]) (by kernel_rfl) (by simp) (fun i hi => ?_)
      obtain rfl : i = 12 := by simpa using hi
      refine wpOp_one rfl ?_
      obtain ⟨rk, hrk⟩ : ∃ rk, Hid (choice gk c x y = rk) := ⟨_, Lib.hid rfl⟩
      have hgk : gk.n ≤ g.n + 3 * k := hZ.out.le
      have hn3 := Lib.hid (show gk.n + 3 ≤ 1048576 by have := Hn.out; omega)
      have hst := hZ.out.st
      have hc1 := Lib.hid (hst.isL Hc.out)
      have hx1 := Lib.hid (hst.isL (Hx.out x (List.mem_of_getElem? Hxk.out)))
      have hy1 := Lib.hid (hst.isL (Hy.out y (List.mem_of_getElem? Hyk.out)))
      have hI1 := Lib.hid hZ.out.gi
      have hba1 : base ≤ u0.heap.size := Nat.le_trans HBA.out hK.size
      clear hst hgk
      (repeat (first | (with_reducible first | refine xA ?_ | refine xB ?_ | refine xC ?_ | refine xD ?_ | refine xH ?_ | refine xI rfl ?_ | refine xE ?_ | refine xF ?_ | refine xG ?_) | go_skip | go_guarded | (go_at_call 75; (with_reducible refine (choice_any _ hG hn3 hba1 _ _ _ hc1 hx1 hy1 hI1 rk hrk).mono ?_); rintro _ w2 ⟨rfl, hG2, hk2⟩) | go_values | go_skip | go_guarded | go_step | go_upon | go_back | ((with_reducible show Oper.upon _ _ _ _ _ _); go_simp) | (dsimp only)))
      have hO2 := hO.kept hk2 (.inr rfl)
      have hS2 : w2.cell? ⟨bx, ox + k, none⟩ = some (.int .i64 x) ∧ w2.cell? ⟨by', oy + k, none⟩ = some (.int .i64 y) := ⟨hk2.cell HS.1 (.inl xbx), hk2.cell HS.2 (.inl xby)⟩
      have hK2 := hK.trans (hk2.mono fun k _ hx => .inl hx)
      clear HS
      have HS := hS2
      clear hS2 hG hO hK hk2 hn3 hc1 hx1 hy1 hba1
      refine ⟨HS, ?_⟩
      refine wpAnyH_take (i := 13) (v := .pointer (some ⟨w.heap.size, k, none⟩)) rfl (by kernel_rfl) (by kernel_rfl) (by kernel_rfl) (fun _ _ _ h => h) (Or.inl ⟨rfl, fun w _ => by go_simp⟩) HS ?_; simp only [Act.put, List.getElem_toArray, List.getElem_cons_zero, List.getElem_cons_succ, List.setIfInBounds_toArray, List.set_cons_succ, List.set_cons_zero]
      refine wpAnyH_all (rs := [14]) (by kernel_rfl) (by simp) (fun i hi => ?_)
      obtain rfl : i = 14 := by simpa using hi
      refine wpOp_one rfl ?_
      (repeat (first | (with_reducible first | refine xA ?_ | refine xB ?_ | refine xC ?_ | refine xD ?_ | refine xH ?_ | refine xI rfl ?_ | refine xE ?_ | refine xF ?_ | refine xG ?_) | go_skip | go_guarded | ((with_reducible refine wl_id ?_); refine wl_store_own rfl _ _ rfl w.heap.size xs.length _ k rfl rk.2 rfl hO2 hlt ?_; intro w3 hO3 hg3; (try simp only [Act.put, List.setIfInBounds_toArray, List.set_cons_succ, List.set_cons_zero])) | go_values | go_skip | go_guarded | go_step | go_upon | go_back | ((with_reducible show Oper.upon _ _ _ _ _ _); go_simp) | (dsimp only)))
      have hK3 := hK2.owned hg3 (Nat.le_refl _)
      have hG3 := hG2.other hg3 (.inr rfl)
      have hk23 : Kept (fun i => i ≠ w.heap.size) w2 w3 := ⟨hg3.os, hg3.tape, hg3.output, hg3.size, fun i hi hx => hg3.block i hi (fun e => hx (by injection e))⟩
      refine ⟨⟨hk23.cell HS.1 (by show bx ≠ _; omega), hk23.cell HS.2 (by show by' ≠ _; omega)⟩, ?_⟩
      refine wpAnyH_done (by kernel_rfl) ?_ _
      have hzl := hZ.out.len
      rw [← hzl, filled_set (by omega)] at hO3
      obtain ⟨s2, hZ2⟩ := hZ.out.next Hx.out Hy.out Hxk.out Hyk.out hrk.out (fun a b => by
        obtain ⟨s', q1, q2, q3, _⟩ := choice_ok hZ.out.gi (hZ.out.st.isL Hc.out) a b
        rw [hrk.out] at q1 q2 q3
        exact ⟨s', q1, q2, q3⟩)
      have HZ2 := Lib.hid hZ2
      clear hZ2
      clear HS hO2 hG2 hK2 hg3 hk23
      (repeat (first | (with_reducible first | refine xA ?_ | refine xB ?_ | refine xC ?_ | refine xD ?_ | refine xH ?_ | refine xI rfl ?_ | refine xE ?_ | refine xF ?_ | refine xG ?_) | go_values | go_skip | go_guarded | go_step | go_upon | go_back | ((with_reducible show Oper.upon _ _ _ _ _ _); go_simp) | (dsimp only)))
      exact ⟨⟨k + 1, rk.1, outs ++ [rk.2], _, by omega, by go_num, HZ2, hO3, hG3, hK3⟩, by simp [intOf]; omega⟩
    · obtain rfl : k = xs.length := by omega
      have hz := hZ.out
      have e1 := hz.eq
      rw [List.take_of_length_le (Nat.le_refl _), List.take_of_length_le (Nat.le_of_eq Hxy.out)] at e1
      have hR : Hid (r = (gk, outs)) := Lib.hid (by rw [← Hr.out]; exact e1)
      rw [filled_full hz.len] at hO
      clear hz e1
      (repeat (first | (with_reducible first | refine xA ?_ | refine xB ?_ | refine xC ?_ | refine xD ?_ | refine xH ?_ | refine xI rfl ?_ | refine xE ?_ | refine xF ?_ | refine xG ?_) | go_values | go_skip | go_guarded | go_step | go_upon | go_back | ((with_reducible show Oper.upon _ _ _ _ _ _); go_simp) | (dsimp only)))
      go_ret
      rw [hR.out]
      exact ⟨_, rfl, hO, Nat.le_refl _, hG, hK⟩

end Go.Proofs.Ytmaogkgjiplckaa
