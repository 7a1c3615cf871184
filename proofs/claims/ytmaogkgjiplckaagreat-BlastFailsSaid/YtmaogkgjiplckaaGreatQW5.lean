import Derived.Test.YtmaogkgjiplckaaGreatQW4
import Derived.Test.YtmaogkgjiplckaaGreatQW3
set_option linter.unusedVariables false
set_option linter.unusedSimpArgs false
namespace Go.Proofs.YtmaogkgjiplckaaGreat
open Go.RowKit
set_option maxRecDepth 100000 in
set_option maxHeartbeats 1000000 in
theorem bits_both_any {X : Nat → Prop} {base gb : Nat} {g : G} {fr : List Int} {s : Nat → Bool} (w : World) (hG : GR X base w gb g) (hba : base ≤ w.heap.size) (vx vy : Value) (xs ys : List Int) (hX : SlX X w vx xs) (hY : SlX X w vy ys) (hxy : ys.length = xs.length) (hn : g.n + xs.length ≤ 1048576) (hn1 : xs.length ≤ 1000000) (hx : ∀ x ∈ xs, isL g.n x) (hy : ∀ y ∈ ys, isL g.n y) (hI : GI g fr s) (r : G × List Int) (hr : zipG both g xs ys = r) :
    Calls Tryz.prog 111 #[vx, vy, .func (.func 112) #[.pointer (some ⟨gb, 0, none⟩)] #[]] w (Word1 X base gb xs.length w r) := by
  obtain ⟨ax, cx, rfl⟩ := hX.shape
  obtain ⟨ay, cy, rfl⟩ := hY.shape
  have HX := Lib.hid hX
  have HY := Lib.hid hY
  have Hxy := Lib.hid hxy
  have Hn := Lib.hid hn
  have Hn1 := Lib.hid hn1
  have Hx := Lib.hid hx
  have Hy := Lib.hid hy
  have HI := Lib.hid hI
  have Hr := Lib.hid hr
  have HBA := Lib.hid hba
  have HG := Lib.hid hG
  have hnb : (xs.length : Int) ≤ 1000000 := by omega
  clear hX hY hxy hn hn1 hx hy hI hr hba hG
  go_enter Tryz.func111, Tryz.ntmps111
  (repeat (first | (with_reducible first | refine xA ?_ | refine xB ?_ | refine xC ?_ | refine xD ?_ | refine xH ?_ | refine xI rfl ?_ | refine xE ?_ | refine xF ?_ | refine xG ?_) | go_skip | go_guarded | (at_make; refine wl_make_own rfl _ _ rfl xs.length rfl rfl Hn1.out ?_; intro w1 hO hg; (try simp only [Act.put, qz4, qz5, qz6])) | go_values | go_skip | go_guarded | go_step | go_upon | go_back | ((with_reducible show Oper.upon _ _ _ _ _ _); go_simp) | (dsimp only)))
  have hG1 := HG.out.owned hg (Nat.le_refl _) hO.lt
  have hK1 : Kept X w w1 := ⟨hg.os, hg.tape, hg.output, hg.size, fun i hi _ => hg.block i hi (by simp)⟩
  have hO1 : OwnI w1 w.heap.size xs.length (filled [] xs.length) := by simpa [filled] using hO
  clear hO hg
  go_loopw [14] (fun i wr => ∃ (k : Nat) (gk : G) (outs : List Int) (sk : Nat → Bool), k ≤ xs.length ∧ i = .int .i64 k ∧ Hid (ZS both 1 g fr s xs ys k gk outs sk) ∧ OwnI wr w.heap.size xs.length (filled outs xs.length) ∧ GR (fun k => X k ∨ k = w.heap.size) base wr gb gk ∧ Kept X w wr) (fun i _ => xs.length - (intOf i).toNat)
  case atStart => exact ⟨0, g, [], s, Nat.zero_le _, rfl, Lib.hid (ZS.start HI.out), hO1, hG1, hK1⟩
  case round =>
    clear hO1 hG1 hK1
    obtain ⟨k, gk, outs, sk, hk, rfl, hZ, hO, hG, hK⟩ := hrel
    rcases Nat.lt_or_ge k xs.length with hlt | hge
    · obtain ⟨bx, ox, rfl, xbx, lbx, cbx, HRx⟩ := HX.out.row (by omega)
      obtain ⟨by', oy, rfl, xby, lby, cby, HRy⟩ := HY.out.row (by have := Hxy.out; omega)
      obtain ⟨x, hx⟩ : ∃ x, xs[k]? = some x := ⟨_, List.getElem?_eq_getElem hlt⟩
      obtain ⟨y, hy⟩ : ∃ y, ys[k]? = some y := ⟨_, List.getElem?_eq_getElem (by have := Hxy.out; omega)⟩
      have hcx := hK.cell (HRx k x hx) xbx
      have hcy := hK.cell (HRy k y hy) xby
      have Hxk := Lib.hid hx
      have Hyk := Lib.hid hy
      have hyl : ys.length = xs.length := Hxy.out
      have i0 : (0 : Int) ≤ (k : Int) := by omega
      have i1 : (k : Int) < (xs.length : Int) := by omega
      have i2 : (k : Int) < (ys.length : Int) := by omega
      have HO := Lib.hid hO
      have HCx := Lib.hid hcx
      have HCy := Lib.hid hcy
      clear hx hy HRx HRy hO hcx hcy hyl
      (repeat (first | (with_reducible first | refine xA ?_ | refine xB ?_ | refine xC ?_ | refine xD ?_ | refine xH ?_ | refine xI rfl ?_ | refine xE ?_ | refine xF ?_ | refine xG ?_) | go_values | go_skip | go_guarded | go_step | go_upon | go_back | ((with_reducible show Oper.upon _ _ _ _ _ _); go_simp) | (dsimp only)))
      refine wp_region_held (S := fun u => u.cell? ⟨bx, ox + k, none⟩ = some (.int .i64 x) ∧ u.cell? ⟨by', oy + k, none⟩ = some (.int .i64 y)) (by kernel_rfl) ?_
      have HS : (({ wr with drawn := wr.drawn + 1 } : World)).cell? ⟨bx, ox + k, none⟩ = some (.int .i64 x) ∧ (({ wr with drawn := wr.drawn + 1 } : World)).cell? ⟨by', oy + k, none⟩ = some (.int .i64 y) := ⟨HCx.out, HCy.out⟩
      have hO : OwnI ({ wr with drawn := wr.drawn + 1 } : World) w.heap.size xs.length (filled outs xs.length) := HO.out
      replace hG : GR _ base ({ wr with drawn := wr.drawn + 1 } : World) gb gk := hG.same ⟨rfl, rfl, rfl, Nat.le_refl _, fun _ _ _ => rfl⟩
      replace hK : Kept X w ({ wr with drawn := wr.drawn + 1 } : World) := hK.drew 1
      clear HO HCx HCy
      generalize ({ wr with drawn := wr.drawn + 1 } : World) = u0 at *
      refine wpAnyH_take (i := 0) (v := .slice (some ⟨w.heap.size, 0, none⟩) xs.length xs.length) rfl (by kernel_rfl) (by kernel_rfl) (by kernel_rfl) (fun _ _ _ h => h) (Or.inl ⟨rfl, fun w _ => by go_simp⟩) HS ?_; simp only [Act.put, qz1, qz2, qz3, qz4, qz5, qz6]
      refine wpAnyH_take (i := 1) (v := .int .i64 k) rfl (by kernel_rfl) (by kernel_rfl) (by kernel_rfl) (fun _ _ _ h => h) (Or.inl ⟨rfl, fun w _ => by go_simp⟩) HS ?_; simp only [Act.put, qz1, qz2, qz3, qz4, qz5, qz6]
      refine wpAnyH_take (i := 2) (v := .func (.func 112) #[.pointer (some ⟨gb, 0, none⟩)] #[]) rfl (by kernel_rfl) (by kernel_rfl) (by kernel_rfl) (fun _ _ _ h => h) (Or.inl ⟨rfl, fun w _ => by go_simp⟩) HS ?_; simp only [Act.put, qz1, qz2, qz3, qz4, qz5, qz6]
      refine wpAnyH_take (i := 3) (v := .slice (some ⟨bx, ox, none⟩) xs.length cx) rfl (by kernel_rfl) (by kernel_rfl) (by kernel_rfl) (fun _ _ _ h => h) (Or.inl ⟨rfl, fun w _ => by go_simp⟩) HS ?_; simp only [Act.put, qz1, qz2, qz3, qz4, qz5, qz6]
      refine wpAnyH_take (i := 4) (v := .int .i64 k) rfl (by kernel_rfl) (by kernel_rfl) (by kernel_rfl) (fun _ _ _ h => h) (Or.inl ⟨rfl, fun w _ => by go_simp⟩) HS ?_; simp only [Act.put, qz1, qz2, qz3, qz4, qz5, qz6]
      refine wpAnyH_take (i := 5) (v := .pointer (some ⟨bx, ox + k, none⟩)) rfl (by kernel_rfl) (by kernel_rfl) (by kernel_rfl) (fun _ _ _ h => h) (Or.inl ⟨rfl, fun w _ => by go_simp⟩) HS ?_; simp only [Act.put, qz1, qz2, qz3, qz4, qz5, qz6]
      refine wpAnyH_take (i := 6) (v := .int .i64 x) rfl (by kernel_rfl) (by kernel_rfl) (by kernel_rfl) (fun _ _ _ h => h) (Or.inl ⟨rfl, fun w hw => by have hx := hw.1; go_simp⟩) HS ?_
      simp only [Act.put, qz1, qz2, qz3, qz4, qz5, qz6]
      refine wpAnyH_take (i := 7) (v := .slice (some ⟨by', oy, none⟩) ys.length cy) rfl (by kernel_rfl) (by kernel_rfl) (by kernel_rfl) (fun _ _ _ h => h) (Or.inl ⟨rfl, fun w _ => by go_simp⟩) HS ?_; simp only [Act.put, qz1, qz2, qz3, qz4, qz5, qz6]
      refine wpAnyH_take (i := 8) (v := .int .i64 k) rfl (by kernel_rfl) (by kernel_rfl) (by kernel_rfl) (fun _ _ _ h => h) (Or.inl ⟨rfl, fun w _ => by go_simp⟩) HS ?_; simp only [Act.put, qz1, qz2, qz3, qz4, qz5, qz6]
      refine wpAnyH_take (i := 9) (v := .pointer (some ⟨by', oy + k, none⟩)) rfl (by kernel_rfl) (by kernel_rfl) (by kernel_rfl) (fun _ _ _ h => h) (Or.inl ⟨rfl, fun w _ => by go_simp⟩) HS ?_; simp only [Act.put, qz1, qz2, qz3, qz4, qz5, qz6]
      refine wpAnyH_take (i := 10) (v := .int .i64 y) rfl (by kernel_rfl) (by kernel_rfl) (by kernel_rfl) (fun _ _ _ h => h) (Or.inl ⟨rfl, fun w hw => by have hx := hw.2; go_simp⟩) HS ?_
      simp only [Act.put, qz1, qz2, qz3, qz4, qz5, qz6]
      refine wpAnyH_all (rs := [11]) (by kernel_rfl) (by simp) (fun i hi => ?_)
      obtain rfl : i = 11 := by simpa using hi
      refine wpOp_one rfl ?_
      obtain ⟨rk, hrk⟩ : ∃ rk, Hid (both gk x y = rk) := ⟨_, Lib.hid rfl⟩
      have hgk : gk.n ≤ g.n + 1 * k := hZ.out.le
      have hn3 := Lib.hid (show gk.n < 1048576 by have := Hn.out; omega)
      have hst := hZ.out.st
      have hx1 := Lib.hid (hst.isL (Hx.out x (List.mem_of_getElem? Hxk.out)))
      have hy1 := Lib.hid (hst.isL (Hy.out y (List.mem_of_getElem? Hyk.out)))
      have hI1 := Lib.hid hZ.out.gi
      have hxo := Lib.hid fun e he => (hI1.out.xo e he).2.2.1
      have hba1 : base ≤ u0.heap.size := Nat.le_trans HBA.out hK.size
      clear hst hgk
      (repeat (first | (with_reducible first | refine xA ?_ | refine xB ?_ | refine xC ?_ | refine xD ?_ | refine xH ?_ | refine xI rfl ?_ | refine xE ?_ | refine xF ?_ | refine xG ?_) | go_skip | go_guarded | (go_at_call 112; (with_reducible refine (both_any _ hG hn3 hba1 _ _ hx1 hy1 rk hrk).mono ?_); rintro _ w2 ⟨rfl, hG2, hk2⟩) | go_values | go_skip | go_guarded | go_step | go_upon | go_back | ((with_reducible show Oper.upon _ _ _ _ _ _); go_simp) | (dsimp only)))
      have hO2 := hO.kept hk2 (.inr rfl)
      have hS2 : w2.cell? ⟨bx, ox + k, none⟩ = some (.int .i64 x) ∧ w2.cell? ⟨by', oy + k, none⟩ = some (.int .i64 y) := ⟨hk2.cell HS.1 (.inl xbx), hk2.cell HS.2 (.inl xby)⟩
      have hK2 := hK.trans (hk2.mono fun k _ hx => .inl hx)
      clear HS
      have HS := hS2
      clear hS2 hG hO hK hk2 hn3 hx1 hy1 hba1
      refine ⟨HS, ?_⟩
      refine wpAnyH_take (i := 12) (v := .pointer (some ⟨w.heap.size, k, none⟩)) rfl (by kernel_rfl) (by kernel_rfl) (by kernel_rfl) (fun _ _ _ h => h) (Or.inl ⟨rfl, fun w _ => by go_simp⟩) HS ?_; simp only [Act.put, qz1, qz2, qz3, qz4, qz5, qz6]
      refine wpAnyH_all (rs := [13]) (by kernel_rfl) (by simp) (fun i hi => ?_)
      obtain rfl : i = 13 := by simpa using hi
      refine wpOp_one rfl ?_
      (repeat (first | (with_reducible first | refine xA ?_ | refine xB ?_ | refine xC ?_ | refine xD ?_ | refine xH ?_ | refine xI rfl ?_ | refine xE ?_ | refine xF ?_ | refine xG ?_) | go_skip | go_guarded | ((with_reducible refine wl_id ?_); refine wl_store_own rfl _ _ rfl w.heap.size xs.length _ k rfl rk.2 rfl hO2 hlt ?_; intro w3 hO3 hg3; (try simp only [Act.put, qz4, qz5, qz6])) | go_values | go_skip | go_guarded | go_step | go_upon | go_back | ((with_reducible show Oper.upon _ _ _ _ _ _); go_simp) | (dsimp only)))
      have hK3 := hK2.owned hg3 (Nat.le_refl _)
      have hG3 := hG2.other hg3 (.inr rfl)
      have hk23 : Kept (fun i => i ≠ w.heap.size) w2 w3 := ⟨hg3.os, hg3.tape, hg3.output, hg3.size, fun i hi hx => hg3.block i hi (fun e => hx (by injection e))⟩
      refine ⟨⟨hk23.cell HS.1 (by show bx ≠ _; omega), hk23.cell HS.2 (by show by' ≠ _; omega)⟩, ?_⟩
      refine wpAnyH_done (by kernel_rfl) ?_ _
      have hzl := hZ.out.len
      rw [← hzl, filled_set (by omega)] at hO3
      obtain ⟨s2, hZ2⟩ := hZ.out.next Hx.out Hy.out Hxk.out Hyk.out hrk.out (fun a b => by
        obtain ⟨s', q1, q2, q3, _⟩ := both_ok hZ.out.gi a b
        rw [hrk.out] at q1 q2 q3
        exact ⟨s', q1, q2, q3⟩)
      have HZ2 := Lib.hid hZ2
      clear hZ2
      clear HS hO2 hG2 hK2 hg3 hk23
      (repeat (first | (with_reducible first | refine xA ?_ | refine xB ?_ | refine xC ?_ | refine xD ?_ | refine xH ?_ | refine xI rfl ?_ | refine xE ?_ | refine xF ?_ | refine xG ?_) | go_values | go_skip | go_guarded | go_step | go_upon | go_back | ((with_reducible show Oper.upon _ _ _ _ _ _); go_simp) | (dsimp only)))
      exact ⟨⟨k + 1, rk.1, outs ++ [rk.2], _, by omega, by go_num, HZ2, hO3, hG3, hK3⟩, by simp [intOf]; omega⟩
    · obtain rfl : k = xs.length := by omega
      have hz := hZ.out
      have e1 := hz.eq
      rw [List.take_of_length_le (Nat.le_refl _), List.take_of_length_le (Nat.le_of_eq Hxy.out)] at e1
      have hR : Hid (r = (gk, outs)) := Lib.hid (by rw [← Hr.out]; exact e1)
      rw [filled_full hz.len] at hO
      clear hz e1
      (repeat (first | (with_reducible first | refine xA ?_ | refine xB ?_ | refine xC ?_ | refine xD ?_ | refine xH ?_ | refine xI rfl ?_ | refine xE ?_ | refine xF ?_ | refine xG ?_) | go_values | go_skip | go_guarded | go_step | go_upon | go_back | ((with_reducible show Oper.upon _ _ _ _ _ _); go_simp) | (dsimp only)))
      go_ret
      rw [hR.out]
      exact ⟨_, rfl, hO, Nat.le_refl _, hG, hK⟩
set_option maxRecDepth 100000 in
set_option maxHeartbeats 1000000 in
theorem bits_either_any {X : Nat → Prop} {base gb : Nat} {g : G} {fr : List Int} {s : Nat → Bool} (w : World) (hG : GR X base w gb g) (hba : base ≤ w.heap.size) (vx vy : Value) (xs ys : List Int) (hX : SlX X w vx xs) (hY : SlX X w vy ys) (hxy : ys.length = xs.length) (hn : g.n + xs.length ≤ 1048576) (hn1 : xs.length ≤ 1000000) (hx : ∀ x ∈ xs, isL g.n x) (hy : ∀ y ∈ ys, isL g.n y) (hI : GI g fr s) (r : G × List Int) (hr : zipG either g xs ys = r) :
    Calls Tryz.prog 111 #[vx, vy, .func (.func 113) #[.pointer (some ⟨gb, 0, none⟩)] #[]] w (Word1 X base gb xs.length w r) := by
  obtain ⟨ax, cx, rfl⟩ := hX.shape
  obtain ⟨ay, cy, rfl⟩ := hY.shape
  have HX := Lib.hid hX
  have HY := Lib.hid hY
  have Hxy := Lib.hid hxy
  have Hn := Lib.hid hn
  have Hn1 := Lib.hid hn1
  have Hx := Lib.hid hx
  have Hy := Lib.hid hy
  have HI := Lib.hid hI
  have Hr := Lib.hid hr
  have HBA := Lib.hid hba
  have HG := Lib.hid hG
  have hnb : (xs.length : Int) ≤ 1000000 := by omega
  clear hX hY hxy hn hn1 hx hy hI hr hba hG
  go_enter Tryz.func111, Tryz.ntmps111
  (repeat (first | (with_reducible first | refine xA ?_ | refine xB ?_ | refine xC ?_ | refine xD ?_ | refine xH ?_ | refine xI rfl ?_ | refine xE ?_ | refine xF ?_ | refine xG ?_) | go_skip | go_guarded | (at_make; refine wl_make_own rfl _ _ rfl xs.length rfl rfl Hn1.out ?_; intro w1 hO hg; (try simp only [Act.put, qz4, qz5, qz6])) | go_values | go_skip | go_guarded | go_step | go_upon | go_back | ((with_reducible show Oper.upon _ _ _ _ _ _); go_simp) | (dsimp only)))
  have hG1 := HG.out.owned hg (Nat.le_refl _) hO.lt
  have hK1 : Kept X w w1 := ⟨hg.os, hg.tape, hg.output, hg.size, fun i hi _ => hg.block i hi (by simp)⟩
  have hO1 : OwnI w1 w.heap.size xs.length (filled [] xs.length) := by simpa [filled] using hO
  clear hO hg
  go_loopw [14] (fun i wr => ∃ (k : Nat) (gk : G) (outs : List Int) (sk : Nat → Bool), k ≤ xs.length ∧ i = .int .i64 k ∧ Hid (ZS either 1 g fr s xs ys k gk outs sk) ∧ OwnI wr w.heap.size xs.length (filled outs xs.length) ∧ GR (fun k => X k ∨ k = w.heap.size) base wr gb gk ∧ Kept X w wr) (fun i _ => xs.length - (intOf i).toNat)
  case atStart => exact ⟨0, g, [], s, Nat.zero_le _, rfl, Lib.hid (ZS.start HI.out), hO1, hG1, hK1⟩
  case round =>
    clear hO1 hG1 hK1
    obtain ⟨k, gk, outs, sk, hk, rfl, hZ, hO, hG, hK⟩ := hrel
    rcases Nat.lt_or_ge k xs.length with hlt | hge
    · obtain ⟨bx, ox, rfl, xbx, lbx, cbx, HRx⟩ := HX.out.row (by omega)
      obtain ⟨by', oy, rfl, xby, lby, cby, HRy⟩ := HY.out.row (by have := Hxy.out; omega)
      obtain ⟨x, hx⟩ : ∃ x, xs[k]? = some x := ⟨_, List.getElem?_eq_getElem hlt⟩
      obtain ⟨y, hy⟩ : ∃ y, ys[k]? = some y := ⟨_, List.getElem?_eq_getElem (by have := Hxy.out; omega)⟩
      have hcx := hK.cell (HRx k x hx) xbx
      have hcy := hK.cell (HRy k y hy) xby
      have Hxk := Lib.hid hx
      have Hyk := Lib.hid hy
      have hyl : ys.length = xs.length := Hxy.out
      have i0 : (0 : Int) ≤ (k : Int) := by omega
      have i1 : (k : Int) < (xs.length : Int) := by omega
      have i2 : (k : Int) < (ys.length : Int) := by omega
      have HO := Lib.hid hO
      have HCx := Lib.hid hcx
      have HCy := Lib.hid hcy
      clear hx hy HRx HRy hO hcx hcy hyl
      (repeat (first | (with_reducible first | refine xA ?_ | refine xB ?_ | refine xC ?_ | refine xD ?_ | refine xH ?_ | refine xI rfl ?_ | refine xE ?_ | refine xF ?_ | refine xG ?_) | go_values | go_skip | go_guarded | go_step | go_upon | go_back | ((with_reducible show Oper.upon _ _ _ _ _ _); go_simp) | (dsimp only)))
      refine wp_region_held (S := fun u => u.cell? ⟨bx, ox + k, none⟩ = some (.int .i64 x) ∧ u.cell? ⟨by', oy + k, none⟩ = some (.int .i64 y)) (by kernel_rfl) ?_
      have HS : (({ wr with drawn := wr.drawn + 1 } : World)).cell? ⟨bx, ox + k, none⟩ = some (.int .i64 x) ∧ (({ wr with drawn := wr.drawn + 1 } : World)).cell? ⟨by', oy + k, none⟩ = some (.int .i64 y) := ⟨HCx.out, HCy.out⟩
      have hO : OwnI ({ wr with drawn := wr.drawn + 1 } : World) w.heap.size xs.length (filled outs xs.length) := HO.out
      replace hG : GR _ base ({ wr with drawn := wr.drawn + 1 } : World) gb gk := hG.same ⟨rfl, rfl, rfl, Nat.le_refl _, fun _ _ _ => rfl⟩
      replace hK : Kept X w ({ wr with drawn := wr.drawn + 1 } : World) := hK.drew 1
      clear HO HCx HCy
      generalize ({ wr with drawn := wr.drawn + 1 } : World) = u0 at *
      refine wpAnyH_take (i := 0) (v := .slice (some ⟨w.heap.size, 0, none⟩) xs.length xs.length) rfl (by kernel_rfl) (by kernel_rfl) (by kernel_rfl) (fun _ _ _ h => h) (Or.inl ⟨rfl, fun w _ => by go_simp⟩) HS ?_; simp only [Act.put, qz1, qz2, qz3, qz4, qz5, qz6]
      refine wpAnyH_take (i := 1) (v := .int .i64 k) rfl (by kernel_rfl) (by kernel_rfl) (by kernel_rfl) (fun _ _ _ h => h) (Or.inl ⟨rfl, fun w _ => by go_simp⟩) HS ?_; simp only [Act.put, qz1, qz2, qz3, qz4, qz5, qz6]
      refine wpAnyH_take (i := 2) (v := .func (.func 113) #[.pointer (some ⟨gb, 0, none⟩)] #[]) rfl (by kernel_rfl) (by kernel_rfl) (by kernel_rfl) (fun _ _ _ h => h) (Or.inl ⟨rfl, fun w _ => by go_simp⟩) HS ?_; simp only [Act.put, qz1, qz2, qz3, qz4, qz5, qz6]
      refine wpAnyH_take (i := 3) (v := .slice (some ⟨bx, ox, none⟩) xs.length cx) rfl (by kernel_rfl) (by kernel_rfl) (by kernel_rfl) (fun _ _ _ h => h) (Or.inl ⟨rfl, fun w _ => by go_simp⟩) HS ?_; simp only [Act.put, qz1, qz2, qz3, qz4, qz5, qz6]
      refine wpAnyH_take (i := 4) (v := .int .i64 k) rfl (by kernel_rfl) (by kernel_rfl) (by kernel_rfl) (fun _ _ _ h => h) (Or.inl ⟨rfl, fun w _ => by go_simp⟩) HS ?_; simp only [Act.put, qz1, qz2, qz3, qz4, qz5, qz6]
      refine wpAnyH_take (i := 5) (v := .pointer (some ⟨bx, ox + k, none⟩)) rfl (by kernel_rfl) (by kernel_rfl) (by kernel_rfl) (fun _ _ _ h => h) (Or.inl ⟨rfl, fun w _ => by go_simp⟩) HS ?_; simp only [Act.put, qz1, qz2, qz3, qz4, qz5, qz6]
      refine wpAnyH_take (i := 6) (v := .int .i64 x) rfl (by kernel_rfl) (by kernel_rfl) (by kernel_rfl) (fun _ _ _ h => h) (Or.inl ⟨rfl, fun w hw => by have hx := hw.1; go_simp⟩) HS ?_
      simp only [Act.put, qz1, qz2, qz3, qz4, qz5, qz6]
      refine wpAnyH_take (i := 7) (v := .slice (some ⟨by', oy, none⟩) ys.length cy) rfl (by kernel_rfl) (by kernel_rfl) (by kernel_rfl) (fun _ _ _ h => h) (Or.inl ⟨rfl, fun w _ => by go_simp⟩) HS ?_; simp only [Act.put, qz1, qz2, qz3, qz4, qz5, qz6]
      refine wpAnyH_take (i := 8) (v := .int .i64 k) rfl (by kernel_rfl) (by kernel_rfl) (by kernel_rfl) (fun _ _ _ h => h) (Or.inl ⟨rfl, fun w _ => by go_simp⟩) HS ?_; simp only [Act.put, qz1, qz2, qz3, qz4, qz5, qz6]
      refine wpAnyH_take (i := 9) (v := .pointer (some ⟨by', oy + k, none⟩)) rfl (by kernel_rfl) (by kernel_rfl) (by kernel_rfl) (fun _ _ _ h => h) (Or.inl ⟨rfl, fun w _ => by go_simp⟩) HS ?_; simp only [Act.put, qz1, qz2, qz3, qz4, qz5, qz6]
      refine wpAnyH_take (i := 10) (v := .int .i64 y) rfl (by kernel_rfl) (by kernel_rfl) (by kernel_rfl) (fun _ _ _ h => h) (Or.inl ⟨rfl, fun w hw => by have hx := hw.2; go_simp⟩) HS ?_
      simp only [Act.put, qz1, qz2, qz3, qz4, qz5, qz6]
      refine wpAnyH_all (rs := [11]) (by kernel_rfl) (by simp) (fun i hi => ?_)
      obtain rfl : i = 11 := by simpa using hi
      refine wpOp_one rfl ?_
      obtain ⟨rk, hrk⟩ : ∃ rk, Hid (either gk x y = rk) := ⟨_, Lib.hid rfl⟩
      have hgk : gk.n ≤ g.n + 1 * k := hZ.out.le
      have hn3 := Lib.hid (show gk.n < 1048576 by have := Hn.out; omega)
      have hst := hZ.out.st
      have hx1 := Lib.hid (hst.isL (Hx.out x (List.mem_of_getElem? Hxk.out)))
      have hy1 := Lib.hid (hst.isL (Hy.out y (List.mem_of_getElem? Hyk.out)))
      have hI1 := Lib.hid hZ.out.gi
      have hxo := Lib.hid fun e he => (hI1.out.xo e he).2.2.1
      have hba1 : base ≤ u0.heap.size := Nat.le_trans HBA.out hK.size
      clear hst hgk
      (repeat (first | (with_reducible first | refine xA ?_ | refine xB ?_ | refine xC ?_ | refine xD ?_ | refine xH ?_ | refine xI rfl ?_ | refine xE ?_ | refine xF ?_ | refine xG ?_) | go_skip | go_guarded | (go_at_call 113; (with_reducible refine (either_any _ hG hn3 hba1 _ _ hx1 hy1 hI1 rk hrk).mono ?_); rintro _ w2 ⟨rfl, hG2, hk2⟩) | go_values | go_skip | go_guarded | go_step | go_upon | go_back | ((with_reducible show Oper.upon _ _ _ _ _ _); go_simp) | (dsimp only)))
      have hO2 := hO.kept hk2 (.inr rfl)
      have hS2 : w2.cell? ⟨bx, ox + k, none⟩ = some (.int .i64 x) ∧ w2.cell? ⟨by', oy + k, none⟩ = some (.int .i64 y) := ⟨hk2.cell HS.1 (.inl xbx), hk2.cell HS.2 (.inl xby)⟩
      have hK2 := hK.trans (hk2.mono fun k _ hx => .inl hx)
      clear HS
      have HS := hS2
      clear hS2 hG hO hK hk2 hn3 hx1 hy1 hba1
      refine ⟨HS, ?_⟩
      refine wpAnyH_take (i := 12) (v := .pointer (some ⟨w.heap.size, k, none⟩)) rfl (by kernel_rfl) (by kernel_rfl) (by kernel_rfl) (fun _ _ _ h => h) (Or.inl ⟨rfl, fun w _ => by go_simp⟩) HS ?_; simp only [Act.put, qz1, qz2, qz3, qz4, qz5, qz6]
      refine wpAnyH_all (rs := [13]) (by kernel_rfl) (by simp) (fun i hi => ?_)
      obtain rfl : i = 13 := by simpa using hi
      refine wpOp_one rfl ?_
      (repeat (first | (with_reducible first | refine xA ?_ | refine xB ?_ | refine xC ?_ | refine xD ?_ | refine xH ?_ | refine xI rfl ?_ | refine xE ?_ | refine xF ?_ | refine xG ?_) | go_skip | go_guarded | ((with_reducible refine wl_id ?_); refine wl_store_own rfl _ _ rfl w.heap.size xs.length _ k rfl rk.2 rfl hO2 hlt ?_; intro w3 hO3 hg3; (try simp only [Act.put, qz4, qz5, qz6])) | go_values | go_skip | go_guarded | go_step | go_upon | go_back | ((with_reducible show Oper.upon _ _ _ _ _ _); go_simp) | (dsimp only)))
      have hK3 := hK2.owned hg3 (Nat.le_refl _)
      have hG3 := hG2.other hg3 (.inr rfl)
      have hk23 : Kept (fun i => i ≠ w.heap.size) w2 w3 := ⟨hg3.os, hg3.tape, hg3.output, hg3.size, fun i hi hx => hg3.block i hi (fun e => hx (by injection e))⟩
      refine ⟨⟨hk23.cell HS.1 (by show bx ≠ _; omega), hk23.cell HS.2 (by show by' ≠ _; omega)⟩, ?_⟩
      refine wpAnyH_done (by kernel_rfl) ?_ _
      have hzl := hZ.out.len
      rw [← hzl, filled_set (by omega)] at hO3
      obtain ⟨s2, hZ2⟩ := hZ.out.next Hx.out Hy.out Hxk.out Hyk.out hrk.out (fun a b => by
        obtain ⟨s', q1, q2, q3, _⟩ := either_ok hZ.out.gi a b
        rw [hrk.out] at q1 q2 q3
        exact ⟨s', q1, q2, q3⟩)
      have HZ2 := Lib.hid hZ2
      clear hZ2
      clear HS hO2 hG2 hK2 hg3 hk23
      (repeat (first | (with_reducible first | refine xA ?_ | refine xB ?_ | refine xC ?_ | refine xD ?_ | refine xH ?_ | refine xI rfl ?_ | refine xE ?_ | refine xF ?_ | refine xG ?_) | go_values | go_skip | go_guarded | go_step | go_upon | go_back | ((with_reducible show Oper.upon _ _ _ _ _ _); go_simp) | (dsimp only)))
      exact ⟨⟨k + 1, rk.1, outs ++ [rk.2], _, by omega, by go_num, HZ2, hO3, hG3, hK3⟩, by simp [intOf]; omega⟩
    · obtain rfl : k = xs.length := by omega
      have hz := hZ.out
      have e1 := hz.eq
      rw [List.take_of_length_le (Nat.le_refl _), List.take_of_length_le (Nat.le_of_eq Hxy.out)] at e1
      have hR : Hid (r = (gk, outs)) := Lib.hid (by rw [← Hr.out]; exact e1)
      rw [filled_full hz.len] at hO
      clear hz e1
      (repeat (first | (with_reducible first | refine xA ?_ | refine xB ?_ | refine xC ?_ | refine xD ?_ | refine xH ?_ | refine xI rfl ?_ | refine xE ?_ | refine xF ?_ | refine xG ?_) | go_values | go_skip | go_guarded | go_step | go_upon | go_back | ((with_reducible show Oper.upon _ _ _ _ _ _); go_simp) | (dsimp only)))
      go_ret
      rw [hR.out]
      exact ⟨_, rfl, hO, Nat.le_refl _, hG, hK⟩
set_option maxRecDepth 100000 in
set_option maxHeartbeats 1000000 in
theorem bits_odd_any {X : Nat → Prop} {base gb : Nat} {g : G} {fr : List Int} {s : Nat → Bool} (w : World) (hG : GR X base w gb g) (hba : base ≤ w.heap.size) (vx vy : Value) (xs ys : List Int) (hX : SlX X w vx xs) (hY : SlX X w vy ys) (hxy : ys.length = xs.length) (hn : g.n + xs.length ≤ 1048576) (hn1 : xs.length ≤ 1000000) (hx : ∀ x ∈ xs, isL g.n x) (hy : ∀ y ∈ ys, isL g.n y) (hI : GI g fr s) (r : G × List Int) (hr : zipG odd g xs ys = r) :
    Calls Tryz.prog 111 #[vx, vy, .func (.func 114) #[.pointer (some ⟨gb, 0, none⟩)] #[]] w (Word1 X base gb xs.length w r) := by
  obtain ⟨ax, cx, rfl⟩ := hX.shape
  obtain ⟨ay, cy, rfl⟩ := hY.shape
  have HX := Lib.hid hX
  have HY := Lib.hid hY
  have Hxy := Lib.hid hxy
  have Hn := Lib.hid hn
  have Hn1 := Lib.hid hn1
  have Hx := Lib.hid hx
  have Hy := Lib.hid hy
  have HI := Lib.hid hI
  have Hr := Lib.hid hr
  have HBA := Lib.hid hba
  have HG := Lib.hid hG
  have hnb : (xs.length : Int) ≤ 1000000 := by omega
  clear hX hY hxy hn hn1 hx hy hI hr hba hG
  go_enter Tryz.func111, Tryz.ntmps111
  (repeat (first | (with_reducible first | refine xA ?_ | refine xB ?_ | refine xC ?_ | refine xD ?_ | refine xH ?_ | refine xI rfl ?_ | refine xE ?_ | refine xF ?_ | refine xG ?_) | go_skip | go_guarded | (at_make; refine wl_make_own rfl _ _ rfl xs.length rfl rfl Hn1.out ?_; intro w1 hO hg; (try simp only [Act.put, qz4, qz5, qz6])) | go_values | go_skip | go_guarded | go_step | go_upon | go_back | ((with_reducible show Oper.upon _ _ _ _ _ _); go_simp) | (dsimp only)))
  have hG1 := HG.out.owned hg (Nat.le_refl _) hO.lt
  have hK1 : Kept X w w1 := ⟨hg.os, hg.tape, hg.output, hg.size, fun i hi _ => hg.block i hi (by simp)⟩
  have hO1 : OwnI w1 w.heap.size xs.length (filled [] xs.length) := by simpa [filled] using hO
  clear hO hg
  go_loopw [14] (fun i wr => ∃ (k : Nat) (gk : G) (outs : List Int) (sk : Nat → Bool), k ≤ xs.length ∧ i = .int .i64 k ∧ Hid (ZS odd 1 g fr s xs ys k gk outs sk) ∧ OwnI wr w.heap.size xs.length (filled outs xs.length) ∧ GR (fun k => X k ∨ k = w.heap.size) base wr gb gk ∧ Kept X w wr) (fun i _ => xs.length - (intOf i).toNat)
  case atStart => exact ⟨0, g, [], s, Nat.zero_le _, rfl, Lib.hid (ZS.start HI.out), hO1, hG1, hK1⟩
  case round =>
    clear hO1 hG1 hK1
    obtain ⟨k, gk, outs, sk, hk, rfl, hZ, hO, hG, hK⟩ := hrel
    rcases Nat.lt_or_ge k xs.length with hlt | hge
    · obtain ⟨bx, ox, rfl, xbx, lbx, cbx, HRx⟩ := HX.out.row (by omega)
      obtain ⟨by', oy, rfl, xby, lby, cby, HRy⟩ := HY.out.row (by have := Hxy.out; omega)
      obtain ⟨x, hx⟩ : ∃ x, xs[k]? = some x := ⟨_, List.getElem?_eq_getElem hlt⟩
      obtain ⟨y, hy⟩ : ∃ y, ys[k]? = some y := ⟨_, List.getElem?_eq_getElem (by have := Hxy.out; omega)⟩
      have hcx := hK.cell (HRx k x hx) xbx
      have hcy := hK.cell (HRy k y hy) xby
      have Hxk := Lib.hid hx
      have Hyk := Lib.hid hy
      have hyl : ys.length = xs.length := Hxy.out
      have i0 : (0 : Int) ≤ (k : Int) := by omega
      have i1 : (k : Int) < (xs.length : Int) := by omega
      have i2 : (k : Int) < (ys.length : Int) := by omega
      have HO := Lib.hid hO
      have HCx := Lib.hid hcx
      have HCy := Lib.hid hcy
      clear hx hy HRx HRy hO hcx hcy hyl
      (repeat (first | (with_reducible first | refine xA ?_ | refine xB ?_ | refine xC ?_ | refine xD ?_ | refine xH ?_ | refine xI rfl ?_ | refine xE ?_ | refine xF ?_ | refine xG ?_) | go_values | go_skip | go_guarded | go_step | go_upon | go_back | ((with_reducible show Oper.upon _ _ _ _ _ _); go_simp) | (dsimp only)))
      refine wp_region_held (S := fun u => u.cell? ⟨bx, ox + k, none⟩ = some (.int .i64 x) ∧ u.cell? ⟨by', oy + k, none⟩ = some (.int .i64 y)) (by kernel_rfl) ?_
      have HS : (({ wr with drawn := wr.drawn + 1 } : World)).cell? ⟨bx, ox + k, none⟩ = some (.int .i64 x) ∧ (({ wr with drawn := wr.drawn + 1 } : World)).cell? ⟨by', oy + k, none⟩ = some (.int .i64 y) := ⟨HCx.out, HCy.out⟩
      have hO : OwnI ({ wr with drawn := wr.drawn + 1 } : World) w.heap.size xs.length (filled outs xs.length) := HO.out
      replace hG : GR _ base ({ wr with drawn := wr.drawn + 1 } : World) gb gk := hG.same ⟨rfl, rfl, rfl, Nat.le_refl _, fun _ _ _ => rfl⟩
      replace hK : Kept X w ({ wr with drawn := wr.drawn + 1 } : World) := hK.drew 1
      clear HO HCx HCy
      generalize ({ wr with drawn := wr.drawn + 1 } : World) = u0 at *
      refine wpAnyH_take (i := 0) (v := .slice (some ⟨w.heap.size, 0, none⟩) xs.length xs.length) rfl (by kernel_rfl) (by kernel_rfl) (by kernel_rfl) (fun _ _ _ h => h) (Or.inl ⟨rfl, fun w _ => by go_simp⟩) HS ?_; simp only [Act.put, qz1, qz2, qz3, qz4, qz5, qz6]
      refine wpAnyH_take (i := 1) (v := .int .i64 k) rfl (by kernel_rfl) (by kernel_rfl) (by kernel_rfl) (fun _ _ _ h => h) (Or.inl ⟨rfl, fun w _ => by go_simp⟩) HS ?_; simp only [Act.put, qz1, qz2, qz3, qz4, qz5, qz6]
      refine wpAnyH_take (i := 2) (v := .func (.func 114) #[.pointer (some ⟨gb, 0, none⟩)] #[]) rfl (by kernel_rfl) (by kernel_rfl) (by kernel_rfl) (fun _ _ _ h => h) (Or.inl ⟨rfl, fun w _ => by go_simp⟩) HS ?_; simp only [Act.put, qz1, qz2, qz3, qz4, qz5, qz6]
      refine wpAnyH_take (i := 3) (v := .slice (some ⟨bx, ox, none⟩) xs.length cx) rfl (by kernel_rfl) (by kernel_rfl) (by kernel_rfl) (fun _ _ _ h => h) (Or.inl ⟨rfl, fun w _ => by go_simp⟩) HS ?_; simp only [Act.put, qz1, qz2, qz3, qz4, qz5, qz6]
      refine wpAnyH_take (i := 4) (v := .int .i64 k) rfl (by kernel_rfl) (by kernel_rfl) (by kernel_rfl) (fun _ _ _ h => h) (Or.inl ⟨rfl, fun w _ => by go_simp⟩) HS ?_; simp only [Act.put, qz1, qz2, qz3, qz4, qz5, qz6]
      refine wpAnyH_take (i := 5) (v := .pointer (some ⟨bx, ox + k, none⟩)) rfl (by kernel_rfl) (by kernel_rfl) (by kernel_rfl) (fun _ _ _ h => h) (Or.inl ⟨rfl, fun w _ => by go_simp⟩) HS ?_; simp only [Act.put, qz1, qz2, qz3, qz4, qz5, qz6]
      refine wpAnyH_take (i := 6) (v := .int .i64 x) rfl (by kernel_rfl) (by kernel_rfl) (by kernel_rfl) (fun _ _ _ h => h) (Or.inl ⟨rfl, fun w hw => by have hx := hw.1; go_simp⟩) HS ?_
      simp only [Act.put, qz1, qz2, qz3, qz4, qz5, qz6]
      refine wpAnyH_take (i := 7) (v := .slice (some ⟨by', oy, none⟩) ys.length cy) rfl (by kernel_rfl) (by kernel_rfl) (by kernel_rfl) (fun _ _ _ h => h) (Or.inl ⟨rfl, fun w _ => by go_simp⟩) HS ?_; simp only [Act.put, qz1, qz2, qz3, qz4, qz5, qz6]
      refine wpAnyH_take (i := 8) (v := .int .i64 k) rfl (by kernel_rfl) (by kernel_rfl) (by kernel_rfl) (fun _ _ _ h => h) (Or.inl ⟨rfl, fun w _ => by go_simp⟩) HS ?_; simp only [Act.put, qz1, qz2, qz3, qz4, qz5, qz6]
      refine wpAnyH_take (i := 9) (v := .pointer (some ⟨by', oy + k, none⟩)) rfl (by kernel_rfl) (by kernel_rfl) (by kernel_rfl) (fun _ _ _ h => h) (Or.inl ⟨rfl, fun w _ => by go_simp⟩) HS ?_; simp only [Act.put, qz1, qz2, qz3, qz4, qz5, qz6]
      refine wpAnyH_take (i := 10) (v := .int .i64 y) rfl (by kernel_rfl) (by kernel_rfl) (by kernel_rfl) (fun _ _ _ h => h) (Or.inl ⟨rfl, fun w hw => by have hx := hw.2; go_simp⟩) HS ?_
      simp only [Act.put, qz1, qz2, qz3, qz4, qz5, qz6]
      refine wpAnyH_all (rs := [11]) (by kernel_rfl) (by simp) (fun i hi => ?_)
      obtain rfl : i = 11 := by simpa using hi
      refine wpOp_one rfl ?_
      obtain ⟨rk, hrk⟩ : ∃ rk, Hid (odd gk x y = rk) := ⟨_, Lib.hid rfl⟩
      have hgk : gk.n ≤ g.n + 1 * k := hZ.out.le
      have hn3 := Lib.hid (show gk.n < 1048576 by have := Hn.out; omega)
      have hst := hZ.out.st
      have hx1 := Lib.hid (hst.isL (Hx.out x (List.mem_of_getElem? Hxk.out)))
      have hy1 := Lib.hid (hst.isL (Hy.out y (List.mem_of_getElem? Hyk.out)))
      have hI1 := Lib.hid hZ.out.gi
      have hxo := Lib.hid fun e he => (hI1.out.xo e he).2.2.1
      have hba1 : base ≤ u0.heap.size := Nat.le_trans HBA.out hK.size
      clear hst hgk
      (repeat (first | (with_reducible first | refine xA ?_ | refine xB ?_ | refine xC ?_ | refine xD ?_ | refine xH ?_ | refine xI rfl ?_ | refine xE ?_ | refine xF ?_ | refine xG ?_) | go_skip | go_guarded | (go_at_call 114; (with_reducible refine (odd_any _ hG hn3 hba1 _ _ hx1 hy1 hxo rk hrk).mono ?_); rintro _ w2 ⟨rfl, hG2, hk2⟩) | go_values | go_skip | go_guarded | go_step | go_upon | go_back | ((with_reducible show Oper.upon _ _ _ _ _ _); go_simp) | (dsimp only)))
      have hO2 := hO.kept hk2 (.inr rfl)
      have hS2 : w2.cell? ⟨bx, ox + k, none⟩ = some (.int .i64 x) ∧ w2.cell? ⟨by', oy + k, none⟩ = some (.int .i64 y) := ⟨hk2.cell HS.1 (.inl xbx), hk2.cell HS.2 (.inl xby)⟩
      have hK2 := hK.trans (hk2.mono fun k _ hx => .inl hx)
      clear HS
      have HS := hS2
      clear hS2 hG hO hK hk2 hn3 hx1 hy1 hba1
      refine ⟨HS, ?_⟩
      refine wpAnyH_take (i := 12) (v := .pointer (some ⟨w.heap.size, k, none⟩)) rfl (by kernel_rfl) (by kernel_rfl) (by kernel_rfl) (fun _ _ _ h => h) (Or.inl ⟨rfl, fun w _ => by go_simp⟩) HS ?_; simp only [Act.put, qz1, qz2, qz3, qz4, qz5, qz6]
      refine wpAnyH_all (rs := [13]) (by kernel_rfl) (by simp) (fun i hi => ?_)
      obtain rfl : i = 13 := by simpa using hi
      refine wpOp_one rfl ?_
      (repeat (first | (with_reducible first | refine xA ?_ | refine xB ?_ | refine xC ?_ | refine xD ?_ | refine xH ?_ | refine xI rfl ?_ | refine xE ?_ | refine xF ?_ | refine xG ?_) | go_skip | go_guarded | ((with_reducible refine wl_id ?_); refine wl_store_own rfl _ _ rfl w.heap.size xs.length _ k rfl rk.2 rfl hO2 hlt ?_; intro w3 hO3 hg3; (try simp only [Act.put, qz4, qz5, qz6])) | go_values | go_skip | go_guarded | go_step | go_upon | go_back | ((with_reducible show Oper.upon _ _ _ _ _ _); go_simp) | (dsimp only)))
      have hK3 := hK2.owned hg3 (Nat.le_refl _)
      have hG3 := hG2.other hg3 (.inr rfl)
      have hk23 : Kept (fun i => i ≠ w.heap.size) w2 w3 := ⟨hg3.os, hg3.tape, hg3.output, hg3.size, fun i hi hx => hg3.block i hi (fun e => hx (by injection e))⟩
      refine ⟨⟨hk23.cell HS.1 (by show bx ≠ _; omega), hk23.cell HS.2 (by show by' ≠ _; omega)⟩, ?_⟩
      refine wpAnyH_done (by kernel_rfl) ?_ _
      have hzl := hZ.out.len
      rw [← hzl, filled_set (by omega)] at hO3
      obtain ⟨s2, hZ2⟩ := hZ.out.next Hx.out Hy.out Hxk.out Hyk.out hrk.out (fun a b => by
        obtain ⟨s', q1, q2, q3, _⟩ := odd_ok hZ.out.gi a b
        rw [hrk.out] at q1 q2 q3
        exact ⟨s', q1, q2, q3⟩)
      have HZ2 := Lib.hid hZ2
      clear hZ2
      clear HS hO2 hG2 hK2 hg3 hk23
      (repeat (first | (with_reducible first | refine xA ?_ | refine xB ?_ | refine xC ?_ | refine xD ?_ | refine xH ?_ | refine xI rfl ?_ | refine xE ?_ | refine xF ?_ | refine xG ?_) | go_values | go_skip | go_guarded | go_step | go_upon | go_back | ((with_reducible show Oper.upon _ _ _ _ _ _); go_simp) | (dsimp only)))
      exact ⟨⟨k + 1, rk.1, outs ++ [rk.2], _, by omega, by go_num, HZ2, hO3, hG3, hK3⟩, by simp [intOf]; omega⟩
    · obtain rfl : k = xs.length := by omega
      have hz := hZ.out
      have e1 := hz.eq
      rw [List.take_of_length_le (Nat.le_refl _), List.take_of_length_le (Nat.le_of_eq Hxy.out)] at e1
      have hR : Hid (r = (gk, outs)) := Lib.hid (by rw [← Hr.out]; exact e1)
      rw [filled_full hz.len] at hO
      clear hz e1
      (repeat (first | (with_reducible first | refine xA ?_ | refine xB ?_ | refine xC ?_ | refine xD ?_ | refine xH ?_ | refine xI rfl ?_ | refine xE ?_ | refine xF ?_ | refine xG ?_) | go_values | go_skip | go_guarded | go_step | go_upon | go_back | ((with_reducible show Oper.upon _ _ _ _ _ _); go_simp) | (dsimp only)))
      go_ret
      rw [hR.out]
      exact ⟨_, rfl, hO, Nat.le_refl _, hG, hK⟩
end Go.Proofs.YtmaogkgjiplckaaGreat
namespace Go.Proofs.YtmaogkgjiplckaaGreat
open Go.RowKit
theorem upL_get {l : List Int} {j : Nat} {i : Int} {k : Nat} (hk : k < l.length) : (upL l j i)[k]? = if k < j then some i else l[k - j]? := by
  unfold upL
  rw [List.getElem?_take, if_pos hk, List.getElem?_append, List.length_replicate]
  split
  · rename_i h; rw [List.getElem?_replicate, if_pos h]
  · rfl
theorem filled_two {outs : List Int} {n k : Nat} (h : outs.length = k) (hk : k < n) (a b : Int) : (filled (outs ++ [a]) n).set k b = filled (outs ++ [b]) n := by
  subst h
  unfold filled
  rw [List.append_assoc, List.set_append_right _ _ (Nat.le_refl _), Nat.sub_self]
  simp
set_option maxRecDepth 100000 in
set_option maxHeartbeats 1000000 in
theorem upG_any {X : Nat → Prop} (w : World) (v : Value) (l : List Int) (hl : SlX X w v l) (hll : l.length ≤ 1000000) (j : Nat) (hj : j ≤ 1000000) (i : Int) :
    Calls Tryz.prog 132 #[v, .int .i64 j, .int .i64 i] w fun e w' => e = .returned (.slice (some ⟨w.heap.size, 0, none⟩) l.length l.length) ∧ OwnI w' w.heap.size l.length (upL l j i) ∧ Below w.heap.size w w' := by
  obtain ⟨a, c, rfl⟩ := hl.shape
  have HL := Lib.hid hl
  have hlI : (l.length : Int) ≤ 1000000 := by omega
  have hjI : (j : Int) ≤ 1000000 := by omega
  clear hl
  go_enter Tryz.func132, Tryz.ntmps132
  (repeat (first | (with_reducible first | refine xA ?_ | refine xB ?_ | refine xC ?_ | refine xD ?_ | refine xH ?_ | refine xI rfl ?_ | refine xE ?_ | refine xF ?_ | refine xG ?_) | go_skip | go_guarded | ((with_reducible refine wl_id ?_); refine wl_make_own rfl _ _ rfl l.length rfl rfl hll ?_; intro w1 hO hg; (try simp only [Act.put, qz4, qz5, qz6])) | go_values | go_skip | go_guarded | go_step | go_upon | go_back | ((with_reducible show Oper.upon _ _ _ _ _ _); go_simp) | (dsimp only)))
  have hb1 : Below w.heap.size w w1 := ⟨hg.os, hg.tape, hg.output, hg.size, fun k hk => hg.block k hk (by simp)⟩
  go_loopw [14] (fun u wr => ∃ k : Nat, k ≤ l.length ∧ u = .int .i64 k ∧ Hid (OwnI wr w.heap.size l.length (filled ((upL l j i).take k) l.length)) ∧ Below w.heap.size w wr) (fun u _ => l.length - (intOf u).toNat)
  case atStart => exact ⟨0, Nat.zero_le _, rfl, Lib.hid (by simpa [filled] using hO), hb1⟩
  case round =>
    clear hO hg hb1
    obtain ⟨k, hk, rfl, HO, hB⟩ := hrel
    rcases Nat.lt_or_ge k l.length with hlt | hge
    · have i0 : (0 : Int) ≤ (k : Int) := by omega
      have i1 : (k : Int) < (l.length : Int) := by omega
      have hlk : ((upL l j i).take k).length = k := by rw [List.length_take, upL_len]; omega
      have E1 := Lib.hid (by have h := filled_set (outs := (upL l j i).take k) (n := l.length) (by rw [hlk]; exact hlt) i; rw [hlk] at h; exact h)
      rcases Nat.lt_or_ge k j with hkj | hkj
      · have HU := Lib.hid (show (upL l j i).take (k + 1) = (upL l j i).take k ++ [i] from list_upto (by rw [upL_get hlt, if_pos hkj]))
        have f1 : ¬ (k : Int) ≥ (j : Int) := by omega
        have HCX : Hid (∀ w3 : World, wr.grownBy w3 (some w.heap.size) → True) := Lib.hid fun _ _ => trivial
        clear hlk
        (repeat (first | (with_reducible first | refine xA ?_ | refine xB ?_ | refine xC ?_ | refine xD ?_ | refine xH ?_ | refine xI rfl ?_ | refine xE ?_ | refine xF ?_ | refine xG ?_) | go_skip | go_guarded | ((with_reducible refine wl_id ?_); refine wl_store_own rfl _ _ rfl w.heap.size l.length _ k rfl i rfl HO.out hlt ?_; intro w3 hO3 hg3; have HO3 := Lib.hid hO3; have HG3 := Lib.hid hg3; have hcx3 := HCX.out w3 hg3; clear hO3 hg3; (try simp only [Act.put, qz4, qz5, qz6])) | go_values | go_skip | go_guarded | go_step | go_upon | go_back | ((with_reducible show Oper.upon _ _ _ _ _ _); go_simp) | (dsimp only)))
        have h3 := HO3.out
        rw [E1.out] at h3
        exact ⟨⟨k + 1, by omega, by go_num, Lib.hid (by rw [HU.out]; exact h3), Below.grown hB HG3.out hB.size (fun q e => by injection e with e; omega)⟩, by simp [intOf]; omega⟩
      · obtain ⟨b, o, rfl, _, _, _, hR⟩ := HL.out.row (by omega)
        obtain ⟨x, hx⟩ : ∃ y, l[k - j]? = some y := ⟨_, List.getElem?_eq_getElem (by omega)⟩
        have hcx := hR (k - j) x hx
        have hbl : b < w.heap.size := World.block_lt_of_cell? w _ hcx
        have HCX : Hid (∀ w3 : World, wr.grownBy w3 (some w.heap.size) → w3.cell? ⟨b, o + (k - j), none⟩ = some (.int .i64 x)) := Lib.hid fun w3 hg => cell_keep (Below.grown hB hg hB.size (fun q e => by injection e with e; omega)) hcx
        have HU := Lib.hid (show (upL l j i).take (k + 1) = (upL l j i).take k ++ [x] from list_upto (by rw [upL_get hlt, if_neg (by omega)]; exact hx))
        have E2 := Lib.hid (filled_two hlk hlt i x)
        have f1 : (k : Int) ≥ (j : Int) := by omega
        have f2 : (0 : Int) ≤ (k : Int) - (j : Int) := by omega
        have f3 : (k : Int) - (j : Int) < (l.length : Int) := by omega
        have f4 : ((k : Int) - (j : Int)).toNat = k - j := by omega
        clear hR hx hcx hbl hlk
        (repeat (first | (with_reducible first | refine xA ?_ | refine xB ?_ | refine xC ?_ | refine xD ?_ | refine xH ?_ | refine xI rfl ?_ | refine xE ?_ | refine xF ?_ | refine xG ?_) | go_skip | go_guarded | ((with_reducible refine wl_id ?_); refine wl_store_own rfl _ _ rfl w.heap.size l.length _ k rfl x rfl HO3.out hlt ?_; intro w4 hO4 hg4; (try simp only [Act.put, qz4, qz5, qz6])) | ((with_reducible refine wl_id ?_); refine wl_store_own rfl _ _ rfl w.heap.size l.length _ k rfl i rfl HO.out hlt ?_; intro w3 hO3 hg3; have HO3 := Lib.hid hO3; have HG3 := Lib.hid hg3; have hcx3 := HCX.out w3 hg3; clear hO3 hg3; (try simp only [Act.put, qz4, qz5, qz6])) | go_values | go_skip | go_guarded | go_step | go_upon | go_back | ((with_reducible show Oper.upon _ _ _ _ _ _); go_simp) | (dsimp only)))
        rw [E1.out, E2.out] at hO4
        have hB3 := Below.grown hB HG3.out hB.size (fun q e => by injection e with e; omega)
        exact ⟨⟨k + 1, by omega, by go_num, Lib.hid (by rw [HU.out]; exact hO4), Below.grown hB3 hg4 hB3.size (fun q e => by injection e with e; omega)⟩, by simp [intOf]; omega⟩
    · obtain rfl : k = l.length := by omega
      (repeat (first | (with_reducible first | refine xA ?_ | refine xB ?_ | refine xC ?_ | refine xD ?_ | refine xH ?_ | refine xI rfl ?_ | refine xE ?_ | refine xF ?_ | refine xG ?_) | go_values | go_skip | go_guarded | go_step | go_upon | go_back | ((with_reducible show Oper.upon _ _ _ _ _ _); go_simp) | (dsimp only)))
      go_ret
      have h := HO.out
      rw [List.take_of_length_le (by rw [upL_len]; exact Nat.le_refl _), filled_full (upL_len _ _ _)] at h
      exact ⟨rfl, h, hB⟩
end Go.Proofs.YtmaogkgjiplckaaGreat
namespace Go.Proofs.YtmaogkgjiplckaaGreat
open Go.RowKit
theorem list_drop {α : Type} {l : List α} {k : Nat} {x : α} (h : l[k]? = some x) : l.drop k = x :: l.drop (k + 1) := by
  obtain ⟨h1, h2⟩ := List.getElem?_eq_some_iff.1 h
  subst h2
  exact List.drop_eq_getElem_cons h1
structure SH1 (g : G) (fr : List Int) (s : Nat → Bool) (x ys : List Int) (i : Int) (n k : Nat) (gk : G) (xk : List Int) (far : Int) (sk : Nat → Bool) : Prop where
  eq : shiftG g x ys 0 (-1) i = shiftG gk xk (ys.drop k) k far i
  len : xk.length = n
  gi : GI gk fr sk
  st : Step g s gk sk
  le : gk.n ≤ g.n + (3 * n + 1) * k
  lx : ∀ a ∈ xk, isL gk.n a
  lf : isL gk.n far
theorem shift_walk_up {g : G} {fr : List Int} {s : Nat → Bool} {x ys : List Int} {i : Int} {n k : Nat} {gk : G} {xk : List Int} {far : Int} {sk : Nat → Bool} (h : SH1 g fr s x ys i n k gk xk far sk) {c : Int} (hc : ys[k]? = some c) (hcL : isL g.n c) (hi : isL g.n i) (hk : k < 7 ∧ 2 ^ k < n) :
    ∃ s', SH1 g fr s x ys i n (k + 1) (chooseG gk c (upL xk (2 ^ k) i) xk).1 (chooseG gk c (upL xk (2 ^ k) i) xk).2 far s' := by
  have hlu : (upL xk (2 ^ k) i).length = xk.length := upL_len _ _ _
  have hul : ∀ a ∈ upL xk (2 ^ k) i, isL gk.n a := upL_isL h.lx (h.st.isL hi)
  obtain ⟨s', h1, h2, h3, h4, h5⟩ := chooseG_ok h.gi (h.st.isL hcL) hul h.lx hlu
  refine ⟨s', ⟨?_, ?_, h1, h.st.trans h2, ?_, h4, h2.isL h.lf⟩⟩
  · rw [h.eq, list_drop hc]
    simp only [shiftG]
    rw [if_pos (by rw [h.len]; exact hk)]
  · unfold chooseG; rw [zipG_len _ _ _ _ hlu, hlu, h.len]
  · have := h.le; have h6 := h.len; rw [hlu, h6] at h3; rw [Nat.mul_add]; omega
theorem shift_walk_far {g : G} {fr : List Int} {s : Nat → Bool} {x ys : List Int} {i : Int} {n k : Nat} {gk : G} {xk : List Int} {far : Int} {sk : Nat → Bool} (h : SH1 g fr s x ys i n k gk xk far sk) {c : Int} (hc : ys[k]? = some c) (hcL : isL g.n c) (hk : ¬ (k < 7 ∧ 2 ^ k < n)) :
    ∃ s', SH1 g fr s x ys i n (k + 1) (either gk far c).1 xk (either gk far c).2 s' := by
  obtain ⟨s', h1, h2, h3, h4, _⟩ := either_ok h.gi h.lf (h.st.isL hcL)
  refine ⟨s', ⟨?_, h.len, h1, h.st.trans h2, ?_, fun a ha => h2.isL (h.lx a ha), h4⟩⟩
  · rw [h.eq, list_drop hc]
    simp only [shiftG]
    rw [if_neg (by rw [h.len]; exact hk)]
  · have := h.le; rw [Nat.mul_add]; omega
theorem choose_n {X : Nat → Prop} {base gb : Nat} {g : G} {fr : List Int} {s : Nat → Bool} (n : Nat) (w : World) (hG : GR X base w gb g) (hba : base ≤ w.heap.size) (c : Int) (vx vy : Value) (xs ys : List Int) (hX : SlX X w vx xs) (hY : SlX X w vy ys) (hxl : xs.length = n) (hyl : ys.length = n) (hn : g.n + 3 * n ≤ 1048576) (hn1 : n ≤ 1000000) (hc : isL g.n c) (hx : ∀ x ∈ xs, isL g.n x) (hy : ∀ y ∈ ys, isL g.n y) (hI : GI g fr s) (r : G × List Int) (hr : chooseG g c xs ys = r) :
    Calls Tryz.prog 83 #[.pointer (some ⟨gb, 0, none⟩), .int .i64 c, vx, vy] w (Word1 X base gb n w r) := by
  subst hxl
  exact choose_any w hG hba c vx vy xs ys hX hY hyl hn hn1 hc hx hy hI r hr
theorem up_n {X : Nat → Prop} (n : Nat) (w : World) (v : Value) (l : List Int) (hl : SlX X w v l) (hll : l.length = n) (hn : n ≤ 1000000) (j : Nat) (hj : j ≤ 1000000) (i : Int) :
    Calls Tryz.prog 132 #[v, .int .i64 j, .int .i64 i] w fun e w' => e = .returned (.slice (some ⟨w.heap.size, 0, none⟩) n n) ∧ OwnI w' w.heap.size n (upL l j i) ∧ Below w.heap.size w w' := by
  subst hll
  exact upG_any w v l hl hn j hj i
theorem shl_wrap {k m : Nat} (hm : 2 ^ k = m) (hk : k < 7) : wrap64 ((2 : Int) ^ k) = (m : Int) := by
  have h1 : (2 : Int) ^ k = (m : Int) := by rw [← hm]; simp
  have h2 : m ≤ 64 := by rw [← hm]; exact Nat.pow_le_pow_right (n := 2) (by decide) (show k ≤ 6 by omega)
  rw [h1, ← IntWalk.i64_left]
  exact IntWalk.i64_in _ ⟨by omega, by omega⟩
set_option maxRecDepth 100000 in
set_option maxHeartbeats 1000000 in
theorem shift_any {X : Nat → Prop} {base gb : Nat} {g : G} {fr : List Int} {s : Nat → Bool} (w : World) (hG : GR X base w gb g) (hba : base ≤ w.heap.size) (vx vy : Value) (xs ys : List Int) (i : Int) (hX : SlX X w vx xs) (hY : SlX X w vy ys) (hxn : xs.length ≤ 64) (hyn : ys.length ≤ 64) (hn : g.n + (3 * xs.length + 1) * ys.length + 3 * xs.length ≤ 1048576) (hi : isL g.n i) (hx : ∀ x ∈ xs, isL g.n x) (hy : ∀ y ∈ ys, isL g.n y) (hI : GI g fr s) (r : G × List Int) (hr : shiftG g xs ys 0 (-1) i = r) :
    Calls Tryz.prog 115 #[.pointer (some ⟨gb, 0, none⟩), vx, vy, .int .i64 i] w (Word1 X base gb xs.length w r) := by
  obtain ⟨ay, cy, rfl⟩ := hY.shape
  obtain ⟨n, hnx⟩ : ∃ n, xs.length = n := ⟨_, rfl⟩
  obtain ⟨L, hL⟩ : ∃ L, ys.length = L := ⟨_, rfl⟩
  rw [hnx] at hn hxn
  rw [hL] at hn hyn
  have HX := Lib.hid hX
  have HY := Lib.hid hY
  have Hn := Lib.hid hn
  have Hi := Lib.hid hi
  have Hx := Lib.hid hx
  have Hy := Lib.hid hy
  have HI := Lib.hid hI
  have Hr := Lib.hid hr
  have HBA := Lib.hid hba
  have HG := Lib.hid hG
  have HNX := Lib.hid hnx
  have HL := Lib.hid hL
  have hL64 : (L : Int) ≤ 64 := by omega
  have hn64 : (n : Int) ≤ 64 := by omega
  rw [hnx, hL]
  clear hX hY hn hi hx hy hI hr hba hG hnx hL
  go_enter Tryz.func115, Tryz.ntmps115
  (repeat (first | (with_reducible first | refine xA ?_ | refine xB ?_ | refine xC ?_ | refine xD ?_ | refine xH ?_ | refine xI rfl ?_ | refine xE ?_ | refine xF ?_ | refine xG ?_) | go_values | go_skip | go_guarded | go_step | go_upon | go_back | ((with_reducible show Oper.upon _ _ _ _ _ _); go_simp) | (dsimp only)))
  go_loopw [1, 9, 14] (fun xv cv iv wr => ∃ (k : Nat) (gk : G) (xk : List Int) (far : Int) (sk : Nat → Bool), k ≤ L ∧ iv = .int .i64 k ∧ cv = .int .i64 far ∧ Hid (SH1 g fr s xs ys i n k gk xk far sk) ∧ Hid (∃ Y : Nat → Prop, (∀ q, X q → Y q) ∧ SlX Y wr xv xk ∧ GR Y base wr gb gk) ∧ Kept X w wr) (fun _ _ iv _ => L - (intOf iv).toNat)
  case atStart => exact ⟨0, g, xs, -1, s, Nat.zero_le _, rfl, rfl, Lib.hid ⟨by simp, HNX.out, HI.out, Step.refl _ _, Nat.le_refl _, Hx.out, (isL_one HI.out).neg⟩, Lib.hid ⟨X, fun _ h => h, HX.out, HG.out⟩, Kept.refl _ _⟩
  case round =>
    obtain ⟨k, gk, xk, far, sk, hk, rfl, rfl, hZ, hYX, hK⟩ := hrel
    obtain ⟨Y, hXY, hSX, hGY⟩ := hYX.out
    obtain ⟨ax, cx, rfl⟩ := hSX.shape
    have hlen : xk.length = n := hZ.out.len
    have HLEN := Lib.hid hlen
    rw [hlen] at hSX
    rw [hlen]
    have HXY := Lib.hid hXY
    have HSX := Lib.hid hSX
    have HGY := Lib.hid hGY
    clear hYX hXY hSX hGY hlen
    rcases Nat.lt_or_ge k L with hlt | hge
    · obtain ⟨by', oy, rfl, xby, lby, cby, HRy⟩ := HY.out.row (by rw [HL.out]; omega)
      obtain ⟨c, hc⟩ : ∃ c, ys[k]? = some c := ⟨_, List.getElem?_eq_getElem (by rw [HL.out]; omega)⟩
      have hcc := hK.cell (HRy k c hc) xby
      have HCL := Lib.hid (Hy.out c (List.mem_of_getElem? hc))
      have HC := Lib.hid hc
      have i0 : (0 : Int) ≤ (k : Int) := by omega
      have i1 : (k : Int) < (L : Int) := by omega
      clear hc HRy
      have hZo := hZ.out
      have hgk : gk.n + 3 * n + 1 ≤ 1048576 := by
        have h1 := hZo.le
        have h2 := Hn.out
        have h3 : (3 * n + 1) * k ≤ (3 * n + 1) * L := Nat.mul_le_mul_left _ hk
        have h4 : (3 * n + 1) * (k + 1) ≤ (3 * n + 1) * L := Nat.mul_le_mul_left _ hlt
        rw [Nat.mul_add] at h4
        omega
      have HA := Lib.hid (show gk.n + 3 * n ≤ 1048576 by omega)
      have HB := Lib.hid (show gk.n < 1048576 by omega)
      have HCn := Lib.hid (show n ≤ 1000000 by omega)
      clear hgk
      obtain ⟨m, hm⟩ : ∃ m, 2 ^ k = m := ⟨_, rfl⟩
      have hba1 : base ≤ wr.heap.size := Nat.le_trans HBA.out hK.size
      by_cases hk7 : k < 7
      · have hsh := shl_wrap hm hk7
        have hm64 : m ≤ 64 := by rw [← hm]; exact Nat.pow_le_pow_right (n := 2) (by decide) (show k ≤ 6 by omega)
        have hk7' : (k : Int) < 7 := by omega
        obtain ⟨rc, hrc⟩ : ∃ rc, chooseG gk c (upL xk m i) xk = rc := ⟨_, rfl⟩
        obtain ⟨re, hre⟩ : ∃ re, either gk far c = re := ⟨_, rfl⟩
        have HUP := Lib.hid (up_n (X := Y) n wr (.slice ax n cx) xk HSX.out HLEN.out HCn.out m (Nat.le_trans hm64 (by decide)) i)
        have HCH := Lib.hid (fun (w1 : World) (hb1 : Below wr.heap.size wr w1) (hO1 : OwnI w1 wr.heap.size n (upL xk m i)) => choose_n (X := fun q => Y q ∨ q = wr.heap.size) n w1 (HGY.out.owned (below_own hb1) (Nat.le_refl _) hO1.lt) (Nat.le_trans hba1 hb1.size) c _ (.slice ax n cx) (upL xk m i) xk (hO1.slX (.inr rfl)) ((HSX.out.kept (Kept.ofBelow hb1)).mono fun _ _ h => .inl h) (by rw [upL_len]; exact HLEN.out) HLEN.out HA.out HCn.out (hZo.st.isL HCL.out) (upL_isL hZo.lx (hZo.st.isL Hi.out)) hZo.lx hZo.gi rc hrc)
        have HEI := Lib.hid (either_any wr HGY.out HB hba1 far c (Lib.hid hZo.lf) (Lib.hid (hZo.st.isL HCL.out)) (Lib.hid hZo.gi) re (Lib.hid hre))
        have HZU := Lib.hid (fun hup : m < n => by
          have h := shift_walk_up hZo HC.out HCL.out Hi.out ⟨hk7, by rw [hm]; exact hup⟩
          rw [hm, hrc] at h; exact h)
        have HZE := Lib.hid (fun hup : ¬ m < n => by
          have h := shift_walk_far hZo HC.out HCL.out (by rw [hm]; exact fun h => hup h.2)
          rw [hre] at h; exact h)
        clear hZo hrc hre hm hm64
        (repeat (first | (with_reducible first | refine xA ?_ | refine xB ?_ | refine xC ?_ | refine xD ?_ | refine xH ?_ | refine xI rfl ?_ | refine xE ?_ | refine xF ?_ | refine xG ?_) | (go_at_call 132; (with_reducible refine (HUP.out).mono ?_); rintro _ w1 ⟨rfl, hO1, hb1⟩) | (go_at_call 83; (with_reducible refine (HCH.out w1 hb1 hO1).mono ?_); rintro _ w2 ⟨q2, rfl, hO2, hq2, hG2, hk2⟩) | go_values | go_skip | go_guarded | go_step | go_upon | go_back | ((with_reducible show Oper.upon _ _ _ _ _ _); go_simp) | (dsimp only)))
        · obtain ⟨s', hZ'⟩ := HZU.out (by assumption)
          exact ⟨⟨k + 1, rc.1, rc.2, far, s', by omega, by go_num, rfl, Lib.hid hZ', Lib.hid ⟨_, fun q h => .inl (.inl (HXY.out q h)), hO2.slX (.inr rfl), hG2⟩, (hK.trans (Kept.ofBelow hb1)).trans (hk2.mono fun q _ h => .inl (HXY.out q h))⟩, by simp [intOf]; omega⟩
        · have hup : ¬ m < n := by assumption
          (repeat (first | (with_reducible first | refine xA ?_ | refine xB ?_ | refine xC ?_ | refine xD ?_ | refine xH ?_ | refine xI rfl ?_ | refine xE ?_ | refine xF ?_ | refine xG ?_) | go_skip | go_guarded | (go_at_call 113; (with_reducible refine (HEI.out).mono ?_); rintro _ w1 ⟨rfl, hG1, hk1⟩) | go_values | go_skip | go_guarded | go_step | go_upon | go_back | ((with_reducible show Oper.upon _ _ _ _ _ _); go_simp) | (dsimp only)))
          obtain ⟨s', hZ'⟩ := HZE.out hup
          exact ⟨⟨k + 1, re.1, xk, re.2, s', by omega, by go_num, rfl, Lib.hid hZ', Lib.hid ⟨Y, HXY.out, HSX.out.kept hk1, hG1⟩, hK.trans (hk1.mono fun q _ h => HXY.out q h)⟩, by simp [intOf]; omega⟩
      · have hk7' : ¬ (k : Int) < 7 := by omega
        obtain ⟨rc, hrc⟩ : ∃ rc, either gk far c = rc := ⟨_, rfl⟩
        obtain ⟨s', hZ'⟩ := shift_walk_far hZo HC.out HCL.out (fun h => hk7 h.1)
        rw [hrc] at hZ'
        have HZ' := Lib.hid hZ'
        have HEI := Lib.hid (either_any wr HGY.out HB hba1 far c (Lib.hid hZo.lf) (Lib.hid (hZo.st.isL HCL.out)) (Lib.hid hZo.gi) rc (Lib.hid hrc))
        clear hZ' hZo hrc hm
        (repeat (first | (with_reducible first | refine xA ?_ | refine xB ?_ | refine xC ?_ | refine xD ?_ | refine xH ?_ | refine xI rfl ?_ | refine xE ?_ | refine xF ?_ | refine xG ?_) | go_skip | go_guarded | (go_at_call 113; (with_reducible refine (HEI.out).mono ?_); rintro _ w1 ⟨rfl, hG1, hk1⟩) | go_values | go_skip | go_guarded | go_step | go_upon | go_back | ((with_reducible show Oper.upon _ _ _ _ _ _); go_simp) | (dsimp only)))
        exact ⟨⟨k + 1, rc.1, xk, rc.2, s', by omega, by go_num, rfl, HZ', Lib.hid ⟨Y, HXY.out, HSX.out.kept hk1, hG1⟩, hK.trans (hk1.mono fun q _ h => HXY.out q h)⟩, by simp [intOf]; omega⟩
    · obtain rfl : k = L := by omega
      have hZo := hZ.out
      have he := hZo.eq
      rw [List.drop_of_length_le (by rw [HL.out]; exact Nat.le_refl _)] at he
      simp only [shiftG] at he
      rw [hZo.len] at he
      obtain ⟨rc, hrc⟩ : ∃ rc, chooseG gk far (upL xk n i) xk = rc := ⟨_, rfl⟩
      have hR : Hid (r = rc) := Lib.hid (by rw [← Hr.out, he, hrc])
      have hba1 : base ≤ wr.heap.size := Nat.le_trans HBA.out hK.size
      have hgk : gk.n + 3 * n ≤ 1048576 := by have := hZo.le; have := Hn.out; omega
      have HUP := Lib.hid (up_n (X := Y) n wr (.slice ax n cx) xk HSX.out HLEN.out (by omega) n (by omega) i)
      have HCH := Lib.hid (fun (w1 : World) (hb1 : Below wr.heap.size wr w1) (hO1 : OwnI w1 wr.heap.size n (upL xk n i)) => choose_n (X := fun q => Y q ∨ q = wr.heap.size) n w1 (HGY.out.owned (below_own hb1) (Nat.le_refl _) hO1.lt) (Nat.le_trans hba1 hb1.size) far _ (.slice ax n cx) (upL xk n i) xk (hO1.slX (.inr rfl)) ((HSX.out.kept (Kept.ofBelow hb1)).mono fun _ _ h => .inl h) (by rw [upL_len]; exact HLEN.out) HLEN.out hgk (by omega) hZo.lf (upL_isL hZo.lx (hZo.st.isL Hi.out)) hZo.lx hZo.gi rc hrc)
      clear hZo he hrc hgk
      (repeat (first | (with_reducible first | refine xA ?_ | refine xB ?_ | refine xC ?_ | refine xD ?_ | refine xH ?_ | refine xI rfl ?_ | refine xE ?_ | refine xF ?_ | refine xG ?_) | go_skip | go_guarded | (go_at_call 132; (with_reducible refine (HUP.out).mono ?_); rintro _ w1 ⟨rfl, hO1, hb1⟩) | (go_at_call 83; (with_reducible refine (HCH.out w1 hb1 hO1).mono ?_); rintro _ w2 ⟨q2, rfl, hO2, hq2, hG2, hk2⟩) | go_values | go_skip | go_guarded | go_step | go_upon | go_back | ((with_reducible show Oper.upon _ _ _ _ _ _); go_simp) | (dsimp only)))
      go_ret
      rw [hR.out]
      exact ⟨q2, rfl, hO2, Nat.le_trans hK.size (Nat.le_trans hb1.size hq2), hG2.less fun q h => h.elim (fun h => .inl (.inl (HXY.out q h))) .inr, (hK.trans (Kept.ofBelow hb1)).trans (hk2.mono fun q _ h => .inl (HXY.out q h))⟩
end Go.Proofs.YtmaogkgjiplckaaGreat
namespace Go.Proofs.YtmaogkgjiplckaaGreat
open Go.RowKit
structure PR1 (g : G) (fr : List Int) (s : Nat → Bool) (xs ys o0 : List Int) (n k : Nat) (gk : G) (out : List Int) (sk : Nat → Bool) : Prop where
  eq : prodG g o0 xs 0 ys = prodG gk out xs k (ys.drop k)
  len : out.length = n
  gi : GI gk fr sk
  st : Step g s gk sk
  le : gk.n ≤ g.n + 6 * n * k
  lo : ∀ a ∈ out, isL gk.n a
structure PR2 (g : G) (fr : List Int) (s : Nat → Bool) (xs ys o0 : List Int) (n k : Nat) (gk : G) (out : List Int) (sk : Nat → Bool) (p : G × List Int) (t : G × List Int × Int) : Prop where
  ep : zipG (fun g x _ => both g x (ys.getD k 0)) gk (upL xs k (-1)) (upL xs k (-1)) = p
  et : sumG p.1 out p.2 (-1) = t
  lp : p.2.length = n
  lpi : ∀ a ∈ p.2, isL p.1.n a
  lpo : ∀ a ∈ out, isL p.1.n a
  pn : p.1.n ≤ gk.n + n
  gi : ∃ s1, GI p.1 fr s1
  fin : ∃ s2, PR1 g fr s xs ys o0 n (k + 1) t.1 t.2.1 s2
theorem PR1.next {g : G} {fr : List Int} {s : Nat → Bool} {xs ys o0 : List Int} {n k : Nat} {gk : G} {out : List Int} {sk : Nat → Bool} (h : PR1 g fr s xs ys o0 n k gk out sk) {c : Int} (hc : ys[k]? = some c) (hcL : isL g.n c) (hx : ∀ a ∈ xs, isL g.n a) (hxn : xs.length = n) : ∃ p t, PR2 g fr s xs ys o0 n k gk out sk p t := by
  have e0 : ys.getD k 0 = c := by rw [List.getD_eq_getElem?_getD, hc]; rfl
  have hu : ∀ a ∈ upL xs k (-1), isL gk.n a := upL_isL (fun a ha => h.st.isL (hx a ha)) (isL_one h.gi).neg
  obtain ⟨s1, i1, t1, n1, l1, ln1, _⟩ := withN_ok h.gi hu (h.st.isL hcL)
  rw [upL_len, hxn] at n1 ln1
  obtain ⟨p, hp⟩ : ∃ p, zipG (fun g x _ => both g x c) gk (upL xs k (-1)) (upL xs k (-1)) = p := ⟨_, rfl⟩
  rw [hp] at i1 t1 n1 l1 ln1
  have ho : ∀ a ∈ out, isL p.1.n a := fun a ha => t1.isL (h.lo a ha)
  obtain ⟨s2, i2, t2, n2, l2, _, ln2, _⟩ := sum_ok out p.2 p.1 s1 (-1) i1 (isL_one i1).neg ho l1 (by rw [h.len, ln1])
  obtain ⟨t, ht⟩ : ∃ t, sumG p.1 out p.2 (-1) = t := ⟨_, rfl⟩
  rw [ht] at i2 t2 n2 l2 ln2
  refine ⟨p, t, by rw [e0]; exact hp, ht, ln1, l1, ho, n1, ⟨s1, i1⟩, s2, ?_, by rw [ln2, h.len], i2, (h.st.trans t1).trans t2, ?_, l2⟩
  · rw [h.eq, list_drop hc]
    simp only [prodG]
    rw [hp, ht]
  · have := h.le; have h5 := h.len; rw [h5] at n2; rw [Nat.mul_add]; omega
theorem row_set {outs P : List Int} {j : Nat} (h : outs.length = j) (hj : j < P.length) (v : Int) : (outs ++ P.drop j).set j v = (outs ++ [v]) ++ P.drop (j + 1) := by
  subst h
  rw [List.set_append_right _ _ (Nat.le_refl _), Nat.sub_self, List.drop_eq_getElem_cons hj, List.set_cons_zero, List.append_assoc]
  rfl
theorem row_at {outs P : List Int} {j : Nat} {x : Int} (h : outs.length = j) (hx : P[j]? = some x) : (outs ++ P.drop j)[j]? = some x := by
  subst h
  rw [List.getElem?_append_right (Nat.le_refl _), Nat.sub_self, List.getElem?_drop]
  simpa using hx
set_option maxRecDepth 100000 in
set_option maxHeartbeats 2000000 in
theorem product_any {X : Nat → Prop} {base gb : Nat} {g : G} {fr : List Int} {s : Nat → Bool} (w : World) (hG : GR X base w gb g) (hba : base ≤ w.heap.size) (vx vy : Value) (xs ys : List Int) (hX : SlX X w vx xs) (hY : SlX X w vy ys) (n : Nat) (hxn : xs.length = n) (hyn : ys.length = n) (hn1 : 1 ≤ n) (hn2 : n ≤ 64) (hn : g.n + 6 * n * n ≤ 1048576) (hx : ∀ x ∈ xs, isL g.n x) (hy : ∀ y ∈ ys, isL g.n y) (hI : GI g fr s) (r : G × List Int) (hr : prodG g (constL n 0) xs 0 ys = r) :
    Calls Tryz.prog 109 #[.pointer (some ⟨gb, 0, none⟩), vx, vy] w (Word1 X base gb n w r) := by
  obtain ⟨ax, cx, rfl⟩ := hX.shape
  obtain ⟨ay, cy, rfl⟩ := hY.shape
  have HWC := Lib.hid (WordC_any w gb (n : Int) 0 (by decide) (by decide) n (by omega))
  rw [hxn] at hX ⊢
  rw [hyn] at hY ⊢
  have HX := Lib.hid hX
  have HY := Lib.hid hY
  have Hn := Lib.hid hn
  have Hx := Lib.hid hx
  have Hy := Lib.hid hy
  have HI := Lib.hid hI
  have Hr := Lib.hid hr
  have HBA := Lib.hid hba
  have HG := Lib.hid hG
  have HXN := Lib.hid hxn
  have HYN := Lib.hid hyn
  have hn64 : (n : Int) ≤ 64 := by omega
  clear hX hY hn hx hy hI hr hba hG hxn hyn
  go_enter Tryz.func109, Tryz.ntmps109
  (repeat (first | (with_reducible first | refine xA ?_ | refine xB ?_ | refine xC ?_ | refine xD ?_ | refine xH ?_ | refine xI rfl ?_ | refine xE ?_ | refine xF ?_ | refine xG ?_) | go_skip | go_guarded | (go_at_call 61; (with_reducible refine (HWC.out).mono ?_); rintro _ w1 ⟨rfl, hO1, hb1⟩) | go_values | go_skip | go_guarded | go_step | go_upon | go_back | ((with_reducible show Oper.upon _ _ _ _ _ _); go_simp) | (dsimp only)))
  have hG1 := HG.out.owned (below_own hb1) (Nat.le_refl _) hO1.lt
  have hK1 : Kept X w w1 := Kept.ofBelow hb1
  have hC0 : ∀ a ∈ constL n (0 : Int).toNat, isL g.n a := constL_isL HI.out.pos
  go_loopw [7, 18] (fun ov iv wr => ∃ (k : Nat) (gk : G) (out : List Int) (sk : Nat → Bool) (q : Nat), k ≤ n ∧ iv = .int .i64 k ∧ ov = .slice (some ⟨q, 0, none⟩) n n ∧ Hid (PR1 g fr s xs ys (constL n 0) n k gk out sk) ∧ OwnI wr q n out ∧ Hid (w.heap.size ≤ q) ∧ Hid (∃ Y : Nat → Prop, (∀ q, X q → Y q) ∧ Y q ∧ GR Y base wr gb gk) ∧ Kept X w wr) (fun _ iv _ => n - (intOf iv).toNat)
  case atStart => exact ⟨0, g, _, s, w.heap.size, Nat.zero_le _, rfl, rfl, Lib.hid ⟨by simp, constL_len _ _, HI.out, Step.refl _ _, Nat.le_refl _, hC0⟩, hO1, Lib.hid (Nat.le_refl _), Lib.hid ⟨_, fun q h => .inl h, .inr rfl, hG1⟩, hK1⟩
  case round =>
    clear hO1 hb1 hG1 hK1 hC0 HWC
    obtain ⟨k, gk, out, sk, q, hk, rfl, rfl, hZ, hO, HQ, hYX, hK⟩ := hrel
    obtain ⟨wo, rfl⟩ : ∃ wo, wo = wr := ⟨_, rfl⟩
    obtain ⟨Y, hXY, hYq, hGY⟩ := hYX.out
    have HXY := Lib.hid hXY
    have HYQ := Lib.hid hYq
    have HGY := Lib.hid hGY
    have HO := Lib.hid hO
    clear hYX hXY hYq hGY hO
    rcases Nat.lt_or_ge k n with hlt | hge
    · obtain ⟨by', oy, rfl, xby, lby, cby, HRy⟩ := HY.out.row (by rw [HYN.out]; omega)
      obtain ⟨c, hc⟩ : ∃ c, ys[k]? = some c := ⟨_, List.getElem?_eq_getElem (by rw [HYN.out]; omega)⟩
      have hcc := hK.cell (HRy k c hc) xby
      have HCL := Lib.hid (Hy.out c (List.mem_of_getElem? hc))
      have HC := Lib.hid hc
      have i0 : (0 : Int) ≤ (k : Int) := by omega
      have i1 : (k : Int) < (n : Int) := by omega
      have hZo := hZ.out
      obtain ⟨p, t, hP2⟩ := hZo.next hc HCL.out Hx.out HXN.out
      have HP2 := Lib.hid hP2
      have hgk : gk.n + 6 * n ≤ 1048576 := by
        have h1 := hZo.le
        have h2 := Hn.out
        have h4 : 6 * n * (k + 1) ≤ 6 * n * n := Nat.mul_le_mul_left _ hlt
        rw [Nat.mul_add] at h4
        omega
      have HGK := Lib.hid hgk
      have hba1 : base ≤ wo.heap.size := Nat.le_trans HBA.out hK.size
      have HUP := Lib.hid (up_n (X := X) n wo (.slice ax n cx) xs (HX.out.kept hK) HXN.out (by omega) k (by omega) (-1))
      obtain ⟨P, hP⟩ : ∃ P, upL xs k (-1) = P := ⟨_, rfl⟩
      have hPl : P.length = n := by rw [← hP, upL_len]; exact HXN.out
      have hPL : ∀ a ∈ P, isL gk.n a := by rw [← hP]; exact upL_isL (fun a ha => hZo.st.isL (Hx.out a ha)) (isL_one hZo.gi).neg
      have e0 : ys.getD k 0 = c := by rw [List.getD_eq_getElem?_getD, hc]; rfl
      rw [hP] at HUP
      have HPL := Lib.hid hPl
      have HPI := Lib.hid hPL
      have HEP := Lib.hid (show zipG (fun g x _ => both g x c) gk P P = p by rw [← hP, ← e0]; exact hP2.ep)
      clear hc HRy hZo hP2 hgk hP hPl hPL e0
      (repeat (first | (with_reducible first | refine xA ?_ | refine xB ?_ | refine xC ?_ | refine xD ?_ | refine xH ?_ | refine xI rfl ?_ | refine xE ?_ | refine xF ?_ | refine xG ?_) | go_skip | go_guarded | (go_at_call 132; (with_reducible refine (HUP.out).mono ?_); rintro _ w2 ⟨rfl, hO2, hb2⟩) | go_values | go_skip | go_guarded | go_step | go_upon | go_back | ((with_reducible show Oper.upon _ _ _ _ _ _); go_simp) | (dsimp only)))
      obtain ⟨pb, hpb⟩ : ∃ pb, wo.heap.size = pb := ⟨_, rfl⟩
      have hG2 := HGY.out.owned (below_own hb2) (Nat.le_refl _) hO2.lt
      rw [hpb] at hO2 hG2
      rw [hpb]
      have HPB := Lib.hid hpb
      have HB2 := Lib.hid hb2
      have hO2' : OwnI w2 pb n ([] ++ P.drop 0) := by simpa using hO2
      clear hpb hb2 hO2
      go_loopw [28] (fun jv wj => ∃ (j : Nat) (gj : G) (outs : List Int) (sj : Nat → Bool), j ≤ n ∧ jv = .int .i64 j ∧ Hid (ZS (fun g x _ => both g x c) 1 gk fr sk P P j gj outs sj) ∧ OwnI wj pb n (outs ++ P.drop j) ∧ GR (fun k => Y k ∨ k = pb) base wj gb gj ∧ Kept Y w2 wj) (fun jv _ => n - (intOf jv).toNat)
      case atStart => exact ⟨0, gk, [], sk, Nat.zero_le _, rfl, Lib.hid (ZS.start hZ.out.gi), hO2', hG2, Kept.refl _ _⟩
      case round =>
        clear hO2' hG2
        obtain ⟨j, gj, outs, sj, hj, rfl, hZj, hOj, hGj, hKj⟩ := hrel
        rcases Nat.lt_or_ge j n with hjt | hje
        · obtain ⟨x, hx⟩ : ∃ x, P[j]? = some x := ⟨_, List.getElem?_eq_getElem (by rw [HPL.out]; exact hjt)⟩
          have hcx := hOj.row j x (row_at hZj.out.len hx)
          rw [Nat.zero_add] at hcx
          have j0 : (0 : Int) ≤ (j : Int) := by omega
          have j1 : (j : Int) < (n : Int) := by omega
          obtain ⟨rk, hrk⟩ : ∃ rk, both gj x c = rk := ⟨_, rfl⟩
          have hst := hZj.out.st
          have hcj := hst.isL (hZ.out.st.isL HCL.out)
          have hxj := hst.isL (HPI.out x (List.mem_of_getElem? hx))
          have hnj : gj.n < 1048576 := by have := hZj.out.le; have := HGK.out; omega
          obtain ⟨s2, hZ2⟩ := hZj.out.next HPI.out HPI.out hx hx hrk (fun a _ => by
            obtain ⟨s', q1, q2, q3, _⟩ := both_ok hZj.out.gi a hcj
            rw [hrk] at q1 q2 q3
            exact ⟨s', q1, q2, q3⟩)
          have HZ2 := Lib.hid hZ2
          have HBO := Lib.hid (both_any wr hGj (Lib.hid hnj) (Nat.le_trans hba1 (Nat.le_trans HB2.out.size hKj.size)) x c (Lib.hid hxj) (Lib.hid hcj) rk (Lib.hid hrk))
          have HZL := Lib.hid hZj.out.len
          have HPJ := Lib.hid (show j < P.length by rw [HPL.out]; exact hjt)
          clear hx hst hcj hxj hnj hZ2 hrk hGj
          (repeat (first | (with_reducible first | refine xA ?_ | refine xB ?_ | refine xC ?_ | refine xD ?_ | refine xH ?_ | refine xI rfl ?_ | refine xE ?_ | refine xF ?_ | refine xG ?_) | go_skip | go_guarded | (go_at_call 112; (with_reducible refine (HBO.out).mono ?_); rintro _ w3 ⟨rfl, hG3, hk3⟩; have hO3 := hOj.kept hk3 (.inr rfl)) | ((with_reducible refine wl_id ?_); refine wl_store_own rfl _ _ rfl pb n _ j rfl rk.2 rfl hO3 hjt ?_; intro w4 hO4 hg4; (rw [row_set HZL.out HPJ.out] at hO4); (try simp only [Act.put, qz4, qz5, qz6])) | go_values | go_skip | go_guarded | go_step | go_upon | go_back | ((with_reducible show Oper.upon _ _ _ _ _ _); go_simp) | (dsimp only)))
          exact ⟨⟨j + 1, rk.1, outs ++ [rk.2], s2, by omega, by go_num, HZ2, hO4, hG3.other hg4 (.inr rfl), (hKj.trans (hk3.mono fun _ _ h => .inl h)).grown hg4 (fun q e hl hY => by injection e with e; subst e; have := HGY.out.xb _ hY; have := HPB.out; omega)⟩, by simp [intOf]; omega⟩
        · obtain rfl : n = j := by omega
          have hz := hZj.out.eq
          rw [List.take_of_length_le (Nat.le_of_eq HPL.out)] at hz
          have hp1 : p = (gj, outs) := by rw [← HEP.out]; exact hz
          subst hp1
          rw [List.drop_of_length_le (Nat.le_of_eq HPL.out), List.append_nil] at hOj
          obtain ⟨s1, hI1⟩ := HP2.out.gi
          obtain ⟨s2, hF2⟩ := HP2.out.fin
          have HF2 := Lib.hid hF2
          have hZl := hZ.out.len
          have hKall : Kept Y wo wr := (Kept.ofBelow HB2.out).trans hKj
          have hSo : SlX (fun k => Y k ∨ k = pb) wr (.slice (some ⟨q, 0, none⟩) n n) out := (HO.out.slX (X := fun k => Y k ∨ k = pb) (.inl HYQ.out)).kept (hKall.mono fun k hk h => h.elim id fun e => absurd hk (by have := HPB.out; omega))
          have HSU := Lib.hid (sum_any (X := fun k => Y k ∨ k = pb) wr hGj (Nat.le_trans hba1 hKall.size) _ _ out outs (-1) hSo (hOj.slX (.inr rfl)) (by rw [HP2.out.lp, hZl]) (by have h1 : gj.n ≤ gk.n + n := HP2.out.pn; have h2 := HGK.out; rw [hZl]; show gj.n + 5 * n ≤ _; omega) (by rw [hZl]; omega) (isL_one hI1).neg HP2.out.lpo HP2.out.lpi hI1 t HP2.out.et)
          rw [hZl] at HSU
          clear hz hI1 hF2 hZl hSo hGj hOj
          (repeat (first | (with_reducible first | refine xA ?_ | refine xB ?_ | refine xC ?_ | refine xD ?_ | refine xH ?_ | refine xI rfl ?_ | refine xE ?_ | refine xF ?_ | refine xG ?_) | go_skip | go_guarded | (go_at_call 108; (with_reducible refine (HSU.out).mono ?_); rintro _ w5 ⟨q5, rfl, hO5, hq5, hG5, hk5⟩) | go_values | go_skip | go_guarded | go_step | go_upon | go_back | ((with_reducible show Oper.upon _ _ _ _ _ _); go_simp) | (dsimp only)))
          have hfin : Kept Y wo w5 := hKall.trans (hk5.mono fun _ _ h => .inl h)
          exact ⟨⟨k + 1, t.1, t.2.1, s2, q5, by omega, by go_num, rfl, HF2, hO5, Lib.hid (Nat.le_trans hK.size (Nat.le_trans hKall.size hq5)), Lib.hid ⟨_, fun q h => .inl (.inl (HXY.out q h)), .inr rfl, hG5⟩, hK.trans (hfin.mono fun q _ h => HXY.out q h)⟩, by simp [intOf]; omega⟩
    · obtain rfl : n = k := by omega
      have he := hZ.out.eq
      rw [List.drop_of_length_le (by rw [HYN.out]; exact Nat.le_refl _)] at he
      simp only [prodG] at he
      have hR : Hid (r = (gk, out)) := Lib.hid (by rw [← Hr.out]; exact he)
      clear he
      (repeat (first | (with_reducible first | refine xA ?_ | refine xB ?_ | refine xC ?_ | refine xD ?_ | refine xH ?_ | refine xI rfl ?_ | refine xE ?_ | refine xF ?_ | refine xG ?_) | go_values | go_skip | go_guarded | go_step | go_upon | go_back | ((with_reducible show Oper.upon _ _ _ _ _ _); go_simp) | (dsimp only)))
      go_ret
      rw [hR.out]
      exact ⟨q, rfl, HO.out, HQ.out, HGY.out.less fun k h => h.elim (HXY.out k) fun e => e ▸ HYQ.out, hK⟩
end Go.Proofs.YtmaogkgjiplckaaGreat
namespace Go.Proofs.YtmaogkgjiplckaaGreat
open Go.RowKit
theorem turn_row {Y : Nat → Prop} {base gb B n m : Nat} {T : TypeId} {w w' : World} {g : G} {v v' : Value} {l l' : List Value} (ho : w.ownsRow B T 1 v n l) (ho' : w'.ownsRow B T 1 v' m l') (hg : w.grownBy w' v.ownBlock) (hl : v'.ownBlock = v.ownBlock ∨ v'.ownBlock = some w.heap.size) (hG : GR Y base w gb g) (hY : ∀ k, v.ownBlock = some k → Y k) : GR (fun k => Y k ∨ v'.ownBlock = some k) base w' gb g := by
  have hx := hG.xb
  refine hG.turn hg hY ?_ ?_
  · rintro k (h | h)
    · exact .inl h
    · rcases hl with e | e
      · rw [e] at h; exact .inl (hY k h)
      · rw [e] at h; cases h; exact .inr (Nat.le_refl _)
  · rintro k (h | h)
    · exact Nat.lt_of_lt_of_le (hx k h) hg.size
    · exact (ho'.lt k h).2
theorem turn_new {Y : Nat → Prop} {base gb n : Nat} {w w' : World} {g : G} {v : Value} {l : List Value} (hG : GR Y base w gb g) (hb : Below w.heap.size w w') (ho : w'.ownsRow w.heap.size 3 1 v n l) : GR (fun k => Y k ∨ v.ownBlock = some k) base w' gb g := by
  have hx := hG.xb
  refine hG.turn (below_own hb) (fun q e => by cases e) ?_ ?_
  · rintro k (h | h)
    · exact .inl h
    · exact .inr (ho.lt k h).1
  · rintro k (h | h)
    · exact Nat.lt_of_lt_of_le (hx k h) hb.size
    · exact (ho.lt k h).2
theorem own_sl {X : Nat → Prop} {w : World} {B n : Nat} {v : Value} {l : List Int} (h : w.ownsRow B 3 1 v n (l.map (Value.int .i64))) (hX : ∀ k, v.ownBlock = some k → X k) : SlX X w v l := by
  have hl : l.length = n := by simpa using h.1
  subst hl
  exact SlX.ofOwns h fun g _ e => hX g e.symm
theorem SlX.cut {X : Nat → Prop} {w : World} {q n c : Nat} {l : List Int} (h : SlX X w (.slice (some ⟨q, 0, none⟩) (n + 1) c) l) (hl : l.length = n + 1) : SlX X w (.slice (some ⟨q, 0, none⟩) n c) (l.take n) := by
  obtain ⟨b, o, e, xb, lb, hc, hR⟩ := h.row (by omega)
  injection e with e
  injection e with e1 e2
  subst e1; subst e2
  refine ⟨_, c, by rw [List.length_take, hl]; simp, by simp; omega, by simp, fun _ => ⟨q, 0, rfl, xb, lb, fun i x hi => ?_⟩⟩
  rw [List.getElem?_take] at hi
  split at hi
  · exact hR i x hi
  · cases hi
structure DV1 (g : G) (fr : List Int) (s : Nat → Bool) (xs ys : List Int) (n m : Nat) (gk : G) (rk qk : List Int) (sk : Nat → Bool) : Prop where
  eq : divG g xs.reverse (constL n 0) ys [] = divG gk (xs.take (n - m)).reverse rk ys qk
  lr : rk.length = n
  lq : qk.length = m
  gi : GI gk fr sk
  st : Step g s gk sk
  le : gk.n ≤ g.n + 8 * (n + 1) * m
  ir : ∀ a ∈ rk, isL gk.n a
structure DV2 (g : G) (fr : List Int) (s : Nat → Bool) (xs ys : List Int) (n m : Nat) (gk : G) (rk qk : List Int) (sk : Nat → Bool) (d : Int) (t : G × List Int × Int) (c : G × List Int) : Prop where
  et : sumG gk (d :: rk) (notL (ys ++ [-1])) 1 = t
  ec : chooseG t.1 t.2.2 t.2.1 (d :: rk) = c
  id : ∀ a ∈ d :: rk, isL gk.n a
  iw : ∀ a ∈ notL (ys ++ [-1]), isL gk.n a
  tn : t.1.n ≤ gk.n + 5 * (n + 1)
  it : (∀ a ∈ t.2.1, isL t.1.n a) ∧ isL t.1.n t.2.2 ∧ (∀ a ∈ d :: rk, isL t.1.n a) ∧ t.2.1.length = n + 1
  gt : ∃ s1, GI t.1 fr s1
  cn : c.2.length = n + 1
  fin : ∃ s2, DV1 g fr s xs ys n (m + 1) c.1 (c.2.take n) (t.2.2 :: qk) s2
theorem DV1.next {g : G} {fr : List Int} {s : Nat → Bool} {xs ys : List Int} {n m k : Nat} {gk : G} {rk qk : List Int} {sk : Nat → Bool} (h : DV1 g fr s xs ys n m gk rk qk sk) (hk : k + m + 1 = n) {d : Int} (hd : xs[k]? = some d) (hx : ∀ a ∈ xs, isL g.n a) (hy : ∀ a ∈ ys, isL g.n a) (hyn : ys.length = n) : ∃ t c, DV2 g fr s xs ys n m gk rk qk sk d t c := by
  have hdL := h.st.isL (hx d (List.mem_of_getElem? hd))
  have h1 : ∀ a ∈ d :: rk, isL gk.n a := fun a ha => by
    rcases List.mem_cons.1 ha with rfl | ha
    · exact hdL
    · exact h.ir a ha
  have hw : ∀ a ∈ ys ++ [-1], isL gk.n a := fun a ha => by
    rcases List.mem_append.1 ha with ha | ha
    · exact h.st.isL (hy a ha)
    · rw [List.mem_singleton] at ha; subst ha; exact (isL_one h.gi).neg
  have h2 := notL_isL hw
  have hl : (d :: rk).length = (notL (ys ++ [-1])).length := by rw [notL_len]; simp [h.lr, hyn]
  obtain ⟨s1, i1, t1, n1, l1, c1, ln1, _⟩ := sum_ok (d :: rk) (notL (ys ++ [-1])) gk sk 1 h.gi (isL_one h.gi) h1 h2 hl
  obtain ⟨t, ht⟩ : ∃ t, sumG gk (d :: rk) (notL (ys ++ [-1])) 1 = t := ⟨_, rfl⟩
  rw [ht] at i1 t1 n1 l1 c1 ln1
  have hlr : (d :: rk).length = n + 1 := by simp [h.lr]
  rw [hlr] at n1 ln1
  have h3 : ∀ a ∈ d :: rk, isL t.1.n a := fun a ha => t1.isL (h1 a ha)
  obtain ⟨s2, i2, t2, n2, l2, _⟩ := chooseG_ok i1 c1 l1 h3 (by rw [ln1, hlr])
  obtain ⟨c, hc⟩ : ∃ c, chooseG t.1 t.2.2 t.2.1 (d :: rk) = c := ⟨_, rfl⟩
  have hcn : c.2.length = n + 1 := by rw [← hc]; unfold chooseG; rw [zipG_len _ _ _ _ (by rw [ln1, hlr]), ln1]
  rw [hc] at i2 t2 n2 l2
  rw [ln1] at n2
  refine ⟨t, c, ht, hc, h1, h2, n1, ⟨l1, c1, h3, ln1⟩, ⟨s1, i1⟩, hcn, s2, ?_, by rw [List.length_take, hcn]; omega, by simp [h.lq], i2, (h.st.trans t1).trans t2, by have := h.le; rw [Nat.mul_add]; omega, fun a ha => l2 a (List.mem_of_mem_take ha)⟩
  have e1 : n - m = k + 1 := by omega
  have e2 : n - (m + 1) = k := by omega
  rw [h.eq, e1, e2, list_upto hd, List.reverse_append, List.reverse_singleton, List.singleton_append]
  simp only [divG]
  rw [ht, hc, hyn]
theorem turned_n {X : Nat → Prop} (m : Nat) (w : World) (v : Value) (l : List Int) (hl : SlX X w v l) (hm : l.length = m) (hll : m ≤ 1000000) (hb : ∀ x ∈ l, -1048576 ≤ x ∧ x ≤ 1048576) :
    Calls Tryz.prog 77 #[v] w fun e w' => e = .returned (.slice (some ⟨w.heap.size, 0, none⟩) m m) ∧ OwnI w' w.heap.size m (notL l) ∧ Below w.heap.size w w' := by
  subst hm
  exact turned_any w v l hl hll hb
theorem sum_n {X : Nat → Prop} {base gb : Nat} {g : G} {fr : List Int} {s : Nat → Bool} (m : Nat) (w : World) (hG : GR X base w gb g) (hba : base ≤ w.heap.size) (vx vy : Value) (xs ys : List Int) (c : Int) (hX : SlX X w vx xs) (hY : SlX X w vy ys) (hxl : xs.length = m) (hyl : ys.length = m) (hn : g.n + 5 * m ≤ 1048576) (hn1 : m ≤ 1000000) (hc : isL g.n c) (hx : ∀ x ∈ xs, isL g.n x) (hy : ∀ y ∈ ys, isL g.n y) (hI : GI g fr s) (r : G × List Int × Int) (hr : sumG g xs ys c = r) :
    Calls Tryz.prog 108 #[.pointer (some ⟨gb, 0, none⟩), vx, vy, .int .i64 c] w (Word2 X base gb m w r) := by
  subst hxl
  exact sum_any w hG hba vx vy xs ys c hX hY hyl hn hn1 hc hx hy hI r hr
theorem row_top {k : Nat} {qk : List Int} (u : Int) : (List.replicate (k + 1) 0 ++ qk).set k u = List.replicate k 0 ++ (u :: qk) := by
  rw [List.replicate_succ', List.append_assoc, List.set_append_right _ _ (by simp), List.length_replicate, Nat.sub_self]
  rfl
def WordQ (X : Nat → Prop) (base gb n : Nat) (w : World) (r : G × List Int × List Int) (e : Ending) (w' : World) : Prop :=
  ∃ (q : Nat) (rv : Value) (Y : Nat → Prop), e = .returned (.tuple #[.slice (some ⟨q, 0, none⟩) n n, rv]) ∧ OwnI w' q n r.2.1 ∧ w.heap.size ≤ q ∧ SlX (fun k => Y k ∧ w.heap.size ≤ k) w' rv r.2.2 ∧ (∀ k, X k → Y k) ∧ Y q ∧ GR Y base w' gb r.1 ∧ Kept X w w'
set_option maxRecDepth 100000 in
set_option maxHeartbeats 4000000 in
theorem parts_any {X : Nat → Prop} {base gb : Nat} {g : G} {fr : List Int} {s : Nat → Bool} (w : World) (hG : GR X base w gb g) (hba : base ≤ w.heap.size) (vx vy : Value) (xs ys : List Int) (hX : SlX X w vx xs) (hY : SlX X w vy ys) (n : Nat) (hxn : xs.length = n) (hyn : ys.length = n) (hn1 : 1 ≤ n) (hn2 : n ≤ 64) (hn : g.n + 8 * (n + 1) * n ≤ 1048576) (hx : ∀ x ∈ xs, isL g.n x) (hy : ∀ y ∈ ys, isL g.n y) (hI : GI g fr s) (r : G × List Int × List Int) (hr : divG g xs.reverse (constL n 0) ys [] = r) :
    Calls Tryz.prog 110 #[.pointer (some ⟨gb, 0, none⟩), vx, vy] w (WordQ X base gb n w r) := by
  obtain ⟨ax, cx, rfl⟩ := hX.shape
  obtain ⟨ay, cy, rfl⟩ := hY.shape
  have HNE := Lib.hid (show ys ≠ [] by rintro rfl; simp at hyn; omega)
  have HYL := Lib.hid (show ys.length ≤ 1000000 by omega)
  rw [hxn] at hX ⊢
  rw [hyn] at hY ⊢
  have HX := Lib.hid hX
  have HY := Lib.hid hY
  have Hn := Lib.hid hn
  have Hx := Lib.hid hx
  have Hy := Lib.hid hy
  have HI := Lib.hid hI
  have Hr := Lib.hid hr
  have HBA := Lib.hid hba
  have HG := Lib.hid hG
  have HXN := Lib.hid hxn
  have HYN := Lib.hid hyn
  have Hnm := Lib.hid (show n ≤ 1000000 by omega)
  have Hmx := Lib.hid (show max 1 (min (n : Int) 64) = (n : Int) by omega)
  have hn64 : (n : Int) ≤ 64 := by omega
  clear hX hY hn hx hy hI hr hba hG hxn hyn
  go_enter Tryz.func110, Tryz.ntmps110
  (repeat (first | (with_reducible first | refine xA ?_ | refine xB ?_ | refine xC ?_ | refine xD ?_ | refine xH ?_ | refine xI rfl ?_ | refine xE ?_ | refine xF ?_ | refine xG ?_) | go_skip | go_guarded | (at_make; refine wl_make_own rfl _ _ rfl n rfl rfl Hnm.out ?_; intro w1 hO hg; (try simp only [Act.put, qz4, qz5, qz6])) | go_values | go_skip | go_guarded | go_step | go_upon | go_back | ((with_reducible show Oper.upon _ _ _ _ _ _); go_simp) | (dsimp only)))
  have hG1 := HG.out.owned hg (Nat.le_refl _) hO.lt
  have HK1 := Lib.hid (show Kept X w w1 from ⟨hg.os, hg.tape, hg.output, hg.size, fun i hi _ => hg.block i hi (by simp)⟩)
  have HG1 := Lib.hid hG1
  have HO1 := Lib.hid hO
  have HS1 := Lib.hid (show w.heap.size < w1.heap.size from hO.lt)
  clear hO hg hG1
  (repeat (first | (with_reducible first | refine xA ?_ | refine xB ?_ | refine xC ?_ | refine xD ?_ | refine xH ?_ | refine xI rfl ?_ | refine xE ?_ | refine xF ?_ | refine xG ?_) | go_skip | go_guarded | (go_at_call 61; (with_reducible refine (WordC_any w1 gb (n : Int) 0 (by decide) (by decide) n Hmx.out).mono ?_); rintro _ w2 ⟨rfl, hO2, hb2⟩; have HWY := Lib.hid (clone_any (X := X) _ ys w2 ((HY.out.kept HK1.out).kept (Kept.ofBelow hb2)) HNE.out HYL.out)) | (go_at_call 25; (with_reducible refine (HWY.out).mono ?_); rintro _ w3 ⟨v3, rfl, hO3, hb3⟩; (rw [HYN.out] at hO3)) | ((with_reducible refine wl_id ?_); refine wl_push rfl _ _ rfl w2.heap.size v3 n ys rfl (hO3.alloc _) w3.heap.size (-1) rfl (cell_new _ _ _) (by omega) (by have := hb3.size; simp; omega) ?_; intro v4 w4 hO4 hg4 hl4; (try simp only [Act.put, qz4, qz5, qz6])) | go_values | go_skip | go_guarded | go_step | go_upon | go_back | ((with_reducible show Oper.upon _ _ _ _ _ _); go_simp) | (dsimp only)))
  have hq0 : w.heap.size < w1.heap.size := HS1.out
  have hs12 := hb2.size
  have hk24 : Kept (fun k => k < w2.heap.size) w2 w4 := ((Kept.ofBelow hb3).alloc _).grown hg4 (fun q e hl _ => by have := (hO3.lt q e).1; omega)
  have hO0 : OwnI w4 w.heap.size n (List.replicate n 0) := (HO1.out.kept (Kept.ofBelow (X := fun _ => True) hb2) trivial).kept hk24 (by omega)
  have hOr : OwnI w4 w1.heap.size n (constL n (0 : Int).toNat) := hO2.kept hk24 hO2.lt
  have hGa := HG1.out.owned (below_own hb2) (Nat.le_refl _) hO2.lt
  have hGb := (turn_new hGa hb3 hO3).alloc (.cells #[.int .i64 (-1)] 3)
  have hGc := turn_row (hO3.alloc _) hO4 hg4 hl4 hGb (fun k e => .inr e)
  have hKX : Kept X w w4 := (HK1.out.trans (Kept.ofBelow hb2)).trans (hk24.mono fun k hk _ => hk)
  have HV4 := Lib.hid (fun k (e : v4.ownBlock = some k) => show k ≠ w.heap.size by have := (hO4.lt k e).1; omega)
  have hsW : SlX (fun k => v4.ownBlock = some k) w4 v4 (ys ++ [-1]) := own_sl hO4 (fun k e => e)
  have hC0 : ∀ a ∈ constL n (0 : Int).toNat, isL g.n a := constL_isL HI.out.pos
  have HWL := Lib.hid (show (ys ++ [-1]).length = n + 1 by rw [List.length_append, HYN.out]; rfl)
  have HWB := Lib.hid (show ∀ x ∈ ys ++ [-1], -1048576 ≤ x ∧ x ≤ 1048576 from fun x hx => by
    rcases List.mem_append.1 hx with h | h
    · exact rng_of (Hy.out x h) HG.out.n1
    · rw [List.mem_singleton] at h; subst h; omega)
  have HNB := Lib.hid (show n + 1 ≤ 1000000 by omega)
  go_loopw [9, 11] (fun rv kv wr => ∃ (m : Nat) (gk : G) (rk qk : List Int) (sk : Nat → Bool) (rb rc : Nat), m ≤ n ∧ kv = .int .i64 ((n : Int) - 1 - m) ∧ rv = .slice (some ⟨rb, 0, none⟩) n rc ∧ Hid (DV1 g fr s xs ys n m gk rk qk sk) ∧ Hid (OwnI wr w.heap.size n (List.replicate (n - m) 0 ++ qk)) ∧ Hid (w.heap.size < rb) ∧ Hid (∃ Y : Nat → Prop, (∀ k, X k → Y k) ∧ Y w.heap.size ∧ Y rb ∧ (∀ k, v4.ownBlock = some k → Y k) ∧ GR Y base wr gb gk) ∧ Hid (SlX (fun k => k = rb) wr (.slice (some ⟨rb, 0, none⟩) n rc) rk) ∧ Hid (SlX (fun k => v4.ownBlock = some k) wr v4 (ys ++ [-1])) ∧ Kept X w wr) (fun _ kv _ => (intOf kv + 1).toNat)
  case atStart => exact ⟨0, g, _, [], s, w1.heap.size, n, Nat.zero_le _, by simp, rfl, Lib.hid ⟨by rw [Nat.sub_zero, List.take_of_length_le (Nat.le_of_eq HXN.out)]; rfl, constL_len _ _, rfl, HI.out, Step.refl _ _, Nat.le_refl _, hC0⟩, Lib.hid (by simpa using hO0), Lib.hid (by omega), Lib.hid ⟨_, fun k h => .inl (.inl (.inl (.inl h))), .inl (.inl (.inl (.inr rfl))), .inl (.inl (.inr rfl)), fun k h => .inr h, hGc⟩, Lib.hid (hOr.slX rfl), Lib.hid hsW, hKX⟩
  case round =>
    clear hO2 hb2 hO3 hb3 hO4 hg4 hl4 hk24 hO0 hOr hGa hGb hGc hKX hsW hC0 hs12 HWY
    obtain ⟨m, gk, rk, qk, sk, rb, rc, hm, rfl, rfl, hZ, HOQ, HRB, hYX, HSR, HSW, hK⟩ := hrel
    obtain ⟨Y, hXY, hYq, hYr, hY4, hGY⟩ := hYX.out
    have HXY := Lib.hid hXY
    have HYQ := Lib.hid hYq
    have HYR := Lib.hid hYr
    have HY4 := Lib.hid hY4
    have HGY := Lib.hid hGY
    clear hYX hXY hYq hYr hY4 hGY
    rcases Nat.lt_or_ge m n with hlt | hge
    · obtain ⟨k, hkm⟩ : ∃ k, k + m + 1 = n := ⟨n - 1 - m, by omega⟩
      have ek : ((n : Int) - 1 - m) = (k : Int) := by omega
      rw [ek]
      obtain ⟨bx, ox, rfl, xbx, lbx, cbx, HRx⟩ := HX.out.row (by rw [HXN.out]; omega)
      obtain ⟨d, hd⟩ : ∃ d, xs[k]? = some d := ⟨_, List.getElem?_eq_getElem (by rw [HXN.out]; omega)⟩
      have hcd := hK.cell (HRx k d hd) xbx
      obtain ⟨t, c, hD2⟩ := hZ.out.next hkm hd Hx.out Hy.out HYN.out
      have HD2 := Lib.hid hD2
      have hba1 : base ≤ wr.heap.size := Nat.le_trans HBA.out hK.size
      have hsz : gk.n + 8 * (n + 1) ≤ 1048576 := by
        have h1 := hZ.out.le
        have h2 := Hn.out
        have h4 : 8 * (n + 1) * (m + 1) ≤ 8 * (n + 1) * n := Nat.mul_le_mul_left _ hlt
        rw [Nat.mul_add] at h4
        omega
      have HNS := Lib.hid (show gk.n + 5 * (n + 1) ≤ 1048576 by omega)
      have HNT := Lib.hid (show t.1.n + 3 * (n + 1) ≤ 1048576 by have := hD2.tn; omega)
      have HDL := Lib.hid (show (d :: rk).length = n + 1 by rw [List.length_cons, hZ.out.lr])
      have HNL := Lib.hid (show (notL (ys ++ [-1])).length = n + 1 by rw [notL_len]; exact HWL.out)
      have HONE := Lib.hid (isL_one hZ.out.gi)
      have HGI := Lib.hid hZ.out.gi
      obtain ⟨s1, hgt⟩ := hD2.gt
      have HGT := Lib.hid hgt
      obtain ⟨s2, hfin⟩ := hD2.fin
      have HFIN := Lib.hid hfin
      have HQ0 := Lib.hid (show w.heap.size < wr.heap.size from HOQ.out.lt)
      have HL1 := Lib.hid (show (wr.alloc (.cells #[.int .i64 d] 3)).ownsRow wr.heap.size 3 1 (.slice (some ⟨wr.heap.size, 0, none⟩) 1 1) 1 (([d] : List Int).map (Value.int .i64)) from World.ownsRow_lit wr #[.int .i64 d] 1 (Nat.le_refl _) (by decide) rfl)
      have HLR := Lib.hid hZ.out.lr
      obtain ⟨br, orr, er, _, _, _, HRr⟩ := HSR.out.row (by rw [HLR.out]; omega)
      injection er with er
      injection er with er1 er2
      subst er1
      subst er2
      have HRW := Lib.hid (HRr.kept ((Kept.refl (fun _ => True) wr).alloc (.cells #[.int .i64 d] 3)) trivial)
      have HN1 := Lib.hid (show 1 + n ≤ 1000000000 by omega)
      have HLE := Lib.hid (show wr.heap.size ≤ (wr.alloc (.cells #[.int .i64 d] 3)).heap.size by simp)
      have H7 := Lib.hid (fun (w7 : World) (hg : (wr.alloc (.cells #[.int .i64 d] 3)).grownBy w7 (some wr.heap.size)) => show Below wr.heap.size wr w7 from ⟨hg.os, hg.tape, hg.output, Nat.le_trans HLE.out hg.size, fun i hi => (hg.block i (Nat.lt_of_lt_of_le hi HLE.out) (fun e => by injection e with e; omega)).trans (Below.heap_alloc wr _ i hi)⟩)
      have i0 : (0 : Int) ≤ (k : Int) := by omega
      have i1 : (k : Int) < (n : Int) := by omega
      have hkn : k < n := by omega
      have HST := Lib.hid (show (List.replicate (n - m) 0 ++ qk).set k t.2.2 = List.replicate (n - (m + 1)) 0 ++ (t.2.2 :: qk) by
        have a1 : n - m = k + 1 := by omega
        have a2 : n - (m + 1) = k := by omega
        rw [a1, a2]
        exact row_top _)
      have HKM := Lib.hid hkm
      have HCN := Lib.hid hD2.cn
      clear hd HRx hD2 hsz hgt hfin HRr ek hkm
      (repeat (first | (with_reducible first | refine xA ?_ | refine xB ?_ | refine xC ?_ | refine xD ?_ | refine xH ?_ | refine xI rfl ?_ | refine xE ?_ | refine xF ?_ | refine xG ?_) | go_skip | go_guarded | ((with_reducible refine wl_id ?_); refine wl_appendI rfl _ _ rfl wr.heap.size (.slice (some ⟨wr.heap.size, 0, none⟩) 1 1) 1 [d] rfl HL1.out rb 0 n rc rk rfl HLR.out HRW.out HN1.out HLE.out ?_; intro v7 w7 hO7 hg7 hl7; have hb7 := H7.out w7 hg7; have HG7 := Lib.hid (turn_new HGY.out hb7 hO7); have HS7 := Lib.hid (own_sl (X := (fun k => v7.ownBlock = some k)) (l := d :: rk) hO7 (fun k e => e)); have HV7 := Lib.hid (fun k (e : v7.ownBlock = some k) => (hO7.lt k e).1); have HW7 := Lib.hid (HSW.out.kept (Kept.ofBelow hb7)); have HK7 := Lib.hid (Kept.ofBelow (X := Y) hb7); have HB7 := Lib.hid hb7.size; clear hO7 hg7 hl7 hb7; (try simp only [Act.put, qz4, qz5, qz6])) | (go_at_call 77; (with_reducible refine (turned_n (n + 1) w7 v4 (ys ++ [-1]) HW7.out HWL.out HNB.out HWB.out).mono ?_); rintro _ w8 ⟨rfl, hO8, hb8⟩; have HG8 := Lib.hid (HG7.out.owned (below_own hb8) (Nat.le_refl _) hO8.lt); have HS8 := Lib.hid (HS7.out.kept (Kept.ofBelow hb8)); have HW8 := Lib.hid (HW7.out.kept (Kept.ofBelow hb8)); have HT8 := Lib.hid (hO8.slX (X := (fun k => (Y k ∨ v7.ownBlock = some k) ∨ k = w7.heap.size)) (.inr rfl)); have HK8 := Lib.hid (HK7.out.trans (Kept.ofBelow hb8)); have HB8 := Lib.hid (Nat.le_trans HB7.out hb8.size); clear hO8 hb8) | (go_at_call 108; (with_reducible refine (sum_n (n + 1) w8 HG8.out (Nat.le_trans hba1 HB8.out) _ _ (d :: rk) (notL (ys ++ [-1])) 1 (HS8.out.mono fun _ _ h => .inl (.inr h)) HT8.out HDL.out HNL.out HNS.out HNB.out HONE.out HD2.out.id HD2.out.iw HGI.out t HD2.out.et).mono ?_); rintro _ w9 ⟨q9, rfl, hO9, hq9, hG9, hk9⟩; have HK9 := Lib.hid (HK8.out.trans (hk9.mono fun _ _ h => .inl (.inl h))); have HO0 := Lib.hid (HOQ.out.kept HK9.out HYQ.out); have HS9 := Lib.hid (HS8.out.kept (hk9.mono fun _ _ h => .inl (.inr h))); have HW9 := Lib.hid (HW8.out.kept (hk9.mono fun k _ h => .inl (.inl (HY4.out k h)))); have HO9 := Lib.hid hO9; have HG9 := Lib.hid hG9; have HB9 := Lib.hid (Nat.le_trans HB8.out hk9.size); have HQ9 := Lib.hid (Nat.le_trans HB8.out hq9); clear hO9 hq9 hG9 hk9) | ((with_reducible refine wl_id ?_); refine wl_store_own rfl _ _ rfl w.heap.size n _ k rfl t.2.2 rfl HO0.out hkn ?_; intro w10 hO10 hg10; have HO10 := Lib.hid hO10; have HG10 := Lib.hid (HG9.out.other hg10 (.inl (.inl (.inl HYQ.out)))); have hk10 : Kept (fun k => k ≠ w.heap.size) w9 w10 := ⟨hg10.os, hg10.tape, hg10.output, hg10.size, fun i hi hx => hg10.block i hi (fun e => hx (by injection e))⟩; have HS10 := Lib.hid (HS9.out.kept (hk10.mono fun k _ h e => by have := HV7.out k h; have := HQ0.out; omega)); have HW10 := Lib.hid (HW9.out.kept (hk10.mono fun k _ h => HV4.out k h)); have HO9b := Lib.hid (HO9.out.kept hk10 (by have := HQ9.out; have := HQ0.out; omega)); have HB10 := Lib.hid (Nat.le_trans HB9.out hk10.size); have HKX := Lib.hid ((hK.trans (HK9.out.mono fun k _ h => HXY.out k h)).grown hg10 (fun q e hl => by injection e with e; omega)); clear hO10 hg10 hk10; (try simp only [Act.put, qz4, qz5, qz6])) | (go_at_call 83; (with_reducible refine (choose_n (n + 1) w10 HG10.out (Nat.le_trans hba1 HB10.out) _ _ _ t.2.1 (d :: rk) (HO9b.out.slX (X := (fun k => ((Y k ∨ v7.ownBlock = some k) ∨ k = w7.heap.size) ∨ k = q9)) (.inr rfl)) (HS10.out.mono fun _ _ h => .inl (.inl (.inr h))) HD2.out.it.2.2.2 HDL.out HNT.out HNB.out HD2.out.it.2.1 HD2.out.it.1 HD2.out.it.2.2.1 HGT.out c HD2.out.ec).mono ?_); rintro _ w11 ⟨q11, rfl, hO11, hq11, hG11, hk11⟩) | go_values | go_skip | go_guarded | go_step | go_upon | go_back | ((with_reducible show Oper.upon _ _ _ _ _ _); go_simp) | (dsimp only)))
      have hcut := (hO11.slX (X := fun k => k = q11) rfl).cut HCN.out
      exact ⟨⟨m + 1, c.1, c.2.take n, t.2.2 :: qk, s2, q11, n + 1, by omega, by have := HKM.out; congr 1; omega, rfl, HFIN, Lib.hid (HST.out ▸ (HO10.out.kept hk11 (.inl (.inl (.inl HYQ.out))))), Lib.hid (by have := HQ0.out; have := HB10.out; omega), Lib.hid ⟨_, fun k h => .inl (.inl (.inl (.inl (HXY.out k h)))), .inl (.inl (.inl (.inl HYQ.out))), .inr rfl, fun k h => .inl (.inl (.inl (.inl (HY4.out k h)))), hG11⟩, Lib.hid hcut, Lib.hid (HW10.out.kept (hk11.mono fun k _ h => .inl (.inl (.inl (HY4.out k h))))), HKX.out.trans (hk11.mono fun k _ h => .inl (.inl (.inl (HXY.out k h))))⟩, by simp [intOf] <;> (have := HKM.out; omega)⟩
    · obtain rfl : n = m := by omega
      have he := hZ.out.eq
      rw [Nat.sub_self, List.take_zero, List.reverse_nil] at he
      simp only [divG] at he
      have hR : Hid (r = (gk, qk, rk)) := Lib.hid (by rw [← Hr.out]; exact he)
      have hOf := HOQ.out
      rw [Nat.sub_self, List.replicate_zero, List.nil_append] at hOf
      have hend : ¬ (0 : Int) ≤ (n : Int) - 1 - n := by omega
      clear he
      (repeat (first | (with_reducible first | refine xA ?_ | refine xB ?_ | refine xC ?_ | refine xD ?_ | refine xH ?_ | refine xI rfl ?_ | refine xE ?_ | refine xF ?_ | refine xG ?_) | go_values | go_skip | go_guarded | go_step | go_upon | go_back | ((with_reducible show Oper.upon _ _ _ _ _ _); go_simp) | (dsimp only)))
      go_ret2
      rw [hR.out]
      exact ⟨_, _, Y, rfl, hOf, Nat.le_refl _, HSR.out.mono fun k _ h => ⟨h ▸ HYR.out, by rw [h]; exact Nat.le_of_lt HRB.out⟩, HXY.out, HYQ.out, HGY.out, hK⟩
end Go.Proofs.YtmaogkgjiplckaaGreat
namespace Go.Proofs.YtmaogkgjiplckaaGreat
open Go.RowKit
open Go.Shelf Go.RowKit Go.Lib Go.Sort
theorem back_row {w : World} {B : Nat} {v : Value} {l : List Int} (hO : w.ownsRow B 3 1 v l.length (l.map (Value.int .i64))) (hp : 0 < l.length) (hll : l.length ≤ 1000000) : ∃ (g cap : Nat) (cur : Array Value), v = .slice (some ⟨g, 0, none⟩) l.length cap ∧
    (Calls Tryz.prog 134 #[.slice (some ⟨g, 0, none⟩) l.length cap] w fun e w' => e = .returned (.tuple #[]) ∧ ∃ n, w' = putRow (Value.int .i64) (Sort.ahead w n) g 0 l.reverse.toArray) ∧
    ∀ w' n, w' = putRow (Value.int .i64) (Sort.ahead w n) g 0 l.reverse.toArray → w'.ownsRow B 3 1 (.slice (some ⟨g, 0, none⟩) l.length cap) l.length (l.reverse.map (Value.int .i64)) ∧ w.grownBy w' (some g) := by
  rcases hO.2 with ⟨_, h0⟩ | ⟨g, cap, cur, rfl, hb, hh, hnc, hcm, hcs, htk⟩
  · omega
  · refine ⟨g, cap, cur, rfl, Tryz.slices_Reverse_int g 0 cap l w (holds_of_blockI hh (by simpa using htk)) (by omega), fun w' n e => ?_⟩
    subst e
    have h1 := ownsRow_sortedI (n := n) (os := #[]) (ts := l.reverse) (ss := l) (by simp) hb hh hnc hcm hcs
    have h2 := grownBy_sortedI (w := w) (g := g) (n := n) (os := #[]) l.reverse.toArray
    rw [grow_empty] at h1 h2
    exact ⟨h1, h2⟩
set_option maxRecDepth 100000 in
set_option maxHeartbeats 1000000 in
theorem back_any {X : Nat → Prop} (w : World) (v : Value) (l : List Int) (hl : SlX X w v l) (hne : l ≠ []) (hll : l.length ≤ 1000000) :
    Calls Tryz.prog 116 #[v] w fun e w' => ∃ v', e = .returned v' ∧ w'.ownsRow w.heap.size 3 1 v' l.length (l.reverse.map (Value.int .i64)) ∧ Below w.heap.size w w' := by
  have HC := Lib.hid (clone_any v l w hl hne hll)
  have HP := Lib.hid (List.length_pos_iff.2 hne)
  have HL := Lib.hid hll
  obtain ⟨a, c, rfl⟩ := hl.shape
  clear hl hne hll
  go_enter Tryz.func116, Tryz.ntmps116
  (repeat (first | (with_reducible first | refine xA ?_ | refine xB ?_ | refine xC ?_ | refine xD ?_ | refine xH ?_ | refine xI rfl ?_ | refine xE ?_ | refine xF ?_ | refine xG ?_) | go_skip | go_guarded | (go_at_call 25; (with_reducible refine (HC.out).mono ?_); rintro _ w1 ⟨v1, rfl, hO1, hb1⟩; obtain ⟨g, cap, cur, hv1, hRV, hfin⟩ := back_row hO1 HP.out HL.out; subst hv1) | (go_at_call 134; (with_reducible refine (hRV).mono ?_); rintro _ w2 ⟨rfl, n, hw2⟩; obtain ⟨h3, h4⟩ := hfin w2 n hw2; clear hfin hRV) | go_values | go_skip | go_guarded | go_step | go_upon | go_back | ((with_reducible show Oper.upon _ _ _ _ _ _); go_simp) | (dsimp only)))
  go_ret
  exact ⟨_, rfl, h3, Below.grown hb1 h4 hb1.size (fun q e => by injection e with e; subst e; exact (hO1.lt _ rfl).1)⟩
end Go.Proofs.YtmaogkgjiplckaaGreat
namespace Go.Proofs.YtmaogkgjiplckaaGreat
open Go.RowKit
section
variable {ops : Array Oper} {rest : List Oper} {o : Oper} {a : Act} {w : World} {Q : Exit → Act → World → Prop}
theorem wl_store_rowI (hgd : o.guard = none) (x y : Operand) (ho : o.op = .store 3 x y) (B q n c : Nat) (l : List Int) (j : Nat) (hx : a.eval x = .pointer (some ⟨q, j, none⟩)) (u : Int) (hy : a.eval y = .int .i64 u) (hO : w.ownsRow B 3 1 (.slice (some ⟨q, 0, none⟩) n c) n (l.map (Value.int .i64))) (hj : j < n)
    (h : ∀ w', w'.ownsRow B 3 1 (.slice (some ⟨q, 0, none⟩) n c) n ((l.set j u).map (Value.int .i64)) → w.grownBy w' (some q) → wpList Tryz.prog ops Q rest (a.put o.dst undef) w') : wpList Tryz.prog ops Q (o :: rest) a w :=
  wpList_plain hgd fun _ hK => by
    have hl : l.length = n := by simpa using hO.1
    have hc := hO.cellAt j (by omega)
    have hlt : j < l.length := by omega
    rw [List.getElem?_map, List.getElem?_eq_getElem hlt] at hc
    have hf := hO.frozenAt j
    have hst : (Instr.storeAt 3 (.pointer (some ⟨q, j, none⟩)) (.int .i64 u)).run Tryz.prog w = .ok () (w.setCell ⟨q, j, none⟩ (.int .i64 u)) := by
      simp only [Option.map_some] at hc
      go_simp
    obtain ⟨s1, s2⟩ := hO.stored j (.int .i64 u)
    unfold Oper.wp execOp
    simp only [ho, hx, hy, Sem.run_bind, hst, Result.andThen_ok]
    exact hK _ _ (h _ (by rw [List.map_set]; exact s1) s2)
end
end Go.Proofs.YtmaogkgjiplckaaGreat
namespace Go.Proofs.YtmaogkgjiplckaaGreat
open Go.RowKit
set_option maxRecDepth 100000 in
set_option maxHeartbeats 1000000 in
theorem signs_any {X : Nat → Prop} (w : World) (v : Value) (l : List Int) (hl : SlX X w v l) (n : Nat) (hn : l.length = n + 1) (x : Int) (hx : l[n]? = some x) (hxb : -1048576 ≤ x ∧ x ≤ 1048576) (hll : l.length ≤ 1000000) :
    Calls Tryz.prog 119 #[v] w fun e w' => ∃ v', e = .returned v' ∧ w'.ownsRow w.heap.size 3 1 v' l.length ((l.set n (-x)).map (Value.int .i64)) ∧ Below w.heap.size w w' := by
  have hne : l ≠ [] := by rintro rfl; simp at hn
  have HC := Lib.hid (clone_any v l w hl hne hll)
  have hnI : ((l.length : Nat) : Int) - 1 = n := by omega
  have hnb : (n : Int) ≤ 1000000 := by omega
  have hni : (n : Int) < (l.length : Int) := by omega
  have hn0 : (0 : Int) ≤ n := by omega
  obtain ⟨a, c, rfl⟩ := hl.shape
  have HX := Lib.hid hx
  have HN := Lib.hid hn
  clear hl hne hll hx hn
  go_enter Tryz.func119, Tryz.ntmps119
  (repeat (first | (with_reducible first | refine xA ?_ | refine xB ?_ | refine xC ?_ | refine xD ?_ | refine xH ?_ | refine xI rfl ?_ | refine xE ?_ | refine xF ?_ | refine xG ?_) | go_skip | go_guarded | (go_at_call 25; (with_reducible refine (HC.out).mono ?_); rintro _ w1 ⟨v1, rfl, hO1, hb1⟩; obtain ⟨g, cap, hv1⟩ : ∃ g cap, v1 = .slice (some ⟨g, 0, none⟩) l.length cap := (by rcases hO1.2 with ⟨_, h0⟩ | ⟨g, cap, cur, e, _⟩; (· have := HN.out; omega); (· exact ⟨g, cap, e⟩)); subst hv1; have hcx := (RowI.ofOwns hO1) n x HX.out; (rw [Nat.zero_add] at hcx)) | ((with_reducible refine wl_id ?_); refine wl_store_rowI rfl _ _ rfl w.heap.size g l.length cap l n rfl (-x) rfl hO1 (by have := HN.out; omega) ?_; intro w3 hO3 hg3; (try simp only [Act.put, qz4, qz5, qz6])) | go_values | go_skip | go_guarded | go_step | go_upon | go_back | ((with_reducible show Oper.upon _ _ _ _ _ _); go_simp) | (dsimp only)))
  go_ret
  exact ⟨_, rfl, hO3, Below.grown hb1 hg3 hb1.size (fun q e => by injection e with e; subst e; exact (hO1.lt _ rfl).1)⟩
end Go.Proofs.YtmaogkgjiplckaaGreat
namespace Go.Proofs.YtmaogkgjiplckaaGreat
open Go.RowKit
theorem bv_upB0 (l : List Bool) (j : Nat) : bv (upB l j false) = 2 ^ j * bv l % 2 ^ l.length := by unfold upB; rw [bv_take, bv_rep0]
theorem bv_skip : ∀ (l : List Bool) (j : Nat), bv (l.drop j) = bv l / 2 ^ j := by
  intro l
  induction l with
  | nil => intro j; simp [bv]
  | cons b l ih =>
    intro j
    rcases j with _ | j
    · simp
    · rw [List.drop_succ_cons, ih, bv, Nat.pow_succ, Nat.mul_comm (2 ^ j) 2, ← Nat.div_div_eq_div_mul]
      have e : ((if b = true then 1 else 0) + 2 * bv l) / 2 = bv l := by cases b <;> simp <;> omega
      rw [e]
theorem rev_upB (l : List Bool) (j : Nat) (b : Bool) : (upB l.reverse j b).reverse = l.drop j ++ List.replicate (min j l.length) b := by
  unfold upB
  rw [List.reverse_take, List.reverse_append, List.reverse_reverse, List.reverse_replicate, List.length_append, List.length_replicate, List.length_reverse, Nat.add_sub_cancel, List.drop_append, List.drop_replicate]
  congr 2
  omega
theorem bv_snoc0 : ∀ (l : List Bool) (m : Nat), bv (l ++ List.replicate m false) = bv l := by
  intro l
  induction l with
  | nil =>
    intro m
    induction m with
    | zero => rfl
    | succ m ih => rw [List.nil_append] at ih ⊢; rw [List.replicate_succ]; show (if false = true then 1 else 0) + 2 * bv (List.replicate m false) = 0; rw [ih]; rfl
  | cons b l ih => intro m; rw [List.cons_append, bv, bv, ih]
theorem bv_down (l : List Bool) (j : Nat) : bv ((upB l.reverse j false).reverse) = bv l / 2 ^ j := by rw [rev_upB, bv_snoc0, bv_skip]
end Go.Proofs.YtmaogkgjiplckaaGreat
namespace Go.Proofs.YtmaogkgjiplckaaGreat
open Go.RowKit
theorem and_dec {p q : Prop} [Decidable p] [Decidable q] {b : Bool} (h : p ↔ q) : (decide p && b) = (decide q && b) := by
  rw [decide_eq_decide.2 h]
theorem up_bits (W x : Nat) (b : Bool) (j : Nat) : ((2 * x + b.toNat) % 2 ^ W).testBit j = (decide (j < W) && if j = 0 then b else x.testBit (j - 1)) := by
  rw [Nat.testBit_mod_two_pow]
  congr 1
  cases j with
  | zero => cases b <;> simp [Nat.testBit_zero] <;> omega
  | succ j =>
    rw [Nat.testBit_succ, if_neg (by omega), Nat.add_sub_cancel]
    congr 1
    have := Bool.toNat_le b
    have : b.toNat < 2 := by omega
    omega
set_option maxRecDepth 100000 in
set_option maxHeartbeats 1000000 in
theorem up_any (W x : Nat) (b : Bool) (w : World) (hW0 : 1 ≤ W) (hW : W ≤ 64) :
    Calls Tryz.prog 128 #[.int .i64 W, .agg (bw x), .bool b] w fun e w' => e = .returned (.agg (bw ((2 * x + b.toNat) % 2 ^ W))) ∧ Below w.heap.size w w' := by
  have hz := (zero_of_info zero29).1
  obtain ⟨V, rfl⟩ : ∃ V, W = V + 1 := ⟨W - 1, by omega⟩
  go_enter Tryz.func128, Tryz.ntmps128
  (repeat (first | (with_reducible first | refine xA ?_ | refine xB ?_ | refine xC ?_ | refine xD ?_ | refine xH ?_ | refine xI rfl ?_ | refine xE ?_ | refine xF ?_ | refine xG ?_) | go_values | go_skip | go_guarded | go_step | go_upon | go_back | ((with_reducible show Oper.upon _ _ _ _ _ _); go_simp) | (dsimp only)))
  go_loopw [8] (fun i wr => ∃ p m : Nat, p ≤ V ∧ Hid (∀ j, m.testBit j = (decide (p < j ∧ j < V + 1) && x.testBit (j - 1))) ∧ i = .int .i64 p ∧ wr = (((w.alloc (.cells (bw x) 134)).alloc (.cells (bw 0) 134)).alloc (.cells (bw m) 134))) (fun i _ => (intOf i).toNat)
  case atStart => exact ⟨V, 0, by omega, Lib.hid (fun j => by simp; omega), by go_num, rfl⟩
  case round =>
    obtain ⟨p, m, hp, hm, rfl, rfl⟩ := hrel
    rcases p with _ | p
    · have hs := bw_set m 0
      have hr := bw_get m 0 (by omega)
      (repeat (first | (with_reducible first | refine xA ?_ | refine xB ?_ | refine xC ?_ | refine xD ?_ | refine xH ?_ | refine xI rfl ?_ | refine xE ?_ | refine xF ?_ | refine xG ?_) | go_skip | go_guarded | ((with_reducible refine wl_load29 rfl _ rfl ?_); apply Exists.intro; apply Exists.intro; refine ⟨rfl, ?_, ?_⟩; (· (repeat (first | (with_reducible assumption) | ((with_reducible refine heap_new _ _ _ ?_); (simp; done)) | ((with_reducible refine (heap_old _ _ _ ?_).trans ?_); (· (simp; done))) | (with_reducible refine row_same ?_ _) | ((with_reducible refine row_other ?_ _ ?_); rotate_left; (· (simp; done)))))); simp only [Act.put, qz4, qz5, qz6]) | ((with_reducible refine wl_store29 rfl _ _ rfl ?_); apply Exists.intro; apply Exists.intro; apply Exists.intro; refine ⟨rfl, rfl, ?_, ?_⟩; (· (repeat (first | (with_reducible assumption) | ((with_reducible refine heap_new _ _ _ ?_); (simp; done)) | ((with_reducible refine (heap_old _ _ _ ?_).trans ?_); (· (simp; done))) | (with_reducible refine row_same ?_ _) | ((with_reducible refine row_other ?_ _ ?_); rotate_left; (· (simp; done)))))); simp only [Act.put, qz4, qz5, qz6]) | go_values | go_skip | go_guarded | go_step | go_upon | go_back | ((with_reducible show Oper.upon _ _ _ _ _ _); go_simp) | (dsimp only)))
      refine bodyPost_ret (res29 rfl _ _ _ _ rfl (row_same (n := 0) (by (repeat (first | (with_reducible assumption) | ((with_reducible refine heap_new _ _ _ ?_); (simp; done)) | ((with_reducible refine (heap_old _ _ _ ?_).trans ?_); (· (simp; done))) | (with_reducible refine row_same ?_ _) | ((with_reducible refine row_other ?_ _ ?_); rotate_left; (· (simp; done)))))) _)) rfl ⟨?_, ?_⟩
      · refine ret_bw fun j hj => ?_
        rw [setb_test, up_bits, hm.out]
        by_cases e : j = 0
        · subst e; simp
        · rw [if_neg (fun h => e h.symm), if_neg e]
          exact and_dec (by omega)
      · refine Below.setRow ?_ (by omega) _
        (repeat (first | with_reducible exact Below.refl _ _ | assumption | with_reducible refine below_drewN ?_ _ | with_reducible refine Below.drew ?_ | with_reducible refine Below.setRow ?_ ?_ _ | with_reducible refine Below.alloc ?_ ?_ _ | with_reducible refine Below.setCell ?_ ?_ _ | with_reducible exact Nat.le_refl _ | (focus (simp; done)) | (focus (simp; omega)) | omega))
    · have hs := bw_set m (p + 1)
      have hr := bw_get m (p + 1) (by omega)
      have hrx := bw_get x p (by omega)
      have b0 : (0 : Int) ≤ p := by omega
      have b1 : (p : Int) + 1 < 64 := by omega
      (repeat (first | (with_reducible first | refine xA ?_ | refine xB ?_ | refine xC ?_ | refine xD ?_ | refine xH ?_ | refine xI rfl ?_ | refine xE ?_ | refine xF ?_ | refine xG ?_) | go_values | go_skip | go_guarded | go_step | go_upon | go_back | ((with_reducible show Oper.upon _ _ _ _ _ _); go_simp) | (dsimp only)))
      exact ⟨⟨p, _, by omega, Lib.hid (fun j => by
        rw [setb_test, hm.out]
        by_cases e : p + 1 = j
        · subst e; simp; omega
        · rw [if_neg e]
          exact and_dec (by omega)), by go_num, rfl⟩, by simp [intOf]⟩
theorem down_bits {W x : Nat} (hW : 1 ≤ W) (hx : x < 2 ^ W) (b : Bool) (j : Nat) : (x / 2 + b.toNat * 2 ^ (W - 1)).testBit j = (if j = W - 1 then b else x.testBit (j + 1)) := by
  obtain ⟨V, rfl⟩ : ∃ V, W = V + 1 := ⟨W - 1, by omega⟩
  rw [show V + 1 - 1 = V by omega]
  rw [Nat.pow_succ] at hx
  have h2 : x / 2 < 2 ^ V := by omega
  have hbit : ∀ i, x.testBit (i + 1) = (x / 2).testBit i := fun i => Nat.testBit_succ x i
  rw [hbit]
  cases b with
  | false =>
    simp only [Bool.toNat_false, Nat.zero_mul, Nat.add_zero]
    split
    · subst_vars; exact Nat.testBit_lt_two_pow h2
    · rfl
  | true =>
    rw [Bool.toNat_true, Nat.one_mul, Nat.add_comm]
    rcases Nat.lt_trichotomy j V with h | h | h
    · rw [Nat.testBit_two_pow_add_gt h, if_neg (by omega)]
    · subst h; rw [Nat.testBit_two_pow_add_eq, Nat.testBit_lt_two_pow h2]; simp
    · rw [if_neg (by omega)]
      have hl : (2 ^ V + x / 2) < 2 ^ j := by
        have : 2 ^ (V + 1) ≤ 2 ^ j := Nat.pow_le_pow_right (by omega) (by omega)
        rw [Nat.pow_succ] at this; omega
      rw [Nat.testBit_lt_two_pow hl, Nat.testBit_lt_two_pow (by omega)]
set_option maxRecDepth 100000 in
set_option maxHeartbeats 1000000 in
theorem down_any (W x : Nat) (b : Bool) (w : World) (hW0 : 1 ≤ W) (hW : W ≤ 64) (hx : Hid (x < 2 ^ W)) :
    Calls Tryz.prog 130 #[.int .i64 W, .agg (bw x), .bool b] w fun e w' => e = .returned (.agg (bw (x / 2 + b.toNat * 2 ^ (W - 1)))) ∧ Below w.heap.size w w' := by
  have hz := (zero_of_info zero29).1
  obtain ⟨V, rfl⟩ : ∃ V, W = V + 1 := ⟨W - 1, by omega⟩
  go_enter Tryz.func130, Tryz.ntmps130
  (repeat (first | (with_reducible first | refine xA ?_ | refine xB ?_ | refine xC ?_ | refine xD ?_ | refine xH ?_ | refine xI rfl ?_ | refine xE ?_ | refine xF ?_ | refine xG ?_) | go_values | go_skip | go_guarded | go_step | go_upon | go_back | ((with_reducible show Oper.upon _ _ _ _ _ _); go_simp) | (dsimp only)))
  go_loopw [8] (fun i wr => ∃ k m : Nat, k ≤ V ∧ Hid (∀ j, m.testBit j = (decide (j < k) && x.testBit (j + 1))) ∧ i = .int .i64 k ∧ wr = (((w.alloc (.cells (bw x) 134)).alloc (.cells (bw 0) 134)).alloc (.cells (bw m) 134))) (fun i _ => V - (intOf i).toNat)
  case atStart => exact ⟨0, 0, by omega, Lib.hid (fun j => by simp), rfl, rfl⟩
  case round =>
    obtain ⟨k, m, hk, hm, rfl, rfl⟩ := hrel
    by_cases hlt : k < V
    · have hs := bw_set m k
      have hr := bw_get m k (by omega)
      have hrx := bw_get x (k + 1) (by omega)
      have b0 : (0 : Int) ≤ k := by omega
      have b1 : (k : Int) + 1 < 64 := by omega
      (repeat (first | (with_reducible first | refine xA ?_ | refine xB ?_ | refine xC ?_ | refine xD ?_ | refine xH ?_ | refine xI rfl ?_ | refine xE ?_ | refine xF ?_ | refine xG ?_) | go_values | go_skip | go_guarded | go_step | go_upon | go_back | ((with_reducible show Oper.upon _ _ _ _ _ _); go_simp) | (dsimp only)))
      exact ⟨⟨k + 1, _, by omega, Lib.hid (fun j => by
        rw [setb_test, hm.out]
        by_cases e : k = j
        · subst e; simp
        · rw [if_neg e]
          exact and_dec (by omega)), by go_num, rfl⟩, by simp [intOf]; omega⟩
    · obtain rfl : k = V := by omega
      have hs := bw_set m k
      have hr := bw_get m k (by omega)
      have b0 : (0 : Int) ≤ k := by omega
      have b1 : (k : Int) < 64 := by omega
      (repeat (first | (with_reducible first | refine xA ?_ | refine xB ?_ | refine xC ?_ | refine xD ?_ | refine xH ?_ | refine xI rfl ?_ | refine xE ?_ | refine xF ?_ | refine xG ?_) | go_skip | go_guarded | ((with_reducible refine wl_load29 rfl _ rfl ?_); apply Exists.intro; apply Exists.intro; refine ⟨rfl, ?_, ?_⟩; (· (repeat (first | (with_reducible assumption) | ((with_reducible refine heap_new _ _ _ ?_); (simp; done)) | ((with_reducible refine (heap_old _ _ _ ?_).trans ?_); (· (simp; done))) | (with_reducible refine row_same ?_ _) | ((with_reducible refine row_other ?_ _ ?_); rotate_left; (· (simp; done)))))); simp only [Act.put, qz4, qz5, qz6]) | ((with_reducible refine wl_store29 rfl _ _ rfl ?_); apply Exists.intro; apply Exists.intro; apply Exists.intro; refine ⟨rfl, rfl, ?_, ?_⟩; (· (repeat (first | (with_reducible assumption) | ((with_reducible refine heap_new _ _ _ ?_); (simp; done)) | ((with_reducible refine (heap_old _ _ _ ?_).trans ?_); (· (simp; done))) | (with_reducible refine row_same ?_ _) | ((with_reducible refine row_other ?_ _ ?_); rotate_left; (· (simp; done)))))); simp only [Act.put, qz4, qz5, qz6]) | go_values | go_skip | go_guarded | go_step | go_upon | go_back | ((with_reducible show Oper.upon _ _ _ _ _ _); go_simp) | (dsimp only)))
      refine bodyPost_ret (res29 rfl _ _ _ _ rfl (row_same (n := 0) (by (repeat (first | (with_reducible assumption) | ((with_reducible refine heap_new _ _ _ ?_); (simp; done)) | ((with_reducible refine (heap_old _ _ _ ?_).trans ?_); (· (simp; done))) | (with_reducible refine row_same ?_ _) | ((with_reducible refine row_other ?_ _ ?_); rotate_left; (· (simp; done)))))) _)) rfl ⟨?_, ?_⟩
      · refine ret_bw fun j hj => ?_
        rw [setb_test, down_bits (by omega) hx.out, hm.out, Nat.add_sub_cancel]
        by_cases e : k = j
        · subst e; simp
        · have : ¬ j = k := fun h => e h.symm
          simp only [e, this, if_false]
          by_cases h : j < k
          · simp [h]
          · simp only [h, decide_false, Bool.false_and]
            exact (Nat.testBit_lt_two_pow (Nat.lt_of_lt_of_le hx.out (Nat.pow_le_pow_right (by omega) (by omega)))).symm
      · refine Below.setRow ?_ (by omega) _
        (repeat (first | with_reducible exact Below.refl _ _ | assumption | with_reducible refine below_drewN ?_ _ | with_reducible refine Below.drew ?_ | with_reducible refine Below.setRow ?_ ?_ _ | with_reducible refine Below.alloc ?_ ?_ _ | with_reducible refine Below.setCell ?_ ?_ _ | with_reducible exact Nat.le_refl _ | (focus (simp; done)) | (focus (simp; omega)) | omega))
set_option maxRecDepth 100000 in
set_option maxHeartbeats 1000000 in
theorem truth_any (b : Bool) (w : World) :
    Calls Tryz.prog 103 #[.bool b] w fun e w' => e = .returned (.agg (bw b.toNat)) ∧ Below w.heap.size w w' := by
  have hz := (zero_of_info zero29).1
  have hs := bw_set 0 0
  have hr := bw_get 0 0 (by omega)
  go_enter Tryz.func103, Tryz.ntmps103
  (repeat (first | (with_reducible first | refine xA ?_ | refine xB ?_ | refine xC ?_ | refine xD ?_ | refine xH ?_ | refine xI rfl ?_ | refine xE ?_ | refine xF ?_ | refine xG ?_) | go_skip | go_guarded | ((with_reducible refine wl_load29 rfl _ rfl ?_); apply Exists.intro; apply Exists.intro; refine ⟨rfl, ?_, ?_⟩; (· (repeat (first | (with_reducible assumption) | ((with_reducible refine heap_new _ _ _ ?_); (simp; done)) | ((with_reducible refine (heap_old _ _ _ ?_).trans ?_); (· (simp; done))) | (with_reducible refine row_same ?_ _) | ((with_reducible refine row_other ?_ _ ?_); rotate_left; (· (simp; done)))))); simp only [Act.put, qz4, qz5, qz6]) | ((with_reducible refine wl_store29 rfl _ _ rfl ?_); apply Exists.intro; apply Exists.intro; apply Exists.intro; refine ⟨rfl, rfl, ?_, ?_⟩; (· (repeat (first | (with_reducible assumption) | ((with_reducible refine heap_new _ _ _ ?_); (simp; done)) | ((with_reducible refine (heap_old _ _ _ ?_).trans ?_); (· (simp; done))) | (with_reducible refine row_same ?_ _) | ((with_reducible refine row_other ?_ _ ?_); rotate_left; (· (simp; done)))))); simp only [Act.put, qz4, qz5, qz6]) | go_values | go_skip | go_guarded | go_step | go_upon | go_back | ((with_reducible show Oper.upon _ _ _ _ _ _); go_simp) | (dsimp only)))
  refine bodyPost_ret (res29 rfl _ _ _ _ rfl (row_same (n := 0) (by (repeat (first | (with_reducible assumption) | ((with_reducible refine heap_new _ _ _ ?_); (simp; done)) | ((with_reducible refine (heap_old _ _ _ ?_).trans ?_); (· (simp; done))) | (with_reducible refine row_same ?_ _) | ((with_reducible refine row_other ?_ _ ?_); rotate_left; (· (simp; done)))))) _)) rfl ⟨?_, ?_⟩
  · refine ret_bw fun j hj => ?_
    rw [setb_test]
    by_cases e : 0 = j
    · subst e; cases b <;> simp
    · have : ¬ j = 0 := fun h => e h.symm
      simp only [e, if_false, Nat.zero_testBit]
      exact (Nat.testBit_lt_two_pow (Nat.lt_of_lt_of_le (show b.toNat < 2 ^ 1 by have := Bool.toNat_le b; omega) (Nat.pow_le_pow_right (by omega) (by omega)))).symm
  · refine Below.setRow ?_ (by omega) _
    (repeat (first | with_reducible exact Below.refl _ _ | assumption | with_reducible refine below_drewN ?_ _ | with_reducible refine Below.drew ?_ | with_reducible refine Below.setRow ?_ ?_ _ | with_reducible refine Below.alloc ?_ ?_ _ | with_reducible refine Below.setCell ?_ ?_ _ | with_reducible exact Nat.le_refl _ | (focus (simp; done)) | (focus (simp; omega)) | omega))
theorem less_step {x y k : Nat} (h : x / 2 ^ (k + 1) = y / 2 ^ (k + 1)) (hb : x.testBit k = y.testBit k) : x / 2 ^ k = y / 2 ^ k := by
  rw [num_step rfl, num_step (n := y) rfl, h, hb]
theorem less_fin {x y k : Nat} (h : x / 2 ^ (k + 1) = y / 2 ^ (k + 1)) (hb : ¬ x.testBit k = y.testBit k) : y.testBit k = decide (x < y) := by
  have h1 := num_step (n := x) (k := k) rfl
  have h2 := num_step (n := y) (k := k) rfl
  have hp := Nat.pow_pos (n := k) (show 0 < 2 by omega)
  rw [h] at h1
  have d1 := Nat.div_add_mod x (2 ^ k)
  have d2 := Nat.div_add_mod y (2 ^ k)
  have m1 := Nat.mod_lt x hp
  have m2 := Nat.mod_lt y hp
  rw [h1] at d1
  rw [h2] at d2
  generalize y / 2 ^ (k + 1) = q at *
  generalize 2 ^ k = P at *
  cases hx : x.testBit k <;> cases hy : y.testBit k <;> simp [hx, hy] at *
  · rw [Nat.mul_add, Nat.mul_one] at d2
    omega
  · rw [Nat.mul_add, Nat.mul_one] at d1
    omega
set_option maxRecDepth 100000 in
set_option maxHeartbeats 1000000 in
theorem less_ref (W x y : Nat) (w : World) (hW : W ≤ 64) (hx : Hid (x < 2 ^ W)) (hy : Hid (y < 2 ^ W)) :
    Calls Tryz.prog 104 #[.int .i64 W, .agg (bw x), .agg (bw y)] w fun e w' => e = .returned (.bool (decide (x < y))) ∧ Below w.heap.size w w' := by
  go_enter Tryz.func104, Tryz.ntmps104
  (repeat (first | (with_reducible first | refine xA ?_ | refine xB ?_ | refine xC ?_ | refine xD ?_ | refine xH ?_ | refine xI rfl ?_ | refine xE ?_ | refine xF ?_ | refine xG ?_) | go_values | go_skip | go_guarded | go_step | go_upon | go_back | ((with_reducible show Oper.upon _ _ _ _ _ _); go_simp) | (dsimp only)))
  go_loopw [7] (fun i wr => ∃ k nq : Nat, k ≤ W ∧ Hid (x / 2 ^ k = y / 2 ^ k) ∧ i = .int .i64 ((k : Int) - 1) ∧ wr = ((w.alloc (.cells (bw x) 134)).alloc (.cells (bw y) 134)).drewN nq) (fun i _ => (intOf i + 1).toNat)
  case atStart => exact ⟨W, 0, by omega, Lib.hid (by rw [Nat.div_eq_of_lt hx.out, Nat.div_eq_of_lt hy.out]), rfl, rfl⟩
  case round =>
    obtain ⟨k, nq, hk, hq, rfl, rfl⟩ := hrel
    rcases k with _ | k
    · (repeat (first | (with_reducible first | refine xA ?_ | refine xB ?_ | refine xC ?_ | refine xD ?_ | refine xH ?_ | refine xI rfl ?_ | refine xE ?_ | refine xF ?_ | refine xG ?_) | go_values | go_skip | go_guarded | go_step | go_upon | go_back | ((with_reducible show Oper.upon _ _ _ _ _ _); go_simp) | (dsimp only)))
      go_ret
      refine ⟨?_, by (repeat (first | with_reducible exact Below.refl _ _ | assumption | with_reducible refine below_drewN ?_ _ | with_reducible refine Below.drew ?_ | with_reducible refine Below.setRow ?_ ?_ _ | with_reducible refine Below.alloc ?_ ?_ _ | with_reducible refine Below.setCell ?_ ?_ _ | with_reducible exact Nat.le_refl _ | (focus (simp; done)) | (focus (simp; omega)) | omega))⟩
      have := hq.out
      rw [Nat.pow_zero, Nat.div_one, Nat.div_one] at this
      subst this
      simp
    · have hrx := bw_get x k (by omega)
      have hry := bw_get y k (by omega)
      have b0 : (0 : Int) ≤ k := by omega
      have b1 : (k : Int) < 64 := by omega
      have e1 : ((k + 1 : Nat) : Int) - 1 = k := by omega
      cases hbx : x.testBit k <;> cases hby : y.testBit k
      all_goals
        have Hx := Lib.hid hbx
        have Hy := Lib.hid hby
        rw [hbx] at hrx
        rw [hby] at hry
        clear hbx hby
        (repeat (first | (with_reducible first | refine xA ?_ | refine xB ?_ | refine xC ?_ | refine xD ?_ | refine xH ?_ | refine xI rfl ?_ | refine xE ?_ | refine xF ?_ | refine xG ?_) | go_values | go_skip | go_guarded | go_step | go_upon | go_back | ((with_reducible show Oper.upon _ _ _ _ _ _); go_simp) | (dsimp only)))
        go_quiet (fail)
        (repeat (first | (with_reducible first | refine xA ?_ | refine xB ?_ | refine xC ?_ | refine xD ?_ | refine xH ?_ | refine xI rfl ?_ | refine xE ?_ | refine xF ?_ | refine xG ?_) | go_values | go_skip | go_guarded | go_step | go_upon | go_back | ((with_reducible show Oper.upon _ _ _ _ _ _); go_simp) | (dsimp only)))
      · exact ⟨⟨k, _, by omega, Lib.hid (less_step hq.out (by rw [Hx.out, Hy.out])), rfl, rfl⟩, by simp [intOf]⟩
      · go_ret
        refine ⟨?_, by (repeat (first | with_reducible exact Below.refl _ _ | assumption | with_reducible refine below_drewN ?_ _ | with_reducible refine Below.drew ?_ | with_reducible refine Below.setRow ?_ ?_ _ | with_reducible refine Below.alloc ?_ ?_ _ | with_reducible refine Below.setCell ?_ ?_ _ | with_reducible exact Nat.le_refl _ | (focus (simp; done)) | (focus (simp; omega)) | omega))⟩
        rw [← less_fin hq.out (by rw [Hx.out, Hy.out]; simp), Hy.out]
        rfl
      · go_ret
        refine ⟨?_, by (repeat (first | with_reducible exact Below.refl _ _ | assumption | with_reducible refine below_drewN ?_ _ | with_reducible refine Below.drew ?_ | with_reducible refine Below.setRow ?_ ?_ _ | with_reducible refine Below.alloc ?_ ?_ _ | with_reducible refine Below.setCell ?_ ?_ _ | with_reducible exact Nat.le_refl _ | (focus (simp; done)) | (focus (simp; omega)) | omega))⟩
        rw [← less_fin hq.out (by rw [Hx.out, Hy.out]; simp), Hy.out]
        rfl
      · exact ⟨⟨k, _, by omega, Lib.hid (less_step hq.out (by rw [Hx.out, Hy.out])), rfl, rfl⟩, by simp [intOf]⟩
end Go.Proofs.YtmaogkgjiplckaaGreat

