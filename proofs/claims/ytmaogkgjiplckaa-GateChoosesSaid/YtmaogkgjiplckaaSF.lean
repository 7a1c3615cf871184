import Derived.Test.YtmaogkgjiplckaaSF0
set_option linter.unusedSimpArgs false
set_option linter.unusedVariables false
namespace Go.Proofs.Ytmaogkgjiplckaa
open Go.RowKit
theorem zeroS (w : World) : (zeroValue 26).run Try.prog w = .ok (.slice none 0 0) w := by kernel_rfl
/-- the spreader's own ground: what is never written while it runs -/
structure SGr (w : World) (q n : Nat) (vs : List Value) (cl : List (List Int)) (gi : Int → List Int) (mi ms mw : Nat) : Prop where
  rows : RowV w q vs
  sk : SK ms mw q
  sls : SlsX (SK ms mw) w vs cl
  gin : ∃ m, MapV encI okI w mi m ∧ (∀ x, getM m x = none → gi x = []) ∧ ∀ x v, getM m x = some v → SlX (SK ms mw) w v (gi x)
  ki : SK ms mw mi
theorem SGr.kept {w w' : World} {q n : Nat} {vs : List Value} {cl : List (List Int)} {gi : Int → List Int} {mi ms mw : Nat} (h : SGr w q n vs cl gi mi ms mw) (hk : Kept (SK ms mw) w w') : SGr w' q n vs cl gi mi ms mw := by
  obtain ⟨h1, h2, h3, ⟨m, h4, h5, h6⟩, h7⟩ := h
  exact ⟨h1.kept hk h2, h2, h3.kept hk, ⟨m, h4.kept hk h7, h5, fun x v hx => (h6 x v hx).kept hk⟩, h7⟩

theorem SGr.look {w : World} {q n : Nat} {vs : List Value} {cl : List (List Int)} {gi : Int → List Int} {mi ms mw : Nat} (h : SGr w q n vs cl gi mi ms mw) : ∃ m, MapV encI okI w mi m ∧ ∀ x, ∃ a c, (getM m x).getD (.slice none 0 0) = .slice a (gi x).length c ∧ SlX (SK ms mw) w (.slice a (gi x).length c) (gi x) := by
  obtain ⟨m, h1, h2, h3⟩ := h.gin
  refine ⟨m, h1, fun x => ?_⟩
  rcases hx : getM m x with _ | v
  · rw [h2 x hx]
    exact ⟨none, 0, rfl, SlX.nil _ _⟩
  · have := h3 x v hx
    obtain ⟨a, c, rfl⟩ := this.shape
    exact ⟨a, c, rfl, this⟩
set_option maxRecDepth 100000 in
set_option maxHeartbeats 2000000 in
theorem run_any {cl : List (List Int)} {fr F : List Int} {gi : Int → List Int} {sb q n : Nat} {vs : List Value} {mi ms mw : Nat} {is0 wt0 : List Int} (w : World) (h : SPR w sb (.slice (some ⟨q, 0, none⟩) n n) mi ms mw is0 wt0) (hg : SGr w q n vs cl gi mi ms mw) (hn : cl.length = n) (hnb : n ≤ 100000000) (hG : GIN cl gi) (hcl : ∀ c ∈ cl, ∀ x ∈ c, okL x) (hll : ∀ c ∈ cl, c.length ≤ 1000000) (hQ : SQ cl fr F is0 wt0 []) :
    Calls Try.prog 68 #[.pointer (some ⟨sb, 0, none⟩)] w fun e w' => ∃ b, e = .returned (.bool b) ∧ (b = true → ∃ is', SPR w' sb (.slice (some ⟨q, 0, none⟩) n n) mi ms mw is' [] ∧ SQ cl fr F is' [] []) ∧ (b = false → Conflict cl fr) ∧ Kept (SK ms mw) w w' := by
  have HG := Lib.hid hg
  have HGI := Lib.hid hG
  have HCL := Lib.hid hcl
  have HLL := Lib.hid hll
  have HN := Lib.hid hn
  have hnI : (n : Int) ≤ 100000000 := by omega
  have HS0 := Lib.hid (show SPR w sb (.slice (some ⟨q, 0, none⟩) n n) mi ms mw is0 wt0 ∧ SQ cl fr F is0 wt0 [] from ⟨h, hQ⟩)
  obtain ⟨m, hmi⟩ := hg.look
  have HMI := Lib.hid hmi
  clear h hg hn hnb hG hcl hll hQ hmi
  go_enter Try.func68, Try.ntmps68
  (repeat (first | (with_reducible first | refine xA ?_ | refine xB ?_ | refine xC ?_ | refine xD ?_ | refine xH ?_ | refine xI rfl ?_ | refine xE ?_ | refine xF ?_ | refine xG ?_) | go_values | go_skip | go_guarded | go_step | go_upon | go_back | (dsimp only)))
  go_loopw [] (fun wr => ∃ (is wt : List Int), Hid (SPR wr sb (.slice (some ⟨q, 0, none⟩) n n) mi ms mw is wt) ∧ Hid (SQ cl fr F is wt []) ∧ Kept (SK ms mw) w wr) (fun wr => 2 * (2097153 - mapSz wr ms) + mapSz wr mw)
  case atStart => exact ⟨is0, wt0, Lib.hid HS0.out.1, Lib.hid HS0.out.2, Kept.refl _ _⟩
  case round =>
    obtain ⟨is, wt, HR, HQ, hK⟩ := hrel
    have hsz := Lib.hid HR.out.sizes
    have c0 : wr.cell? ⟨sb, 0, none⟩ = some (.slice (some ⟨q, 0, none⟩) n n) := by simp [World.cell?, HR.out.box]
    have c1 : wr.cell? ⟨sb, 1, none⟩ = some (.map (some mi)) := by simp [World.cell?, HR.out.box]
    have c3 : wr.cell? ⟨sb, 3, none⟩ = some (.map (some mw)) := by simp [World.cell?, HR.out.box]
    rcases Nat.eq_zero_or_pos wt.length with hz | hp
    · have hzI : decide ((wt.length : Int) > 0) = false := decide_eq_false (by omega)
      (repeat (first | (with_reducible first | refine xA ?_ | refine xB ?_ | refine xC ?_ | refine xD ?_ | refine xH ?_ | refine xI rfl ?_ | refine xE ?_ | refine xF ?_ | refine xG ?_) | go_skip | go_guarded | ((with_reducible refine wl_id ?_); refine wl_len rfl _ 39 rfl 3 3 Try.underlying39 mw (oneM wt) rfl HR.out.mwt ?_; (rw [oneM_len]); (try simp only [Act.put, List.setIfInBounds_toArray, List.set_cons_succ, List.set_cons_zero])) | go_values | go_skip | go_guarded | go_step | go_upon | go_back | (dsimp only)))
      go_ret
      obtain rfl : wt = [] := List.length_eq_zero_iff.1 hz
      exact ⟨true, rfl, fun _ => ⟨is, HR.out, HQ.out⟩, by simp, hK⟩
    · have hzI : decide ((wt.length : Int) > 0) = true := decide_eq_true (by omega)
      (repeat (first | (with_reducible first | refine xA ?_ | refine xB ?_ | refine xC ?_ | refine xD ?_ | refine xH ?_ | refine xI rfl ?_ | refine xE ?_ | refine xF ?_ | refine xG ?_) | go_skip | go_guarded | ((with_reducible refine wl_id ?_); refine wl_len rfl _ 39 rfl 3 3 Try.underlying39 mw (oneM wt) rfl HR.out.mwt ?_; (rw [oneM_len]); (try simp only [Act.put, List.setIfInBounds_toArray, List.set_cons_succ, List.set_cons_zero])) | ((with_reducible refine wl_id ?_); refine wl_range rfl _ 39 rfl 3 3 Try.underlying39 mw (oneM wt) rfl HR.out.mwt ?_; intro w1 hI hb1; (rw [oneM_keys] at hI); (try simp only [Act.put, List.setIfInBounds_toArray, List.set_cons_succ, List.set_cons_zero])) | go_values | go_skip | go_guarded | go_step | go_upon | go_back | (dsimp only)))
      refine wp_loop_rounds 1 ?_
      rw [rounds_succ]
      (repeat (first | (with_reducible first | refine xA ?_ | refine xB ?_ | refine xC ?_ | refine xD ?_ | refine xH ?_ | refine xI rfl ?_ | refine xE ?_ | refine xF ?_ | refine xG ?_) | go_skip | go_guarded | ((with_reducible refine wl_id ?_); refine wl_next rfl _ rfl (fun x y h => keyI.inj x y h) wr.heap.size mw (oneM wt) wt rfl hI (fun e => absurd e (by rintro rfl; simp at hp)) ?_; intro x xv w2 hxL hxm hI2 hg2 hent; have hb2 : Below wr.heap.size wr w2 := ((Kept.ofBelow (X := fun k => k < wr.heap.size) hb1).grown hg2 (fun q e hl => by injection e with e; omega)).toBelow (Nat.le_refl _) (fun k h => h); have hW2 := HR.out.mwt.kept (Kept.ofBelow (X := fun _ => True) hb2) trivial; have d3 := cell_keep hb2 c3; have hxo := HQ.out.rng x (HQ.out.sub x hxL); have hxb := hxo.2; have hokx : okI x := ⟨by omega, by omega⟩; have hoknx : okI (-x) := ⟨by omega, by omega⟩; obtain ⟨a3, m3, he3, hs3⟩ := HMI.out.2 (-x); have HE3 := Lib.hid he3; have HS3 := Lib.hid hs3; have hgl := HGI.out.len (-x); have hglI : ((gi (-x)).length : Int) ≤ 1000000000 := (by omega); have HX := Lib.hid hxL; have HXO := Lib.hid hxo; clear hxm hI2 hI hg2 he3 hs3 hxo hxL; (simp only [encI] at hent ⊢); (try simp only [Act.put, List.setIfInBounds_toArray, List.set_cons_succ, List.set_cons_zero])) | ((with_reducible refine wl_id ?_); refine wl_entry rfl _ rfl wr.heap.size rfl _ hent ?_; (try simp only [Act.put, List.setIfInBounds_toArray, List.set_cons_succ, List.set_cons_zero])) | ((with_reducible refine wl_id ?_); refine wl_delete rfl _ _ 39 3 rfl 3 keyI Try.underlying39 mw (oneM wt) rfl hW2 x rfl hokx ?_; intro w3 hM3 hg3; (rw [oneM_rem HQ.out.nodw] at hM3); have hk3 : Kept (SK ms mw) wr w3 := (Kept.ofBelow hb2).grown hg3 (fun q e _ hx => hx.2 (by injection e with e; exact e.symm)); have hK3 := hK.trans hk3; have d1 := hk3.cell c1 HR.out.apart; have hMi := HMI.out.1.kept hK3 HG.out.ki; have d0 := hk3.cell c0 HR.out.apart; have HM3 := Lib.hid (show SPR w3 sb (.slice (some ⟨q, 0, none⟩) n n) mi ms mw is (wt.erase x) from ⟨hk3.at HR.out.box HR.out.apart, (HR.out.mis.kept (Kept.ofBelow (X := fun _ => True) hb2) trivial).same (hg3.block _ (Nat.lt_of_lt_of_le HR.out.mis.lt hb2.size) (fun e => HR.out.ne (by injection e))), hM3, HR.out.ne, fun y hy => HR.out.sub y (List.mem_of_mem_erase hy)⟩); have HQ3 := Lib.hid (HQ.out.pick (x := x) (qOf cl (gi (-x))) (HGI.out.q (-x))); clear hM3 hg3 hW2 d3; (try simp only [Act.put, List.setIfInBounds_toArray, List.set_cons_succ, List.set_cons_zero])) | ((with_reducible refine wl_id ?_); refine wl_lookup rfl _ _ 107 false rfl 3 26 keyI Try.underlying107 (.slice none 0 0) (zeroS _) mi m rfl hMi (-x) rfl hoknx ?_; (simp only [Bool.false_eq_true, if_false]; (rw [HE3.out])); (try simp only [Act.put, List.setIfInBounds_toArray, List.set_cons_succ, List.set_cons_zero])) | go_values | go_skip | go_guarded | go_step | go_upon | go_back | (dsimp only)))
      clear hent hokx hoknx hxb d1 hMi hk3 hb2 hb1 c0 c1 c3 hzI
      go_loopw [34] (fun i wj => ∃ (j : Nat) (is2 wt2 : List Int), j ≤ (gi (-x)).length ∧ i = .int .i64 j ∧ Hid (SPR wj sb (.slice (some ⟨q, 0, none⟩) n n) mi ms mw is2 wt2) ∧ Hid (SQ cl fr F is2 wt2 ((qOf cl (gi (-x))).drop j)) ∧ Kept (SK ms mw) w wj ∧ Hid (is2.length + (wt.erase x).length = is.length + wt2.length ∧ is.length ≤ is2.length)) (fun i _ => (gi (-x)).length - (intOf i).toNat)
      case atStart => exact ⟨0, is, wt.erase x, Nat.zero_le _, rfl, HM3, HQ3, hK3, Lib.hid ⟨rfl, Nat.le_refl _⟩⟩
      case round =>
        clear hK3 HM3 HQ3 d0
        obtain ⟨j, is2, wt2, hj, rfl, HR2, HQ2, hK2, hms⟩ := hrel
        rcases Nat.lt_or_ge j (gi (-x)).length with hlt | hge
        · obtain ⟨b, o, rfl, hbs, _, _, hRow⟩ := HS3.out.row (by omega)
          obtain ⟨i, hi⟩ : ∃ y, (gi (-x))[j]? = some y := ⟨_, List.getElem?_eq_getElem hlt⟩
          have hci := hK2.cell (hRow j i hi) hbs
          have hib := HGI.out.bd _ i (List.mem_of_getElem? hi)
          obtain ⟨k, rfl⟩ := Int.eq_ofNat_of_zero_le hib.1
          obtain ⟨c, hc⟩ : ∃ c, cl[k]? = some c := ⟨_, List.getElem?_eq_getElem (by omega)⟩
          obtain ⟨v, hv⟩ : ∃ v, vs[k]? = some v := ⟨_, List.getElem?_eq_getElem (by have := HG.out.sls.1; omega)⟩
          have hcv := hK2.cell (HG.out.rows k v hv) HG.out.sk
          have hsv := (HG.out.sls.2 k v c hv hc).kept hK2
          have hkn : (k : Int) < (n : Int) := by have := HN.out; omega
          have d0 : wr.cell? ⟨sb, 0, none⟩ = some (.slice (some ⟨q, 0, none⟩) n n) := by simp [World.cell?, HR2.out.box]
          have HQD := Lib.hid (show (qOf cl (gi (-x))).drop j = c :: (qOf cl (gi (-x))).drop (j + 1) from qOf_at hi (by rw [Int.toNat_natCast]; exact hc))
          obtain ⟨av, mv, rfl⟩ := hsv.shape
          obtain ⟨r, hr⟩ : ∃ r, Hid (askP is2 wt2 c = r) := ⟨_, Lib.hid rfl⟩
          have HCM := Lib.hid (List.mem_of_getElem? hc)
          have HA := Lib.hid (ask_any wr HR2.out _ c hsv (HCL.out c HCM.out) (HLL.out c HCM.out) r hr)
          have HQ4 := HQ2.out
          rw [HQD.out] at HQ4
          have HQ5 := Lib.hid (HQ4.ask HCM.out (HCL.out c HCM.out))
          rw [hr.out] at HQ5
          clear hi hib hc hv hRow hsv HQ4
          (repeat (first | (with_reducible first | refine xA ?_ | refine xB ?_ | refine xC ?_ | refine xD ?_ | refine xH ?_ | refine xI rfl ?_ | refine xE ?_ | refine xF ?_ | refine xG ?_) | go_skip | go_guarded | (go_at_call 67; (with_reducible refine (HA.out).mono ?_); rintro _ w4 ⟨rfl, hR4, hK4⟩; have hK24 := hK2.trans hK4; rcases r with _ | r; rotate_left; all_goals (simp only [Option.isSome_some, Option.isSome_none])) | go_values | go_skip | go_guarded | go_step | go_upon | go_back | (dsimp only)))
          · have hq6 := HQ5.out.1 r rfl
            have hl := askP_len hr.out
            exact ⟨⟨j + 1, r.1, r.2, by omega, by go_num, Lib.hid (hR4 r rfl), Lib.hid hq6.1, hK24, Lib.hid (by have := hms.out; omega)⟩, by simp [intOf]; omega⟩
          · (repeat (first | (with_reducible first | refine xA ?_ | refine xB ?_ | refine xC ?_ | refine xD ?_ | refine xH ?_ | refine xI rfl ?_ | refine xE ?_ | refine xF ?_ | refine xG ?_) | go_values | go_skip | go_guarded | go_step | go_upon | go_back | (dsimp only)))
            go_ret
            exact ⟨false, rfl, by simp, fun _ => HQ5.out.2 rfl, hK24⟩
        · obtain rfl : j = (gi (-x)).length := by omega
          (repeat (first | (with_reducible first | refine xA ?_ | refine xB ?_ | refine xC ?_ | refine xD ?_ | refine xH ?_ | refine xI rfl ?_ | refine xE ?_ | refine xF ?_ | refine xG ?_) | go_values | go_skip | go_guarded | go_step | go_upon | go_back | (dsimp only)))
          have hq6 := HQ2.out
          rw [show (qOf cl (gi (-x))).drop (gi (-x)).length = [] from List.drop_eq_nil_of_le (by simp [qOf])] at hq6
          refine ⟨⟨is2, wt2, HR2, Lib.hid hq6, hK2⟩, ?_⟩
          have hz2 := HR2.out.sizes
          have hz1 := hsz.out
          have hb2 := okL_len hq6.nod hq6.rng
          have hm := hms.out
          rw [List.length_erase_of_mem HX.out] at hm
          rw [hz1.1, hz1.2, hz2.1, hz2.2]
          omega

end Go.Proofs.Ytmaogkgjiplckaa
