import Derived.Test.YtmaogkgjiplckaaGreatQR6
import Derived.Laws.EntriesVeiled
import Derived.Laws.ResultCell
import Derived.WalkMore
set_option linter.unusedVariables false
set_option linter.unusedSimpArgs false
namespace Go.Proofs.YtmaogkgjiplckaaGreat
open Go.RowKit
section
variable {X : Nat → Prop} {base bb gb : Nat} {b : BS} {lv wv : Value} {iv rv vs : List Value}
theorem set_grown {w : World} {q i : Nat} {v : Value} : w.grownBy (w.setCell ⟨q, i, none⟩ v) (some q) := ⟨rfl, rfl, rfl, by simp, fun k hk hn => heap_setCell_other _ _ k _ (fun e => hn (by rw [e]))⟩
theorem slsx_set {Z : Nat → Prop} {w : World} {xs : List Value} {cl : List (List Int)} (h : SlsX Z w xs cl) (i : Nat) {v : Value} {l : List Int} (hv : SlX Z w v l) : SlsX Z w (xs.set i v) (cl.set i l) := by
  refine ⟨by rw [List.length_set, List.length_set]; exact h.1, fun j x m hx hm => ?_⟩
  by_cases e : i = j
  · subst e
    rw [List.getElem?_set] at hx hm
    rw [if_pos rfl] at hx hm
    split at hx
    · rename_i hl
      rw [if_pos (by rw [← h.1]; exact hl)] at hm
      injection hx with hx
      injection hm with hm
      subst hx; subst hm
      exact hv
    · cases hx
  · rw [List.getElem?_set_ne e] at hx hm
    exact h.2 j x m hx hm
theorem BRep.setI {w : World} (h : BRep X base w bb gb b lv iv rv wv vs) {i : Nat} (hi : i < 16) {v : Value} {l : List Int} (hv : SlX (BZ X bb wv) w v l) (hne : l ≠ []) :
    BRep X base (w.setCell ⟨bb, 3 + i, none⟩ v) bb gb ⟨b.g, b.ws, b.inp.set i l, b.reg⟩ lv (iv.set i v) rv wv vs := by
  have hg : w.grownBy (w.setCell ⟨bb, 3 + i, none⟩ v) (some bb) := set_grown
  have hk : Kept (fun k => k ≠ bb) w (w.setCell ⟨bb, 3 + i, none⟩ v) := ⟨hg.os, hg.tape, hg.output, hg.size, fun i hi hx => hg.block i hi (fun e => hx (by injection e))⟩
  have kz := hk.mono (Y := BZ X bb wv) fun k _ hz => hz.2.1
  have hbox := heap_setCell_same w bb (3 + i) _ _ v h.box
  rw [List.setIfInBounds_toArray, bc_set_inp h.il v hi] at hbox
  refine ⟨hbox, h.xb, h.gr.other hg h.xb, by rw [List.length_set]; exact h.il, h.rl, (slsx_set h.inp i hv).kept kz, h.reg.kept kz, ?_, ?_, owns_kept h.row hk fun k e => (h.xw k e).2, h.xw, h.words.kept kz⟩
  · intro j x hx hm
    by_cases e : i = j
    · subst e
      exfalso
      rw [List.getElem?_set, if_pos rfl] at hm
      split at hm
      · injection hm with hm; exact hne hm
      · cases hm
    · exact h.ni j x (by rwa [List.getElem?_set_ne e] at hx) (by rwa [List.getElem?_set_ne e] at hm)
  · exact h.nr
set_option maxRecDepth 100000 in
set_option maxHeartbeats 1000000 in
theorem input_b (w : World) (h : BRep X base w bb gb b lv iv rv wv vs) (hIL : b.inp.length = 16) (op wd k0 k1 k2 : Int) (i : Nat) (hi : i < 16) (hn : b.g.n + 8 ≤ 1048576) (r : BS × List Int) (hr : Hid ((if b.inp.getD i [] = [] then (⟨addV b.g 8, b.ws, b.inp.set i (freeL b.g.n 8), b.reg⟩, freeL b.g.n 8) else (b, b.inp.getD i [])) = r)) :
    Calls Tryz.prog 44 #[.pointer (some ⟨bb, 0, none⟩), .agg #[.int .i64 op, .int .i64 wd, .int .u64 (i : Nat), .int .i64 k0, .int .i64 k1, .int .i64 k2]] w (WordB X base bb gb lv wv vs w r) := by
  have q28 : ∀ (w : World) (a : Option Addr) (n c n' c' : Nat), (binOp .eql 31 (.slice a n c) (.slice none n' c')).run Tryz.prog w = .ok (.bool a.isNone) w := fun w a n c n' c' => Lib.run_eql_slice_nil w _ _ a n c n' c' Tryz.underlying31
  have hiI : (i : Int) < 16 := by omega
  have hi0 : (0 : Int) ≤ (i : Int) := by omega
  have hil := h.inp.1
  obtain ⟨v, hv⟩ : ∃ v, iv[i]? = some v := ⟨_, List.getElem?_eq_getElem (by omega)⟩
  obtain ⟨l, hl⟩ : ∃ l, b.inp[i]? = some l := ⟨_, List.getElem?_eq_getElem (by omega)⟩
  have hgd : b.inp.getD i [] = l := by rw [List.getD_eq_getElem?_getD, hl]; rfl
  have hS := h.inp.2 i v l hv hl
  have hc := h.ci hv
  have hX := box_row w ⟨op, wd, (i : Nat), k0, k1, k2⟩ 49
  dsimp only at hX
  have hb1 : Below w.heap.size w (w.alloc (.cells #[.int .i64 op, .int .i64 wd, .int .u64 (i : Nat), .int .i64 k0, .int .i64 k1, .int .i64 k2] 49)) := by (repeat (first | with_reducible exact Below.refl _ _ | assumption | with_reducible refine below_drewN ?_ _ | with_reducible refine Below.drew ?_ | with_reducible refine Below.setRow ?_ ?_ _ | with_reducible refine Below.alloc ?_ ?_ _ | with_reducible refine Below.setCell ?_ ?_ _ | with_reducible exact Nat.le_refl _ | (focus (simp; done)) | (focus (simp; omega)) | omega))
  have H := Lib.hid h
  by_cases h0 : l = []
  · subst h0
    have hv0 := h.ni i v hv hl
    subst hv0
    have hr1 := hr.out
    rw [hgd, if_pos rfl] at hr1
    have HR := Lib.hid hr1
    have HL := Lib.hid hl
    have HV := Lib.hid hv
    have Hn := Lib.hid hn
    clear h hr hr1 hgd hl hv hS hn
    go_enter Tryz.func44, Tryz.ntmps44
    (repeat (first | (with_reducible first | refine xA ?_ | refine xB ?_ | refine xC ?_ | refine xD ?_ | refine xH ?_ | refine xI rfl ?_ | refine xE ?_ | refine xF ?_ | refine xG ?_) | go_values | go_skip | go_guarded | go_step | go_upon | go_back | ((with_reducible show Oper.upon _ _ _ _ _ _); go_simp) | (dsimp only)))
    refine wp_abs (fun u => Below w.heap.size w u ∧ RowAt 6 Nd.cells u w.heap.size 0 [⟨op, wd, (i : Nat), k0, k1, k2⟩]) ⟨hb1, hX⟩ ?_
    clear hb1 hX
    rintro w1 ⟨hb1, HR1⟩
    have hc1 := cell_keep hb1 hc
    obtain ⟨n0, n1, n2, n3, n4, n5⟩ := nd_cells HR1
    dsimp only at n2
    clear n0 n1 n3 n4 n5
    go_quiet (fail)
    (repeat (first | (with_reducible first | refine xA ?_ | refine xB ?_ | refine xC ?_ | refine xD ?_ | refine xH ?_ | refine xI rfl ?_ | refine xE ?_ | refine xF ?_ | refine xG ?_) | go_values | go_skip | go_guarded | go_step | go_upon | go_back | ((with_reducible show Oper.upon _ _ _ _ _ _); go_simp) | (dsimp only)))
    refine wp_abs (fun u => Below w.heap.size w u ∧ RowAt 6 Nd.cells u w.heap.size 0 [⟨op, wd, (i : Nat), k0, k1, k2⟩]) ⟨below_drewN hb1 _, HR1⟩ ?_
    clear hb1 HR1 hc1 n2
    rintro w1 ⟨hb1, HR1⟩
    refine wp_region_held (S := fun u => RowAt 6 Nd.cells u w.heap.size 0 [⟨op, wd, (i : Nat), k0, k1, k2⟩]) (by kernel_rfl) ?_
    replace HR1 : RowAt 6 Nd.cells ({ w1 with drawn := w1.drawn + 1 } : World) w.heap.size 0 [⟨op, wd, (i : Nat), k0, k1, k2⟩] := HR1
    replace hb1 : Below w.heap.size w ({ w1 with drawn := w1.drawn + 1 } : World) := hb1.trans ⟨rfl, rfl, rfl, Nat.le_refl _, fun _ _ => rfl⟩
    generalize ({ w1 with drawn := w1.drawn + 1 } : World) = u0 at *
    have HSC := HR1
    clear HR1
    refine wpAnyH_take (i := 0) (v := .pointer (some ⟨bb, 0, none⟩)) rfl (by kernel_rfl) (by kernel_rfl) (by kernel_rfl) (fun _ _ _ h => h) (Or.inl ⟨rfl, fun w _ => by go_simp⟩) HSC ?_; simp only [Act.put, qz1, qz2, qz3, qz4, qz5, qz6]
    refine wpAnyH_take (i := 1) (v := .pointer (some ⟨w.heap.size, 2, none⟩)) rfl (by kernel_rfl) (by kernel_rfl) (by kernel_rfl) (fun _ _ _ h => h) (Or.inl ⟨rfl, fun w _ => by go_simp⟩) HSC ?_; simp only [Act.put, qz1, qz2, qz3, qz4, qz5, qz6]
    refine wpAnyH_take (i := 2) (v := .int .u64 (i : Nat)) rfl (by kernel_rfl) (by kernel_rfl) (by kernel_rfl) (fun _ _ _ h => h) (Or.inl ⟨rfl, fun w hw => by have n2 := (nd_cells hw).2.2.1; dsimp only at n2; go_simp⟩) HSC ?_; simp only [Act.put, qz1, qz2, qz3, qz4, qz5, qz6]
    refine wpAnyH_take (i := 3) (v := .pointer (some ⟨bb, 0, none⟩)) rfl (by kernel_rfl) (by kernel_rfl) (by kernel_rfl) (fun _ _ _ h => h) (Or.inl ⟨rfl, fun w _ => by go_simp⟩) HSC ?_; simp only [Act.put, qz1, qz2, qz3, qz4, qz5, qz6]
    refine wpAnyH_take (i := 5) (v := .pointer (some ⟨bb, 0, none⟩)) rfl (by kernel_rfl) (by kernel_rfl) (by kernel_rfl) (fun _ _ _ h => h) (Or.inl ⟨rfl, fun w _ => by go_simp⟩) HSC ?_; simp only [Act.put, qz1, qz2, qz3, qz4, qz5, qz6]
    refine wpAnyH_take (i := 6) (v := .pointer (some ⟨bb, 0, none⟩)) rfl (by kernel_rfl) (by kernel_rfl) (by kernel_rfl) (fun _ _ _ h => h) (Or.inl ⟨rfl, fun w _ => by go_simp⟩) HSC ?_; simp only [Act.put, qz1, qz2, qz3, qz4, qz5, qz6]
    refine wpAnyH_take (i := 7) (v := .pointer (some ⟨bb, 3, none⟩)) rfl (by kernel_rfl) (by kernel_rfl) (by kernel_rfl) (fun _ _ _ h => h) (Or.inl ⟨rfl, fun w _ => by go_simp⟩) HSC ?_; simp only [Act.put, qz1, qz2, qz3, qz4, qz5, qz6]
    refine wpAnyH_all (rs := [4]) (by kernel_rfl) (by simp) (fun i hj => ?_)
    obtain rfl : i = 4 := by simpa using hj
    refine wpOp_one rfl ?_
    obtain ⟨hO, hzq⟩ := H.out.owned hb1 (q := w.heap.size) (Nat.le_refl _) (row_lt HSC)
    have hcg := hO.cg
    have HF : Hid (Calls Tryz.prog 62 #[.pointer (some ⟨bb, 0, none⟩), .int .i64 8] u0 fun e w' => e = .returned (.slice (some ⟨u0.heap.size, 0, none⟩) 8 8) ∧ OwnI w' u0.heap.size 8 (freeL b.g.n 8) ∧ GR (fun k => (X k ∨ k = w.heap.size) ∨ k = u0.heap.size) base w' gb (addV b.g 8) ∧ Kept (fun k => X k ∨ k = w.heap.size) u0 w') := Lib.hid (bfree_any _ hO.gr hcg hO.xb 8 (by decide) (by decide) Hn.out)
    (repeat (first | (with_reducible first | refine xA ?_ | refine xB ?_ | refine xC ?_ | refine xD ?_ | refine xH ?_ | refine xI rfl ?_ | refine xE ?_ | refine xF ?_ | refine xG ?_) | go_skip | go_guarded | (go_at_call 62; (with_reducible refine HF.out.mono ?_); rintro _ w2 ⟨rfl, hF, hG, hK⟩) | go_values | go_skip | go_guarded | go_step | go_upon | go_back | ((with_reducible show Oper.upon _ _ _ _ _ _); go_simp) | (dsimp only)))
    have hR2 := row_kept HSC hK (.inr rfl)
    refine ⟨hR2, ?_⟩
    refine wpAnyH_take (i := 8) (v := .pointer (some ⟨bb, 3 + i, none⟩)) rfl (by kernel_rfl) (by kernel_rfl) (by kernel_rfl) (fun _ _ _ h => h) (Or.inl ⟨rfl, fun w _ => by go_simp⟩) hR2 ?_
    simp only [Act.put, qz1, qz2, qz3, qz4, qz5, qz6]
    refine wpAnyH_all (rs := [9]) (by kernel_rfl) (by simp) (fun i hj => ?_)
    obtain rfl : i = 9 := by simpa using hj
    refine wpOp_one rfl ?_
    have hT := hO.turn hK hG (fun k h => .inl h)
    have hcell := hT.ci HV.out
    have hfr := frozen_of_row w2 bb (3 + i) _ _ hT.box
    (repeat (first | (with_reducible first | refine xA ?_ | refine xB ?_ | refine xC ?_ | refine xD ?_ | refine xH ?_ | refine xI rfl ?_ | refine xE ?_ | refine xF ?_ | refine xG ?_) | go_values | go_skip | go_guarded | go_step | go_upon | go_back | ((with_reducible show Oper.upon _ _ _ _ _ _); go_simp) | (dsimp only)))
    have hZ : BZ (fun k => (X k ∨ k = w.heap.size) ∨ k = u0.heap.size) bb wv u0.heap.size := ⟨.inr rfl, by have := hO.lt; omega, fun e => by have := hO.gr.xb _ (hO.xw _ e.symm).1; omega⟩
    have hT2 := hT.setI hi (hF.slX hZ) (by intro e; have := freeL_len b.g.n 8; rw [e] at this; cases this)
    have hsg : w2.grownBy (w2.setCell ⟨bb, 3 + i, none⟩ (.slice (some ⟨u0.heap.size, 0, none⟩) 8 8)) (some bb) := set_grown
    have hne : w.heap.size ≠ bb := fun e => hzq.2.1 e
    have hks : Kept (fun k => k ≠ bb) w2 (w2.setCell ⟨bb, 3 + i, none⟩ (.slice (some ⟨u0.heap.size, 0, none⟩) 8 8)) := ⟨hsg.os, hsg.tape, hsg.output, hsg.size, fun i hi hx => hsg.block i hi (fun e => hx (by injection e))⟩
    have hR3 := row_kept hR2 hks hne
    refine ⟨hR3, ?_⟩
    refine wpAnyH_done (by kernel_rfl) ?_ _
    (repeat (first | (with_reducible first | refine xA ?_ | refine xB ?_ | refine xC ?_ | refine xD ?_ | refine xH ?_ | refine xI rfl ?_ | refine xE ?_ | refine xF ?_ | refine xG ?_) | go_values | go_skip | go_guarded | go_step | go_upon | go_back | ((with_reducible show Oper.upon _ _ _ _ _ _); go_simp) | (dsimp only)))
    have hSL := (hF.slX hZ).kept (hks.mono fun k _ h => h.2.1)
    have hKK : Kept (fun k => X k ∧ k ≠ bb) w (w2.setCell ⟨bb, 3 + i, none⟩ (.slice (some ⟨u0.heap.size, 0, none⟩) 8 8)) := ((Kept.ofBelow hb1).trans (hK.mono fun k _ h => .inl h.1)).trans (hks.mono fun k _ h => h.2)
    have hcell3 := hT2.ci (i := i) (v := .slice (some ⟨u0.heap.size, 0, none⟩) 8 8) (by rw [List.getElem?_set_self (by have := (List.getElem?_eq_some_iff.1 HV.out).1; exact this)])
    have HT := Lib.hid hT2
    have HSL := Lib.hid hSL
    have HKK := Lib.hid hKK
    refine wp_abs (fun u => u = (w2.setCell ⟨bb, 3 + i, none⟩ (.slice (some ⟨u0.heap.size, 0, none⟩) 8 8))) rfl ?_
    intro w3 e3
    rw [← e3] at HT HSL HKK hR3 hcell3
    obtain ⟨n0, n1, n2, n3, n4, n5⟩ := nd_cells hR3
    dsimp only at n2
    clear n0 n1 n3 n4 n5 e3 hT2 hSL hKK hsg hks hT hcell hfr hR2 hR3 hcg hO hG hK hF
    go_quiet (fail)
    (repeat (first | (with_reducible first | refine xA ?_ | refine xB ?_ | refine xC ?_ | refine xD ?_ | refine xH ?_ | refine xI rfl ?_ | refine xE ?_ | refine xF ?_ | refine xG ?_) | go_values | go_skip | go_guarded | go_step | go_upon | go_back | ((with_reducible show Oper.upon _ _ _ _ _ _); go_simp) | (dsimp only)))
    go_ret
    rw [← HR.out]
    have hbd : Below w3.heap.size w3 (w3.drewN nq) := below_drewN (Below.refl _ _) _
    exact ⟨_, _, _, _, rfl, fun k h => .inl (.inl h), HT.out.below hbd, HSL.out.kept (Kept.ofBelow hbd), HKK.out.trans (Kept.ofBelow hbd)⟩
  · have hv2 : ∃ bq oq c, v = .slice (some ⟨bq, oq, none⟩) l.length c := by
      obtain ⟨ao, c, rfl⟩ := hS.shape
      obtain ⟨bq, oq, rfl, _⟩ := hS.row (List.length_pos_iff.2 h0)
      exact ⟨bq, oq, c, rfl⟩
    obtain ⟨bq, oq, c, rfl⟩ := hv2
    have hr1 := hr.out
    rw [hgd, if_neg h0] at hr1
    subst hr1
    have HS := Lib.hid hS
    clear h hr hgd hl hv hS hn h0
    go_enter Tryz.func44, Tryz.ntmps44
    (repeat (first | (with_reducible first | refine xA ?_ | refine xB ?_ | refine xC ?_ | refine xD ?_ | refine xH ?_ | refine xI rfl ?_ | refine xE ?_ | refine xF ?_ | refine xG ?_) | go_values | go_skip | go_guarded | go_step | go_upon | go_back | ((with_reducible show Oper.upon _ _ _ _ _ _); go_simp) | (dsimp only)))
    refine wp_abs (fun u => Below w.heap.size w u ∧ RowAt 6 Nd.cells u w.heap.size 0 [⟨op, wd, (i : Nat), k0, k1, k2⟩]) ⟨hb1, hX⟩ ?_
    clear hb1 hX
    rintro w1 ⟨hb1, HR1⟩
    have hc1 := cell_keep hb1 hc
    obtain ⟨n0, n1, n2, n3, n4, n5⟩ := nd_cells HR1
    dsimp only at n2
    clear n0 n1 n3 n4 n5
    go_quiet (fail)
    (repeat (first | (with_reducible first | refine xA ?_ | refine xB ?_ | refine xC ?_ | refine xD ?_ | refine xH ?_ | refine xI rfl ?_ | refine xE ?_ | refine xF ?_ | refine xG ?_) | go_values | go_skip | go_guarded | go_step | go_upon | go_back | ((with_reducible show Oper.upon _ _ _ _ _ _); go_simp) | (dsimp only)))
    refine wp_abs (fun u => Below w.heap.size w u ∧ u.cell? ⟨bb, 3 + i, none⟩ = some (.slice (some ⟨bq, oq, none⟩) l.length c) ∧ u.cell? ⟨w.heap.size, 2, none⟩ = some (.int .u64 (i : Nat))) ⟨below_drewN hb1 _, hc1, n2⟩ ?_
    clear hb1 HR1 hc1 n2
    rintro w1 ⟨hb1, hc1, n2⟩
    go_quiet (fail)
    (repeat (first | (with_reducible first | refine xA ?_ | refine xB ?_ | refine xC ?_ | refine xD ?_ | refine xH ?_ | refine xI rfl ?_ | refine xE ?_ | refine xF ?_ | refine xG ?_) | go_values | go_skip | go_guarded | go_step | go_upon | go_back | ((with_reducible show Oper.upon _ _ _ _ _ _); go_simp) | (dsimp only)))
    go_ret
    exact WordB.of_below H.out (below_drewN hb1 _) HS.out
end
end Go.Proofs.YtmaogkgjiplckaaGreat
namespace Go.Proofs.YtmaogkgjiplckaaGreat
open Go.RowKit
section
variable {X : Nat → Prop} {base bb gb : Nat} {b : BS} {lv wv : Value} {iv rv vs : List Value}
theorem BRep.setR {w : World} (h : BRep X base w bb gb b lv iv rv wv vs) {i : Nat} (hi : i < 8) {v : Value} {l : List Int} (hv : SlX (BZ X bb wv) w v l) (hne : l ≠ []) :
    BRep X base (w.setCell ⟨bb, 19 + i, none⟩ v) bb gb ⟨b.g, b.ws, b.inp, b.reg.set i l⟩ lv iv (rv.set i v) wv vs := by
  have hg : w.grownBy (w.setCell ⟨bb, 19 + i, none⟩ v) (some bb) := set_grown
  have hk : Kept (fun k => k ≠ bb) w (w.setCell ⟨bb, 19 + i, none⟩ v) := ⟨hg.os, hg.tape, hg.output, hg.size, fun i hi hx => hg.block i hi (fun e => hx (by injection e))⟩
  have kz := hk.mono (Y := BZ X bb wv) fun k _ hz => hz.2.1
  have hbox := heap_setCell_same w bb (19 + i) _ _ v h.box
  rw [List.setIfInBounds_toArray, bc_set_reg h.il h.rl v hi] at hbox
  refine ⟨hbox, h.xb, h.gr.other hg h.xb, h.il, by rw [List.length_set]; exact h.rl, h.inp.kept kz, (slsx_set h.reg i hv).kept kz, ?_, ?_, owns_kept h.row hk fun k e => (h.xw k e).2, h.xw, h.words.kept kz⟩
  · exact h.ni
  · intro j x hx hm
    by_cases e : i = j
    · subst e
      exfalso
      rw [List.getElem?_set, if_pos rfl] at hm
      split at hm
      · injection hm with hm; exact hne hm
      · cases hm
    · exact h.nr j x (by rwa [List.getElem?_set_ne e] at hx) (by rwa [List.getElem?_set_ne e] at hm)
set_option maxRecDepth 100000 in
set_option maxHeartbeats 1000000 in
theorem reg_b (w : World) (h : BRep X base w bb gb b lv iv rv wv vs) (hIL : b.reg.length = 8) (op wd k0 k1 k2 : Int) (i : Nat) (hi : i < 8) (hn : b.g.n + 64 ≤ 1048576) (r : BS × List Int) (hr : Hid ((if b.reg.getD i [] = [] then (⟨addV b.g 64, b.ws, b.inp, b.reg.set i (freeL b.g.n 64)⟩, freeL b.g.n 64) else (b, b.reg.getD i [])) = r)) :
    Calls Tryz.prog 45 #[.pointer (some ⟨bb, 0, none⟩), .agg #[.int .i64 op, .int .i64 wd, .int .u64 (i : Nat), .int .i64 k0, .int .i64 k1, .int .i64 k2]] w (WordB X base bb gb lv wv vs w r) := by
  have q28 : ∀ (w : World) (a : Option Addr) (n c n' c' : Nat), (binOp .eql 31 (.slice a n c) (.slice none n' c')).run Tryz.prog w = .ok (.bool a.isNone) w := fun w a n c n' c' => Lib.run_eql_slice_nil w _ _ a n c n' c' Tryz.underlying31
  have hiI : (i : Int) < 8 := by omega
  have hi0 : (0 : Int) ≤ (i : Int) := by omega
  have hil := h.reg.1
  obtain ⟨v, hv⟩ : ∃ v, rv[i]? = some v := ⟨_, List.getElem?_eq_getElem (by omega)⟩
  obtain ⟨l, hl⟩ : ∃ l, b.reg[i]? = some l := ⟨_, List.getElem?_eq_getElem (by omega)⟩
  have hgd : b.reg.getD i [] = l := by rw [List.getD_eq_getElem?_getD, hl]; rfl
  have hS := h.reg.2 i v l hv hl
  have hc := h.cr hv
  have hX := box_row w ⟨op, wd, (i : Nat), k0, k1, k2⟩ 49
  dsimp only at hX
  have hb1 : Below w.heap.size w (w.alloc (.cells #[.int .i64 op, .int .i64 wd, .int .u64 (i : Nat), .int .i64 k0, .int .i64 k1, .int .i64 k2] 49)) := by (repeat (first | with_reducible exact Below.refl _ _ | assumption | with_reducible refine below_drewN ?_ _ | with_reducible refine Below.drew ?_ | with_reducible refine Below.setRow ?_ ?_ _ | with_reducible refine Below.alloc ?_ ?_ _ | with_reducible refine Below.setCell ?_ ?_ _ | with_reducible exact Nat.le_refl _ | (focus (simp; done)) | (focus (simp; omega)) | omega))
  have H := Lib.hid h
  by_cases h0 : l = []
  · subst h0
    have hv0 := h.nr i v hv hl
    subst hv0
    have hr1 := hr.out
    rw [hgd, if_pos rfl] at hr1
    have HR := Lib.hid hr1
    have HL := Lib.hid hl
    have HV := Lib.hid hv
    have Hn := Lib.hid hn
    clear h hr hr1 hgd hl hv hS hn
    go_enter Tryz.func45, Tryz.ntmps45
    (repeat (first | (with_reducible first | refine xA ?_ | refine xB ?_ | refine xC ?_ | refine xD ?_ | refine xH ?_ | refine xI rfl ?_ | refine xE ?_ | refine xF ?_ | refine xG ?_) | go_values | go_skip | go_guarded | go_step | go_upon | go_back | ((with_reducible show Oper.upon _ _ _ _ _ _); go_simp) | (dsimp only)))
    refine wp_abs (fun u => Below w.heap.size w u ∧ RowAt 6 Nd.cells u w.heap.size 0 [⟨op, wd, (i : Nat), k0, k1, k2⟩]) ⟨hb1, hX⟩ ?_
    clear hb1 hX
    rintro w1 ⟨hb1, HR1⟩
    have hc1 := cell_keep hb1 hc
    obtain ⟨n0, n1, n2, n3, n4, n5⟩ := nd_cells HR1
    dsimp only at n2
    clear n0 n1 n3 n4 n5
    go_quiet (fail)
    (repeat (first | (with_reducible first | refine xA ?_ | refine xB ?_ | refine xC ?_ | refine xD ?_ | refine xH ?_ | refine xI rfl ?_ | refine xE ?_ | refine xF ?_ | refine xG ?_) | go_values | go_skip | go_guarded | go_step | go_upon | go_back | ((with_reducible show Oper.upon _ _ _ _ _ _); go_simp) | (dsimp only)))
    refine wp_abs (fun u => Below w.heap.size w u ∧ RowAt 6 Nd.cells u w.heap.size 0 [⟨op, wd, (i : Nat), k0, k1, k2⟩]) ⟨below_drewN hb1 _, HR1⟩ ?_
    clear hb1 HR1 hc1 n2
    rintro w1 ⟨hb1, HR1⟩
    refine wp_region_held (S := fun u => RowAt 6 Nd.cells u w.heap.size 0 [⟨op, wd, (i : Nat), k0, k1, k2⟩]) (by kernel_rfl) ?_
    replace HR1 : RowAt 6 Nd.cells ({ w1 with drawn := w1.drawn + 1 } : World) w.heap.size 0 [⟨op, wd, (i : Nat), k0, k1, k2⟩] := HR1
    replace hb1 : Below w.heap.size w ({ w1 with drawn := w1.drawn + 1 } : World) := hb1.trans ⟨rfl, rfl, rfl, Nat.le_refl _, fun _ _ => rfl⟩
    generalize ({ w1 with drawn := w1.drawn + 1 } : World) = u0 at *
    have HSC := HR1
    clear HR1
    refine wpAnyH_take (i := 0) (v := .pointer (some ⟨bb, 0, none⟩)) rfl (by kernel_rfl) (by kernel_rfl) (by kernel_rfl) (fun _ _ _ h => h) (Or.inl ⟨rfl, fun w _ => by go_simp⟩) HSC ?_; simp only [Act.put, qz1, qz2, qz3, qz4, qz5, qz6]
    refine wpAnyH_take (i := 1) (v := .pointer (some ⟨w.heap.size, 2, none⟩)) rfl (by kernel_rfl) (by kernel_rfl) (by kernel_rfl) (fun _ _ _ h => h) (Or.inl ⟨rfl, fun w _ => by go_simp⟩) HSC ?_; simp only [Act.put, qz1, qz2, qz3, qz4, qz5, qz6]
    refine wpAnyH_take (i := 2) (v := .int .u64 (i : Nat)) rfl (by kernel_rfl) (by kernel_rfl) (by kernel_rfl) (fun _ _ _ h => h) (Or.inl ⟨rfl, fun w hw => by have n2 := (nd_cells hw).2.2.1; dsimp only at n2; go_simp⟩) HSC ?_; simp only [Act.put, qz1, qz2, qz3, qz4, qz5, qz6]
    refine wpAnyH_take (i := 3) (v := .pointer (some ⟨bb, 0, none⟩)) rfl (by kernel_rfl) (by kernel_rfl) (by kernel_rfl) (fun _ _ _ h => h) (Or.inl ⟨rfl, fun w _ => by go_simp⟩) HSC ?_; simp only [Act.put, qz1, qz2, qz3, qz4, qz5, qz6]
    refine wpAnyH_take (i := 5) (v := .pointer (some ⟨bb, 0, none⟩)) rfl (by kernel_rfl) (by kernel_rfl) (by kernel_rfl) (fun _ _ _ h => h) (Or.inl ⟨rfl, fun w _ => by go_simp⟩) HSC ?_; simp only [Act.put, qz1, qz2, qz3, qz4, qz5, qz6]
    refine wpAnyH_take (i := 6) (v := .pointer (some ⟨bb, 0, none⟩)) rfl (by kernel_rfl) (by kernel_rfl) (by kernel_rfl) (fun _ _ _ h => h) (Or.inl ⟨rfl, fun w _ => by go_simp⟩) HSC ?_; simp only [Act.put, qz1, qz2, qz3, qz4, qz5, qz6]
    refine wpAnyH_take (i := 7) (v := .pointer (some ⟨bb, 19, none⟩)) rfl (by kernel_rfl) (by kernel_rfl) (by kernel_rfl) (fun _ _ _ h => h) (Or.inl ⟨rfl, fun w _ => by go_simp⟩) HSC ?_; simp only [Act.put, qz1, qz2, qz3, qz4, qz5, qz6]
    refine wpAnyH_all (rs := [4]) (by kernel_rfl) (by simp) (fun i hj => ?_)
    obtain rfl : i = 4 := by simpa using hj
    refine wpOp_one rfl ?_
    obtain ⟨hO, hzq⟩ := H.out.owned hb1 (q := w.heap.size) (Nat.le_refl _) (row_lt HSC)
    have hcg := hO.cg
    have HF : Hid (Calls Tryz.prog 62 #[.pointer (some ⟨bb, 0, none⟩), .int .i64 64] u0 fun e w' => e = .returned (.slice (some ⟨u0.heap.size, 0, none⟩) 64 64) ∧ OwnI w' u0.heap.size 64 (freeL b.g.n 64) ∧ GR (fun k => (X k ∨ k = w.heap.size) ∨ k = u0.heap.size) base w' gb (addV b.g 64) ∧ Kept (fun k => X k ∨ k = w.heap.size) u0 w') := Lib.hid (bfree_any _ hO.gr hcg hO.xb 64 (by decide) (by decide) Hn.out)
    (repeat (first | (with_reducible first | refine xA ?_ | refine xB ?_ | refine xC ?_ | refine xD ?_ | refine xH ?_ | refine xI rfl ?_ | refine xE ?_ | refine xF ?_ | refine xG ?_) | go_skip | go_guarded | (go_at_call 62; (with_reducible refine HF.out.mono ?_); rintro _ w2 ⟨rfl, hF, hG, hK⟩) | go_values | go_skip | go_guarded | go_step | go_upon | go_back | ((with_reducible show Oper.upon _ _ _ _ _ _); go_simp) | (dsimp only)))
    have hR2 := row_kept HSC hK (.inr rfl)
    refine ⟨hR2, ?_⟩
    refine wpAnyH_take (i := 8) (v := .pointer (some ⟨bb, 19 + i, none⟩)) rfl (by kernel_rfl) (by kernel_rfl) (by kernel_rfl) (fun _ _ _ h => h) (Or.inl ⟨rfl, fun w _ => by go_simp⟩) hR2 ?_
    simp only [Act.put, qz1, qz2, qz3, qz4, qz5, qz6]
    refine wpAnyH_all (rs := [9]) (by kernel_rfl) (by simp) (fun i hj => ?_)
    obtain rfl : i = 9 := by simpa using hj
    refine wpOp_one rfl ?_
    have hT := hO.turn hK hG (fun k h => .inl h)
    have hcell := hT.cr HV.out
    have hfr := frozen_of_row w2 bb (19 + i) _ _ hT.box
    (repeat (first | (with_reducible first | refine xA ?_ | refine xB ?_ | refine xC ?_ | refine xD ?_ | refine xH ?_ | refine xI rfl ?_ | refine xE ?_ | refine xF ?_ | refine xG ?_) | go_values | go_skip | go_guarded | go_step | go_upon | go_back | ((with_reducible show Oper.upon _ _ _ _ _ _); go_simp) | (dsimp only)))
    have hZ : BZ (fun k => (X k ∨ k = w.heap.size) ∨ k = u0.heap.size) bb wv u0.heap.size := ⟨.inr rfl, by have := hO.lt; omega, fun e => by have := hO.gr.xb _ (hO.xw _ e.symm).1; omega⟩
    have hT2 := hT.setR hi (hF.slX hZ) (by intro e; have := freeL_len b.g.n 64; rw [e] at this; cases this)
    have hsg : w2.grownBy (w2.setCell ⟨bb, 19 + i, none⟩ (.slice (some ⟨u0.heap.size, 0, none⟩) 64 64)) (some bb) := set_grown
    have hne : w.heap.size ≠ bb := fun e => hzq.2.1 e
    have hks : Kept (fun k => k ≠ bb) w2 (w2.setCell ⟨bb, 19 + i, none⟩ (.slice (some ⟨u0.heap.size, 0, none⟩) 64 64)) := ⟨hsg.os, hsg.tape, hsg.output, hsg.size, fun i hi hx => hsg.block i hi (fun e => hx (by injection e))⟩
    have hR3 := row_kept hR2 hks hne
    refine ⟨hR3, ?_⟩
    refine wpAnyH_done (by kernel_rfl) ?_ _
    (repeat (first | (with_reducible first | refine xA ?_ | refine xB ?_ | refine xC ?_ | refine xD ?_ | refine xH ?_ | refine xI rfl ?_ | refine xE ?_ | refine xF ?_ | refine xG ?_) | go_values | go_skip | go_guarded | go_step | go_upon | go_back | ((with_reducible show Oper.upon _ _ _ _ _ _); go_simp) | (dsimp only)))
    have hSL := (hF.slX hZ).kept (hks.mono fun k _ h => h.2.1)
    have hKK : Kept (fun k => X k ∧ k ≠ bb) w (w2.setCell ⟨bb, 19 + i, none⟩ (.slice (some ⟨u0.heap.size, 0, none⟩) 64 64)) := ((Kept.ofBelow hb1).trans (hK.mono fun k _ h => .inl h.1)).trans (hks.mono fun k _ h => h.2)
    have hcell3 := hT2.cr (i := i) (v := .slice (some ⟨u0.heap.size, 0, none⟩) 64 64) (by rw [List.getElem?_set_self (by have := (List.getElem?_eq_some_iff.1 HV.out).1; exact this)])
    have HT := Lib.hid hT2
    have HSL := Lib.hid hSL
    have HKK := Lib.hid hKK
    refine wp_abs (fun u => u = (w2.setCell ⟨bb, 19 + i, none⟩ (.slice (some ⟨u0.heap.size, 0, none⟩) 64 64))) rfl ?_
    intro w3 e3
    rw [← e3] at HT HSL HKK hR3 hcell3
    obtain ⟨n0, n1, n2, n3, n4, n5⟩ := nd_cells hR3
    dsimp only at n2
    clear n0 n1 n3 n4 n5 e3 hT2 hSL hKK hsg hks hT hcell hfr hR2 hR3 hcg hO hG hK hF
    go_quiet (fail)
    (repeat (first | (with_reducible first | refine xA ?_ | refine xB ?_ | refine xC ?_ | refine xD ?_ | refine xH ?_ | refine xI rfl ?_ | refine xE ?_ | refine xF ?_ | refine xG ?_) | go_values | go_skip | go_guarded | go_step | go_upon | go_back | ((with_reducible show Oper.upon _ _ _ _ _ _); go_simp) | (dsimp only)))
    go_ret
    rw [← HR.out]
    have hbd : Below w3.heap.size w3 (w3.drewN nq) := below_drewN (Below.refl _ _) _
    exact ⟨_, _, _, _, rfl, fun k h => .inl (.inl h), HT.out.below hbd, HSL.out.kept (Kept.ofBelow hbd), HKK.out.trans (Kept.ofBelow hbd)⟩
  · have hv2 : ∃ bq oq c, v = .slice (some ⟨bq, oq, none⟩) l.length c := by
      obtain ⟨ao, c, rfl⟩ := hS.shape
      obtain ⟨bq, oq, rfl, _⟩ := hS.row (List.length_pos_iff.2 h0)
      exact ⟨bq, oq, c, rfl⟩
    obtain ⟨bq, oq, c, rfl⟩ := hv2
    have hr1 := hr.out
    rw [hgd, if_neg h0] at hr1
    subst hr1
    have HS := Lib.hid hS
    clear h hr hgd hl hv hS hn h0
    go_enter Tryz.func45, Tryz.ntmps45
    (repeat (first | (with_reducible first | refine xA ?_ | refine xB ?_ | refine xC ?_ | refine xD ?_ | refine xH ?_ | refine xI rfl ?_ | refine xE ?_ | refine xF ?_ | refine xG ?_) | go_values | go_skip | go_guarded | go_step | go_upon | go_back | ((with_reducible show Oper.upon _ _ _ _ _ _); go_simp) | (dsimp only)))
    refine wp_abs (fun u => Below w.heap.size w u ∧ RowAt 6 Nd.cells u w.heap.size 0 [⟨op, wd, (i : Nat), k0, k1, k2⟩]) ⟨hb1, hX⟩ ?_
    clear hb1 hX
    rintro w1 ⟨hb1, HR1⟩
    have hc1 := cell_keep hb1 hc
    obtain ⟨n0, n1, n2, n3, n4, n5⟩ := nd_cells HR1
    dsimp only at n2
    clear n0 n1 n3 n4 n5
    go_quiet (fail)
    (repeat (first | (with_reducible first | refine xA ?_ | refine xB ?_ | refine xC ?_ | refine xD ?_ | refine xH ?_ | refine xI rfl ?_ | refine xE ?_ | refine xF ?_ | refine xG ?_) | go_values | go_skip | go_guarded | go_step | go_upon | go_back | ((with_reducible show Oper.upon _ _ _ _ _ _); go_simp) | (dsimp only)))
    refine wp_abs (fun u => Below w.heap.size w u ∧ u.cell? ⟨bb, 19 + i, none⟩ = some (.slice (some ⟨bq, oq, none⟩) l.length c) ∧ u.cell? ⟨w.heap.size, 2, none⟩ = some (.int .u64 (i : Nat))) ⟨below_drewN hb1 _, hc1, n2⟩ ?_
    clear hb1 HR1 hc1 n2
    rintro w1 ⟨hb1, hc1, n2⟩
    go_quiet (fail)
    (repeat (first | (with_reducible first | refine xA ?_ | refine xB ?_ | refine xC ?_ | refine xD ?_ | refine xH ?_ | refine xI rfl ?_ | refine xE ?_ | refine xF ?_ | refine xG ?_) | go_values | go_skip | go_guarded | go_step | go_upon | go_back | ((with_reducible show Oper.upon _ _ _ _ _ _); go_simp) | (dsimp only)))
    go_ret
    exact WordB.of_below H.out (below_drewN hb1 _) HS.out
end
end Go.Proofs.YtmaogkgjiplckaaGreat
namespace Go.Proofs.YtmaogkgjiplckaaGreat
open Go.RowKit
def wayK (m j : Nat) : Value := if j = 0 then .func (Fn.func 43) #[] #[] else if j = 1 then .func (Fn.func 44) #[] #[] else if j = 2 then .func (Fn.func 45) #[] #[] else if j = 5 then .func (Fn.func 46) #[] #[] else if j = 6 then .func (Fn.func 47) #[] #[] else if j = 7 then .func (Fn.func 48) #[] #[] else if j = 22 then .func (Fn.func 49) #[] #[] else if 8 ≤ j ∧ j < m then .func (Fn.func 46) #[] #[] else Value.nilFunc
def waysV (m : Nat) : List Value := (List.range 25).map (wayK m)
theorem waysV_len (m : Nat) : (waysV m).length = 25 := by simp [waysV]
theorem waysV_get (m j : Nat) (h : j < 25) : (waysV m)[j]? = some (wayK m j) := by
  unfold waysV
  rw [List.getElem?_map, List.getElem?_range h]; rfl
theorem waysV_set (m : Nat) (h8 : 8 ≤ m) (h : m < 22) : (waysV m).set m (.func (Fn.func 46) #[] #[]) = waysV (m + 1) := by
  apply List.ext_getElem?
  intro j
  by_cases e : m = j
  · subst e
    rw [List.getElem?_set_self (by rw [waysV_len]; omega), waysV_get _ _ (by omega)]
    unfold wayK
    simp
    split <;> try omega
    split <;> try omega
    split <;> try omega
    split <;> try omega
    split <;> try omega
    split <;> try omega
    split <;> try omega
    rfl
  · rw [List.getElem?_set_ne e]
    rcases Nat.lt_or_ge j 25 with h25 | h25
    · rw [waysV_get _ _ h25, waysV_get _ _ h25]
      unfold wayK
      have : (8 ≤ j ∧ j < m) ↔ (8 ≤ j ∧ j < m + 1) := by omega
      simp only [this]
    · rw [List.getElem?_eq_none (by rw [waysV_len]; exact h25), List.getElem?_eq_none (by rw [waysV_len]; exact h25)]
theorem way_one (m j : Nat) : (wayK m j).oneCell' = true := by
  unfold wayK
  repeat (split; · rfl)
  rfl
theorem waysV_one (m : Nat) : (waysV m).toArray.all (·.oneCell') = true := by
  rw [List.all_toArray, List.all_eq_true]
  intro v hv
  unfold waysV at hv
  obtain ⟨j, _, rfl⟩ := List.mem_map.1 hv
  exact way_one m j
theorem sizeTW : (Tryz.prog.info? 63).map (·.size) = some 25 := by kernel_rfl
section
variable {ops : Array Oper} {rest : List Oper} {o : Oper} {a : Act} {w : World} {Q : Exit → Act → World → Prop}
theorem wl_bld {cells : Array Value} (hg : o.guard = none) (t : TypeId) (parts : Array (Nat × Operand)) (ho : o.op = .build t parts) (hf : Tryz.prog.built t (parts.map fun (i, x) => (i, a.eval x)).toList = some cells)
    (h : wpList Tryz.prog ops Q rest (a.put o.dst (.agg cells)) w) : wpList Tryz.prog ops Q (o :: rest) a w := by
  refine wpList_build hg t parts ho (by rw [hf]; rfl) ?_
  rw [hf]
  exact h
theorem wl_strow (hgd : o.guard = none) (ty : TypeId) (x y : Operand) (ho : o.op = .store ty x y)
    (g : Nat) (cells : Array Value) (hx : a.eval x = .pointer (some ⟨g, 0, none⟩)) (hy : a.eval y = .agg cells)
    (t : TypeId) (old : Array Value) (hg : w.heap[g]? = some (.cells old t (0, 0))) (hi : (Tryz.prog.info? ty).map (·.size) = some cells.size)
    (hold : old.size = cells.size) (h1 : cells.all (·.oneCell') = true)
    (h : ∀ w', w'.heap[g]? = some (.cells cells t (0, 0)) → w.grownBy w' (some g) → wpList Tryz.prog ops Q rest (a.put o.dst undef) w') : wpList Tryz.prog ops Q (o :: rest) a w :=
  wpList_store_row hgd ty x y ho g cells hx hy t old hg hi hold h1 (h _ (setRow_heap w g old cells t (0, 0) hg) ⟨rfl, rfl, rfl, by simp, fun k _ hne => setRow_other w g k cells (fun e => hne (by rw [e]))⟩)
end
set_option maxRecDepth 100000 in
set_option maxHeartbeats 1000000 in
theorem ways_any (w : World) : Calls Tryz.prog 21 #[] w fun e w' => e = .returned (.agg (waysV 22).toArray) ∧ Below w.heap.size w w' := by
  go_enter Tryz.func21, Tryz.ntmps21
  (iterate 9 (first | (with_reducible first | refine xA ?_ | refine xB ?_ | refine xC ?_ | refine xD ?_ | refine xH ?_ | refine xI rfl ?_ | refine xE ?_ | refine xF ?_ | refine xG ?_) | go_values | go_skip | go_guarded | go_step | go_upon | go_back | ((with_reducible show Oper.upon _ _ _ _ _ _); go_simp) | (dsimp only)))
  have h0 : (w.alloc (Obj.cells #[Value.nilFunc, Value.nilFunc, Value.nilFunc, Value.nilFunc, Value.nilFunc, Value.nilFunc, Value.nilFunc, Value.nilFunc, Value.nilFunc, Value.nilFunc, Value.nilFunc, Value.nilFunc, Value.nilFunc, Value.nilFunc, Value.nilFunc, Value.nilFunc, Value.nilFunc, Value.nilFunc, Value.nilFunc, Value.nilFunc, Value.nilFunc, Value.nilFunc, Value.nilFunc, Value.nilFunc, Value.nilFunc] 63)).heap[w.heap.size]? = some (.cells #[Value.nilFunc, Value.nilFunc, Value.nilFunc, Value.nilFunc, Value.nilFunc, Value.nilFunc, Value.nilFunc, Value.nilFunc, Value.nilFunc, Value.nilFunc, Value.nilFunc, Value.nilFunc, Value.nilFunc, Value.nilFunc, Value.nilFunc, Value.nilFunc, Value.nilFunc, Value.nilFunc, Value.nilFunc, Value.nilFunc, Value.nilFunc, Value.nilFunc, Value.nilFunc, Value.nilFunc, Value.nilFunc] 63 (0, 0)) := heap_alloc_new w _
  have hb0 : Below w.heap.size w (w.alloc (Obj.cells #[Value.nilFunc, Value.nilFunc, Value.nilFunc, Value.nilFunc, Value.nilFunc, Value.nilFunc, Value.nilFunc, Value.nilFunc, Value.nilFunc, Value.nilFunc, Value.nilFunc, Value.nilFunc, Value.nilFunc, Value.nilFunc, Value.nilFunc, Value.nilFunc, Value.nilFunc, Value.nilFunc, Value.nilFunc, Value.nilFunc, Value.nilFunc, Value.nilFunc, Value.nilFunc, Value.nilFunc, Value.nilFunc] 63)) := by (repeat (first | with_reducible exact Below.refl _ _ | assumption | with_reducible refine below_drewN ?_ _ | with_reducible refine Below.drew ?_ | with_reducible refine Below.setRow ?_ ?_ _ | with_reducible refine Below.alloc ?_ ?_ _ | with_reducible refine Below.setCell ?_ ?_ _ | with_reducible exact Nat.le_refl _ | (focus (simp; done)) | (focus (simp; omega)) | omega))
  refine wp_abs (fun u => Below w.heap.size w u ∧ u.heap.size = w.heap.size + 1 ∧ u.heap[w.heap.size]? = some (.cells #[Value.nilFunc, Value.nilFunc, Value.nilFunc, Value.nilFunc, Value.nilFunc, Value.nilFunc, Value.nilFunc, Value.nilFunc, Value.nilFunc, Value.nilFunc, Value.nilFunc, Value.nilFunc, Value.nilFunc, Value.nilFunc, Value.nilFunc, Value.nilFunc, Value.nilFunc, Value.nilFunc, Value.nilFunc, Value.nilFunc, Value.nilFunc, Value.nilFunc, Value.nilFunc, Value.nilFunc, Value.nilFunc] 63 (0, 0))) ⟨hb0, by simp, h0⟩ ?_
  clear hb0 h0
  rintro w1 ⟨hb1, hs1, hr1⟩
  have HS1 := Lib.hid hs1
  have HR1 := Lib.hid hr1
  have HN1 := Lib.hid (show (w1.alloc (Obj.cells #[Value.nilFunc, Value.nilFunc, Value.nilFunc, Value.nilFunc, Value.nilFunc, Value.nilFunc, Value.nilFunc, Value.nilFunc, Value.nilFunc, Value.nilFunc, Value.nilFunc, Value.nilFunc, Value.nilFunc, Value.nilFunc, Value.nilFunc, Value.nilFunc, Value.nilFunc, Value.nilFunc, Value.nilFunc, Value.nilFunc, Value.nilFunc, Value.nilFunc, Value.nilFunc, Value.nilFunc, Value.nilFunc] 63)).heap[w1.heap.size]? = some (.cells #[Value.nilFunc, Value.nilFunc, Value.nilFunc, Value.nilFunc, Value.nilFunc, Value.nilFunc, Value.nilFunc, Value.nilFunc, Value.nilFunc, Value.nilFunc, Value.nilFunc, Value.nilFunc, Value.nilFunc, Value.nilFunc, Value.nilFunc, Value.nilFunc, Value.nilFunc, Value.nilFunc, Value.nilFunc, Value.nilFunc, Value.nilFunc, Value.nilFunc, Value.nilFunc, Value.nilFunc, Value.nilFunc] 63 (0, 0)) from heap_alloc_new w1 _)
  clear hs1 hr1
  (repeat (first | (with_reducible first | refine xA ?_ | refine xB ?_ | refine xC ?_ | refine xD ?_ | refine xH ?_ | refine xI rfl ?_ | refine xE ?_ | refine xF ?_ | refine xG ?_) | go_skip | go_guarded | ((with_reducible refine wl_id ?_); refine wl_bld (cells := (waysV 8).toArray) rfl 63 _ rfl (by kernel_rfl) ?_; (try simp only [Act.put, qz4, qz5, qz6])) | ((with_reducible refine wl_id ?_); refine wl_strow rfl 63 _ _ rfl w1.heap.size (waysV 8).toArray rfl rfl 63 #[Value.nilFunc, Value.nilFunc, Value.nilFunc, Value.nilFunc, Value.nilFunc, Value.nilFunc, Value.nilFunc, Value.nilFunc, Value.nilFunc, Value.nilFunc, Value.nilFunc, Value.nilFunc, Value.nilFunc, Value.nilFunc, Value.nilFunc, Value.nilFunc, Value.nilFunc, Value.nilFunc, Value.nilFunc, Value.nilFunc, Value.nilFunc, Value.nilFunc, Value.nilFunc, Value.nilFunc, Value.nilFunc] HN1.out (by rw [List.size_toArray, waysV_len]; exact sizeTW) (waysV_len 8).symm (waysV_one 8) ?_; intro w2 hh2 hg2; (try simp only [Act.put, qz4, qz5, qz6])) | go_values | go_skip | go_guarded | go_step | go_upon | go_back | ((with_reducible show Oper.upon _ _ _ _ _ _); go_simp) | (dsimp only)))
  have hq : w.heap.size < w1.heap.size := by have := HS1.out; omega
  have hr2 : w2.heap[w.heap.size]? = some (.cells #[Value.nilFunc, Value.nilFunc, Value.nilFunc, Value.nilFunc, Value.nilFunc, Value.nilFunc, Value.nilFunc, Value.nilFunc, Value.nilFunc, Value.nilFunc, Value.nilFunc, Value.nilFunc, Value.nilFunc, Value.nilFunc, Value.nilFunc, Value.nilFunc, Value.nilFunc, Value.nilFunc, Value.nilFunc, Value.nilFunc, Value.nilFunc, Value.nilFunc, Value.nilFunc, Value.nilFunc, Value.nilFunc] 63 (0, 0)) := keep_at hg2 ((heap_alloc_old w1 _ hq).trans HR1.out) (fun e => by injection e with e; omega)
  have hb2 : Below w.heap.size w w2 := below_grown (Below.alloc hb1 (by omega) _) hg2 (fun k e => by injection e with e; omega)
  generalize w1.heap.size = q at *
  clear hb1 HS1 HR1 HN1 hg2
  have HR2 := Lib.hid hr2
  have HT2 := Lib.hid hh2
  clear hr2 hh2
  go_loopw [2] (fun i wr => ∃ k : Nat, 8 ≤ k ∧ k ≤ 22 ∧ i = .int .i64 k ∧ Hid (wr.heap[q]? = some (.cells (waysV k).toArray 63 (0, 0))) ∧ Hid (wr.heap[w.heap.size]? = some (.cells #[Value.nilFunc, Value.nilFunc, Value.nilFunc, Value.nilFunc, Value.nilFunc, Value.nilFunc, Value.nilFunc, Value.nilFunc, Value.nilFunc, Value.nilFunc, Value.nilFunc, Value.nilFunc, Value.nilFunc, Value.nilFunc, Value.nilFunc, Value.nilFunc, Value.nilFunc, Value.nilFunc, Value.nilFunc, Value.nilFunc, Value.nilFunc, Value.nilFunc, Value.nilFunc, Value.nilFunc, Value.nilFunc] 63 (0, 0))) ∧ Below w.heap.size w wr) (fun i _ => 22 - (intOf i).toNat)
  case atStart => exact ⟨8, by omega, by omega, rfl, HT2, HR2, hb2⟩
  case round =>
    clear HT2 HR2 hb2
    obtain ⟨k, hk8, hk, rfl, HT, HR, HB⟩ := hrel
    rcases Nat.lt_or_ge k 22 with hlt | hge
    · have hc := cell_of_row wr q k _ _ _ HT.out
      rw [List.getElem?_toArray, waysV_get _ _ (by omega)] at hc
      have hw0 : ∃ v, wayK k k = v ∧ v = Value.nilFunc := ⟨_, rfl, by unfold wayK; rw [if_neg (by omega), if_neg (by omega), if_neg (by omega), if_neg (by omega), if_neg (by omega), if_neg (by omega), if_neg (by omega), if_neg (by omega)]⟩
      obtain ⟨v, hv, rfl⟩ := hw0
      rw [hv] at hc
      have hf := frozen_of_row wr q k _ _ HT.out
      have hki : (k : Int) ≤ 21 := by omega
      have hk0 : (0 : Int) ≤ (k : Int) := by omega
      clear hv
      (repeat (first | (with_reducible first | refine xA ?_ | refine xB ?_ | refine xC ?_ | refine xD ?_ | refine xH ?_ | refine xI rfl ?_ | refine xE ?_ | refine xF ?_ | refine xG ?_) | go_values | go_skip | go_guarded | go_step | go_upon | go_back | ((with_reducible show Oper.upon _ _ _ _ _ _); go_simp) | (dsimp only)))
      have hs := heap_setCell_same wr q k _ _ (.func (Fn.func 46) #[] #[]) HT.out
      rw [List.setIfInBounds_toArray, waysV_set k hk8 hlt] at hs
      have hr := heap_setCell_other wr ⟨q, k, none⟩ w.heap.size (.func (Fn.func 46) #[] #[]) (by show w.heap.size ≠ q; omega)
      exact ⟨⟨k + 1, by omega, by omega, by go_num, Lib.hid hs, Lib.hid (hr.trans HR.out), Below.setCell HB (by show w.heap.size ≤ q; omega) _⟩, by simp [intOf]; omega⟩
    · have hk22 : k = 22 := by omega
      have hkn : ¬ ((k : Int) ≤ 21) := by omega
      have hT := HT.out
      rw [hk22] at hT
      replace HT := Lib.hid hT
      clear hT hk22 hge hk8 hk
      (repeat (first | (with_reducible first | refine xA ?_ | refine xB ?_ | refine xC ?_ | refine xD ?_ | refine xH ?_ | refine xI rfl ?_ | refine xE ?_ | refine xF ?_ | refine xG ?_) | go_skip | go_guarded | ((with_reducible refine wl_id ?_); refine wpList_load_row rfl 63 _ rfl q rfl 63 (waysV 22).toArray (0, 0) _ HT.out Tryz.underlying63 rfl (by rw [List.size_toArray, waysV_len]; exact sizeTW) ?_; (try simp only [Act.put, qz4, qz5, qz6])) | ((with_reducible refine wl_id ?_); refine wl_strow rfl 63 _ _ rfl w.heap.size (waysV 22).toArray rfl rfl 63 #[Value.nilFunc, Value.nilFunc, Value.nilFunc, Value.nilFunc, Value.nilFunc, Value.nilFunc, Value.nilFunc, Value.nilFunc, Value.nilFunc, Value.nilFunc, Value.nilFunc, Value.nilFunc, Value.nilFunc, Value.nilFunc, Value.nilFunc, Value.nilFunc, Value.nilFunc, Value.nilFunc, Value.nilFunc, Value.nilFunc, Value.nilFunc, Value.nilFunc, Value.nilFunc, Value.nilFunc, Value.nilFunc] HR.out (by rw [List.size_toArray, waysV_len]; exact sizeTW) (waysV_len 22).symm (waysV_one 22) ?_; intro w3 hh3 hg3; (try simp only [Act.put, qz4, qz5, qz6])) | go_values | go_skip | go_guarded | go_step | go_upon | go_back | ((with_reducible show Oper.upon _ _ _ _ _ _); go_simp) | (dsimp only)))
      refine bodyPost_ret (results_cell_row rfl _ _ w.heap.size 63 _ (0, 0) _ rfl hh3 Tryz.underlying63 rfl (by rw [List.size_toArray, waysV_len]; exact sizeTW)) rfl ?_
      exact ⟨rfl, below_grown HB hg3 (fun k e => by injection e with e; omega)⟩
theorem clone_nil (w : World) : Calls Tryz.prog 25 #[.slice none 0 0] w fun e w' => e = .returned (.slice none 0 0) ∧ w' = w := by
  have q28 : ∀ (w : World) (a : Option Addr) (n c n' c' : Nat), (binOp .eql 31 (.slice a n c) (.slice none n' c')).run Tryz.prog w = .ok (.bool a.isNone) w := fun w a n c n' c' => Lib.run_eql_slice_nil w _ _ a n c n' c' Tryz.underlying31
  go_enter Tryz.func25, Tryz.ntmps25
  (repeat (first | (with_reducible first | refine xA ?_ | refine xB ?_ | refine xC ?_ | refine xD ?_ | refine xH ?_ | refine xI rfl ?_ | refine xE ?_ | refine xF ?_ | refine xG ?_) | go_values | go_skip | go_guarded | go_step | go_upon | go_back | ((with_reducible show Oper.upon _ _ _ _ _ _); go_simp) | (dsimp only)))
  go_ret
  exact ⟨rfl, rfl⟩
end Go.Proofs.YtmaogkgjiplckaaGreat
namespace Go.Proofs.YtmaogkgjiplckaaGreat
open Go.RowKit
section
variable {ops : Array Oper} {rest : List Oper} {o : Oper} {a : Act} {w W : World} {Q : Exit → Act → World → Prop} {K : Act → Prop}
theorem wl_ldNdA {w0 : World} {b off : Nat} {ls : List Nd} (HR : RowAt 6 Nd.cells w0 b off ls) (hb : Below w0.heap.size w0 w) (i : Nat) (d : Nd) (hi : ls[i]? = some d) (hgd : o.guard = none) (x : Operand) (ho : o.op = .load 49 x)
    (hx : a.eval x = .pointer (some ⟨b, off + i * 6, none⟩)) (h : wpList Tryz.prog ops Q rest (a.put o.dst (.agg #[.int .i64 d.op, .int .i64 d.w, .int .u64 d.n, .int .i64 d.k0, .int .i64 d.k1, .int .i64 d.k2])) w) : wpList Tryz.prog ops Q (o :: rest) a w :=
  wl_ldNd HR hb i d hi hgd x ho (by rw [Nat.mul_comm]; exact hx) h
theorem quiet_ldNdA {b off : Nat} {ls : List Nd} (HR : RowAt 6 Nd.cells W b off ls) (i : Nat) (d : Nd) (hi : ls[i]? = some d) (x : Operand) (ho : o.op = .load 49 x)
    (hx : a.eval x = .pointer (some ⟨b, off + i * 6, none⟩)) (hk : K (a.put o.dst (.agg #[.int .i64 d.op, .int .i64 d.w, .int .u64 d.n, .int .i64 d.k0, .int .i64 d.k1, .int .i64 d.k2]))) : o.quiet Tryz.prog a (Cls W) K :=
  quiet_ldNd HR i d hi x ho (by rw [Nat.mul_comm]; exact hx) hk
end
theorem row6 {w : World} {b : Nat} {d : Nd} (h0 : w.cell? ⟨b, 0, none⟩ = some (.int .i64 d.op)) (h1 : w.cell? ⟨b, 1, none⟩ = some (.int .i64 d.w)) (h2 : w.cell? ⟨b, 2, none⟩ = some (.int .u64 d.n))
    (h3 : w.cell? ⟨b, 3, none⟩ = some (.int .i64 d.k0)) (h4 : w.cell? ⟨b, 4, none⟩ = some (.int .i64 d.k1)) (h5 : w.cell? ⟨b, 5, none⟩ = some (.int .i64 d.k2)) : RowAt 6 Nd.cells w b 0 [d] := by
  intro i e hi j c hj
  match i, hi with
  | 0, hi =>
    obtain rfl : d = e := by simpa using hi
    match j, hj with
    | 0, hj => obtain rfl : _ = c := by simpa [Nd.cells] using hj
               simpa using h0
    | 1, hj => obtain rfl : _ = c := by simpa [Nd.cells] using hj
               simpa using h1
    | 2, hj => obtain rfl : _ = c := by simpa [Nd.cells] using hj
               simpa using h2
    | 3, hj => obtain rfl : _ = c := by simpa [Nd.cells] using hj
               simpa using h3
    | 4, hj => obtain rfl : _ = c := by simpa [Nd.cells] using hj
               simpa using h4
    | 5, hj => obtain rfl : _ = c := by simpa [Nd.cells] using hj
               simpa using h5
    | j + 6, hj => simp [Nd.cells] at hj
  | i + 1, hi => simp at hi
theorem SlIs.take {w : World} {b o cap : Nat} {ls : List Nd} (h : RowAt 6 Nd.cells w b o ls) (hc : ls.length ≤ cap) {k : Nat} (hk : k ≤ ls.length) : SlIs 6 Nd.cells w (.slice (some ⟨b, o, none⟩) k cap) (ls.take k) :=
  ⟨_, cap, by rw [List.length_take, Nat.min_eq_left hk], by rw [List.length_take]; omega, by simp, fun _ => ⟨b, o, rfl, h.take k⟩⟩
theorem right_anyX (op wd n k0 k1 k2 : Int) (v : Value) (ls : List Nd) (w : World) (h : SlIs 6 Nd.cells w v ls) (hn : 0 ≤ n) (E : Int) (hE : Hid (E = rightE ⟨op, wd, n, k0, k1, k2⟩ ls)) :
    Calls Tryz.prog 42 #[.agg #[.int .i64 op, .int .i64 wd, .int .u64 n, .int .i64 k0, .int .i64 k1, .int .i64 k2], v] w fun e w' => e = .returned (.int .i64 E) ∧ Below w.heap.size w w' := by
  rw [hE.out]; exact right_any op wd n k0 k1 k2 v ls w h hn
set_option maxHeartbeats 1000000 in
theorem check_any (ls : List Nd) (v : Value) (w : World) (h : SlIs 6 Nd.cells w v ls) (hwf : ∀ d ∈ ls, NdWf d) :
    Calls Tryz.prog 20 #[v] w fun e w' => e = .returned (.tuple #[.int .i64 (tchk ls).1, .int .i64 (tchk ls).2]) ∧ Below w.heap.size w w' := by
  rcases h.cases with ⟨ao, cap, rfl, rfl⟩ | ⟨b, off, cap, rfl, hne, HR0⟩
  · go_enter Tryz.func20, Tryz.ntmps20
    (repeat (first | (with_reducible first | refine xA ?_ | refine xB ?_ | refine xC ?_ | refine xD ?_ | refine xH ?_ | refine xI rfl ?_ | refine xE ?_ | refine xF ?_ | refine xG ?_) | go_values | go_skip | go_guarded | go_step | go_upon | go_back | ((with_reducible show Oper.upon _ _ _ _ _ _); go_simp) | (dsimp only)))
    go_ret2
    exact ⟨rfl, by (repeat (first | with_reducible exact Below.refl _ _ | assumption | with_reducible refine below_drewN ?_ _ | with_reducible refine Below.drew ?_ | with_reducible refine Below.setRow ?_ ?_ _ | with_reducible refine Below.alloc ?_ ?_ _ | with_reducible refine Below.setCell ?_ ?_ _ | with_reducible exact Nat.le_refl _ | (focus (simp; done)) | (focus (simp; omega)) | omega))⟩
  have hcap : ls.length ≤ cap := by
    obtain ⟨_, _, e, hc, _⟩ := h
    injection e with e1 e2 e3
    omega
  have hl0 : ((ls.length : Int) == 0) = false := by
    have := List.length_pos_iff.2 hne
    simpa using hne
  have Ht : Hid (tchk ls = chk (ls.take 0) (ls.drop 0)) := Lib.hid (by unfold tchk; rw [if_neg hne]; rfl)
  have Hwf := Lib.hid hwf
  clear hwf
  go_enter Tryz.func20, Tryz.ntmps20
  (repeat (first | (with_reducible first | refine xA ?_ | refine xB ?_ | refine xC ?_ | refine xD ?_ | refine xH ?_ | refine xI rfl ?_ | refine xE ?_ | refine xF ?_ | refine xG ?_) | go_values | go_skip | go_guarded | go_step | go_upon | go_back | ((with_reducible show Oper.upon _ _ _ _ _ _); go_simp) | (dsimp only)))
  go_loopw [12] (fun i wr => ∃ k : Nat, k ≤ ls.length ∧ k ≤ 65536 ∧ Hid (tchk ls = chk (ls.take k) (ls.drop k)) ∧ i = .int .i64 k ∧ Below w.heap.size w wr) (fun i _ => ls.length - (intOf i).toNat)
  case atStart => exact ⟨0, by omega, by omega, Ht, rfl, Below.refl _ _⟩
  case round =>
    clear Ht
    obtain ⟨k, hk, hkM, Ht, rfl, HB⟩ := hrel
    have HR := HR0.below HB
    have hsz := HB.size
    rcases Nat.lt_or_ge k ls.length with hlt | hge
    · obtain ⟨d, hd⟩ : ∃ d, ls[k]? = some d := ⟨_, List.getElem?_eq_getElem hlt⟩
      have hi := Lib.hid hd
      have hwd := Hwf.out d (List.mem_of_getElem? hd)
      have hd0 := hwd.2.2.1.1
      have hd1 := hwd.2.2.1.2
      have hst := chk_step hd
      clear hwd hd
      obtain ⟨E, hE⟩ : ∃ E, Hid (E = rightE d (ls.take k)) := ⟨_, Lib.hid rfl⟩
      rw [← hE.out] at hst
      by_cases hM : k = 65536
      · have fM : ((k : Int) == 65536) = true := by simp; omega
        rw [if_pos hM] at hst
        have Hst := Lib.hid (Ht.out.trans hst)
        have HM := Lib.hid hM
        clear hst hM
        (repeat (first | (with_reducible first | refine xA ?_ | refine xB ?_ | refine xC ?_ | refine xD ?_ | refine xH ?_ | refine xI rfl ?_ | refine xE ?_ | refine xF ?_ | refine xG ?_) | go_skip | go_guarded | ((with_reducible refine wl_id ?_); refine wl_ldNdA HR (by (repeat (first | with_reducible exact Below.refl _ _ | assumption | with_reducible refine below_drewN ?_ _ | with_reducible refine Below.drew ?_ | with_reducible refine Below.setRow ?_ ?_ _ | with_reducible refine Below.alloc ?_ ?_ _ | with_reducible refine Below.setCell ?_ ?_ _ | with_reducible exact Nat.le_refl _ | (focus (simp; done)) | (focus (simp; omega)) | omega))) k _ hi rfl _ rfl rfl ?_; simp only [Act.put, qz4, qz5, qz6]; (try dsimp only)) | go_values | go_skip | go_guarded | go_step | go_upon | go_back | ((with_reducible show Oper.upon _ _ _ _ _ _); go_simp) | (dsimp only)))
        go_ret2
        exact ⟨by rw [Hst.out]; simp [HM.out], by (repeat (first | with_reducible exact Below.refl _ _ | assumption | with_reducible refine below_drewN ?_ _ | with_reducible refine Below.drew ?_ | with_reducible refine Below.setRow ?_ ?_ _ | with_reducible refine Below.alloc ?_ ?_ _ | with_reducible refine Below.setCell ?_ ?_ _ | with_reducible exact Nat.le_refl _ | (focus (simp; done)) | (focus (simp; omega)) | omega))⟩
      · have fM : ((k : Int) == 65536) = false := by simp; omega
        have HM := Lib.hid hM
        rw [if_neg hM] at hst
        clear hM
        (repeat (first | (with_reducible first | refine xA ?_ | refine xB ?_ | refine xC ?_ | refine xD ?_ | refine xH ?_ | refine xI rfl ?_ | refine xE ?_ | refine xF ?_ | refine xG ?_) | go_skip | go_guarded | ((with_reducible refine wl_id ?_); refine wl_ldNdA HR (by (repeat (first | with_reducible exact Below.refl _ _ | assumption | with_reducible refine below_drewN ?_ _ | with_reducible refine Below.drew ?_ | with_reducible refine Below.setRow ?_ ?_ _ | with_reducible refine Below.alloc ?_ ?_ _ | with_reducible refine Below.setCell ?_ ?_ _ | with_reducible exact Nat.le_refl _ | (focus (simp; done)) | (focus (simp; omega)) | omega))) k _ hi rfl _ rfl rfl ?_; simp only [Act.put, qz4, qz5, qz6]; (try dsimp only)) | go_values | go_skip | go_guarded | go_step | go_upon | go_back | ((with_reducible show Oper.upon _ _ _ _ _ _); go_simp) | (dsimp only)))
        refine wp_abs (fun u => Below w.heap.size w u ∧ RowAt 6 Nd.cells u wr.heap.size 0 [d] ∧ RowAt 6 Nd.cells u b off ls) ⟨by (repeat (first | with_reducible exact Below.refl _ _ | assumption | with_reducible refine below_drewN ?_ _ | with_reducible refine Below.drew ?_ | with_reducible refine Below.setRow ?_ ?_ _ | with_reducible refine Below.alloc ?_ ?_ _ | with_reducible refine Below.setCell ?_ ?_ _ | with_reducible exact Nat.le_refl _ | (focus (simp; done)) | (focus (simp; omega)) | omega)), ?_, HR.below (by (repeat (first | with_reducible exact Below.refl _ _ | assumption | with_reducible refine below_drewN ?_ _ | with_reducible refine Below.drew ?_ | with_reducible refine Below.setRow ?_ ?_ _ | with_reducible refine Below.alloc ?_ ?_ _ | with_reducible refine Below.setCell ?_ ?_ _ | with_reducible exact Nat.le_refl _ | (focus (simp; done)) | (focus (simp; omega)) | omega)))⟩ ?_
        · exact row6 (by simp [go_sem]) (by simp [go_sem]) (by simp [go_sem]) (by simp [go_sem]) (by simp [go_sem]) (by simp [go_sem])
        rintro w9 ⟨HB9, HX, HR9⟩
        have hS := SlIs.take HR9 hcap hk
        have hE' : Hid (E = rightE ⟨d.op, d.w, d.n, d.k0, d.k1, d.k2⟩ (ls.take k)) := hE
        have hkc : (k : Int) ≤ cap := by omega
        by_cases hz : E = 0
        · have fz : (E != 0) = false := by simp [hz]
          rw [if_neg (by simp [hz])] at hst
          have Hst := Lib.hid (Ht.out.trans hst)
          clear hst hz
          refine wp_region_cls (by kernel_rfl) (by kernel_rfl) ?_
          (repeat (first | go_big_quiet_skip | (go_big_quiet_want; first | (refine quiet_ldNd HX 0 _ rfl _ rfl rfl ?_; simp only [Act.put, qz4, qz5, qz6]; (try dsimp only); go_big_quiet_on) | (refine quiet_ldNdA HR k _ hi _ rfl rfl ?_; simp only [Act.put, qz4, qz5, qz6]; go_big_quiet_on) | (go_big_quiet_op; first | go_big_quiet_on | (refine Exists.intro _ (And.intro (fun _ _ => rfl) ?_); go_big_quiet_on) | go_big_quiet_call (((intro hC; replace hC : Below _ _ _ := hC); (go_at_call 42; (with_reducible refine (right_anyX _ _ _ _ _ _ _ _ _ (hS.below hC) hd0 _ hE).mono ?_); (rintro e w2 ⟨rfl, hb⟩; exact ⟨rfl, hC.trans (hb.mono hC.size)⟩))))))))
          refine wpQuiet_nil ?_
          intro w8 hb
          replace hb : Below _ _ _ := hb
          replace HB9 := HB9.trans (hb.mono HB9.size)
          clear hb
          (repeat (first | (with_reducible first | refine xA ?_ | refine xB ?_ | refine xC ?_ | refine xD ?_ | refine xH ?_ | refine xI rfl ?_ | refine xE ?_ | refine xF ?_ | refine xG ?_) | go_values | go_skip | go_guarded | go_step | go_upon | go_back | ((with_reducible show Oper.upon _ _ _ _ _ _); go_simp) | (dsimp only)))
          exact ⟨⟨k + 1, by omega, by have := HM.out; omega, Hst, by go_num, HB9⟩, by simp [intOf]; omega⟩
        · have fz : (E != 0) = true := by simpa using hz
          rw [if_pos hz] at hst
          have Hst := Lib.hid (Ht.out.trans hst)
          clear hst hz
          refine wp_region_cls (by kernel_rfl) (by kernel_rfl) ?_
          (repeat (first | go_big_quiet_skip | (go_big_quiet_want; first | (refine quiet_ldNd HX 0 _ rfl _ rfl rfl ?_; simp only [Act.put, qz4, qz5, qz6]; (try dsimp only); go_big_quiet_on) | (refine quiet_ldNdA HR k _ hi _ rfl rfl ?_; simp only [Act.put, qz4, qz5, qz6]; go_big_quiet_on) | (go_big_quiet_op; first | go_big_quiet_on | (refine Exists.intro _ (And.intro (fun _ _ => rfl) ?_); go_big_quiet_on) | go_big_quiet_call (((intro hC; replace hC : Below _ _ _ := hC); (go_at_call 42; (with_reducible refine (right_anyX _ _ _ _ _ _ _ _ _ (hS.below hC) hd0 _ hE).mono ?_); (rintro e w2 ⟨rfl, hb⟩; exact ⟨rfl, hC.trans (hb.mono hC.size)⟩))))))))
          refine wpQuiet_nil ?_
          intro w8 hb
          replace hb : Below _ _ _ := hb
          replace HB9 := HB9.trans (hb.mono HB9.size)
          clear hb
          (repeat (first | (with_reducible first | refine xA ?_ | refine xB ?_ | refine xC ?_ | refine xD ?_ | refine xH ?_ | refine xI rfl ?_ | refine xE ?_ | refine xF ?_ | refine xG ?_) | go_values | go_skip | go_guarded | go_step | go_upon | go_back | ((with_reducible show Oper.upon _ _ _ _ _ _); go_simp) | (dsimp only)))
          go_ret2
          exact ⟨by rw [Hst.out]; rfl, HB9⟩
    · (repeat (first | (with_reducible first | refine xA ?_ | refine xB ?_ | refine xC ?_ | refine xD ?_ | refine xH ?_ | refine xI rfl ?_ | refine xE ?_ | refine xF ?_ | refine xG ?_) | go_values | go_skip | go_guarded | go_step | go_upon | go_back | ((with_reducible show Oper.upon _ _ _ _ _ _); go_simp) | (dsimp only)))
      go_ret2
      exact ⟨by rw [Ht.out, List.drop_eq_nil_of_le hge]; rfl, HB⟩
end Go.Proofs.YtmaogkgjiplckaaGreat
namespace Go.Proofs.YtmaogkgjiplckaaGreat
open Go.RowKit
def arrB (d : Nd) : Bool := d.op == 3 || d.op == 4 || d.op == 23 || d.op == 24
theorem arr_no {d : Nd} : arrB d = false ↔ noArr d := by
  unfold arrB noArr
  simp only [Bool.or_eq_false_iff, beq_eq_false_iff_ne, ne_eq, and_assoc]
def WaysAt (w : World) (q : Nat) : Prop := ∀ j, j < 25 → w.cell? ⟨q, j, none⟩ = some (wayK 22 j)
theorem WaysAt.below {w w' : World} {q : Nat} (h : WaysAt w q) (hb : Below w.heap.size w w') : WaysAt w' q := fun j hj => cell_keep hb (h j hj)
theorem way_cases (j : Nat) (hj : j < 25) : ((j = 3 ∨ j = 4 ∨ j = 23 ∨ j = 24) ∧ wayK 22 j = Value.nilFunc) ∨ (¬ (j = 3 ∨ j = 4 ∨ j = 23 ∨ j = 24) ∧ ∃ f, wayK 22 j = .func (Fn.func f) #[] #[]) := by
  unfold wayK
  by_cases h : j = 3 ∨ j = 4 ∨ j = 23 ∨ j = 24
  · left
    exact ⟨h, by rw [if_neg (by omega), if_neg (by omega), if_neg (by omega), if_neg (by omega), if_neg (by omega), if_neg (by omega), if_neg (by omega), if_neg (by omega)]⟩
  · right
    refine ⟨h, ?_⟩
    repeat (split; · exact ⟨_, rfl⟩)
    omega
set_option maxRecDepth 100000 in
theorem lacks_any (d : Nd) (q : Nat) (w : World) (hq : WaysAt w q) (h0 : 0 ≤ d.op) (h1 : d.op ≤ 24) (r : Bool) (hr : Hid (arrB d = r)) :
    Calls Tryz.prog 23 #[.agg #[.int .i64 d.op, .int .i64 d.w, .int .u64 d.n, .int .i64 d.k0, .int .i64 d.k1, .int .i64 d.k2], .pointer (some ⟨q, 0, none⟩)] w fun e w' => e = .returned (.bool r) ∧ Below w.heap.size w w' := by
  have e1 : ∀ w : World, (binOp .eql 62 .nilFunc .nilFunc).run Tryz.prog w = .ok (.bool true) w := fun _ => by kernel_rfl
  have e2 : ∀ (w : World) (f : Nat), (binOp .eql 62 (.func (Fn.func f) #[] #[]) .nilFunc).run Tryz.prog w = .ok (.bool false) w := fun _ _ => by kernel_rfl
  obtain ⟨op, wd, nn, k0, k1, k2⟩ := d
  obtain ⟨j, rfl⟩ := Int.eq_ofNat_of_zero_le h0
  dsimp only at h0 h1 hr ⊢
  have hj : j < 25 := by omega
  have hc := hq j hj
  have hb : Below w.heap.size w (w.alloc (.cells #[.int .i64 (j : Nat), .int .i64 wd, .int .u64 nn, .int .i64 k0, .int .i64 k1, .int .i64 k2] 49)) := by (repeat (first | with_reducible exact Below.refl _ _ | assumption | with_reducible refine below_drewN ?_ _ | with_reducible refine Below.drew ?_ | with_reducible refine Below.setRow ?_ ?_ _ | with_reducible refine Below.alloc ?_ ?_ _ | with_reducible refine Below.setCell ?_ ?_ _ | with_reducible exact Nat.le_refl _ | (focus (simp; done)) | (focus (simp; omega)) | omega))
  have hc1 := cell_keep hb hc
  have hji : (j : Int) < 25 := by omega
  have HB := Lib.hid hb
  rcases way_cases j hj with ⟨ha, e⟩ | ⟨ha, f, e⟩
  · rw [e] at hc1
    have hrt : r = true := by rw [← hr.out]; unfold arrB; simp; omega
    subst hrt
    clear hq hc hb hr e ha h1
    go_enter Tryz.func23, Tryz.ntmps23
    (repeat (first | (with_reducible first | refine xA ?_ | refine xB ?_ | refine xC ?_ | refine xD ?_ | refine xH ?_ | refine xI rfl ?_ | refine xE ?_ | refine xF ?_ | refine xG ?_) | go_values | go_skip | go_guarded | go_step | go_upon | go_back | ((with_reducible show Oper.upon _ _ _ _ _ _); go_simp) | (dsimp only)))
    go_ret
    exact ⟨rfl, HB.out⟩
  · rw [e] at hc1
    have hrt : r = false := by rw [← hr.out]; unfold arrB; simp; omega
    subst hrt
    clear hq hc hb hr e ha h1
    go_enter Tryz.func23, Tryz.ntmps23
    (repeat (first | (with_reducible first | refine xA ?_ | refine xB ?_ | refine xC ?_ | refine xD ?_ | refine xH ?_ | refine xI rfl ?_ | refine xE ?_ | refine xF ?_ | refine xG ?_) | go_values | go_skip | go_guarded | go_step | go_upon | go_back | ((with_reducible show Oper.upon _ _ _ _ _ _); go_simp) | (dsimp only)))
    go_ret
    exact ⟨rfl, HB.out⟩
set_option maxRecDepth 100000 in
set_option maxHeartbeats 1000000 in
theorem indexn_any (q : Nat) (v : Value) (ls : List Nd) (w : World) (h : SlIs 6 Nd.cells w v ls) (hll : ls.length ≤ 1000000) (hq : WaysAt w q) (ho : ∀ d ∈ ls, 0 ≤ d.op ∧ d.op ≤ 24) :
    Calls Tryz.prog 50 #[v, .func (Fn.func 23) #[] #[.pointer (some ⟨q, 0, none⟩)]] w fun e w' => (∃ r : Int, e = .returned (.int .i64 r) ∧ decide (0 ≤ r) = ls.any arrB ∧ -1 ≤ r ∧ r ≤ 1000000) ∧ Below w.heap.size w w' := by
  have Ho := Lib.hid ho
  have hlb : (ls.length : Int) ≤ 1000000 := by omega
  rcases h.cases with ⟨ao, cap, rfl, rfl⟩ | ⟨b, off, cap, rfl, hne, HR0⟩
  · clear h ho hll hlb
    go_enter Tryz.func50, Tryz.ntmps50
    (repeat (first | (with_reducible first | refine xA ?_ | refine xB ?_ | refine xC ?_ | refine xD ?_ | refine xH ?_ | refine xI rfl ?_ | refine xE ?_ | refine xF ?_ | refine xG ?_) | go_skip | go_guarded | (with_reducible refine wp_loop_rounds 2 ?_) | rw [rounds_succ] | go_values | go_skip | go_guarded | go_step | go_upon | go_back | ((with_reducible show Oper.upon _ _ _ _ _ _); go_simp) | (dsimp only)))
    go_ret
    exact ⟨⟨_, rfl, rfl, by decide, by decide⟩, by (repeat (first | with_reducible exact Below.refl _ _ | assumption | with_reducible refine below_drewN ?_ _ | with_reducible refine Below.drew ?_ | with_reducible refine Below.setRow ?_ ?_ _ | with_reducible refine Below.alloc ?_ ?_ _ | with_reducible refine Below.setCell ?_ ?_ _ | with_reducible exact Nat.le_refl _ | (focus (simp; done)) | (focus (simp; omega)) | omega))⟩
  clear h ho hll hne
  go_enter Tryz.func50, Tryz.ntmps50
  (repeat (first | (with_reducible first | refine xA ?_ | refine xB ?_ | refine xC ?_ | refine xD ?_ | refine xH ?_ | refine xI rfl ?_ | refine xE ?_ | refine xF ?_ | refine xG ?_) | go_values | go_skip | go_guarded | go_step | go_upon | go_back | ((with_reducible show Oper.upon _ _ _ _ _ _); go_simp) | (dsimp only)))
  go_loopw [8] (fun i wr => ∃ k : Nat, k ≤ ls.length ∧ i = .int .i64 k ∧ Hid (∀ j x, j < k → ls[j]? = some x → arrB x = false) ∧ Below w.heap.size w wr) (fun i _ => ls.length - (intOf i).toNat)
  case atStart => exact ⟨0, Nat.zero_le _, rfl, Lib.hid (fun j x h => by omega), Below.refl _ _⟩
  case round =>
    obtain ⟨k, hk, rfl, hgood, HB⟩ := hrel
    have HR := HR0.below HB
    have HQ := hq.below HB
    rcases Nat.lt_or_ge k ls.length with hlt | hge
    · obtain ⟨x, hx⟩ : ∃ x, ls[k]? = some x := ⟨_, List.getElem?_eq_getElem hlt⟩
      have hi := Lib.hid hx
      have hop := Lib.hid (Ho.out x (List.mem_of_getElem? hx))
      obtain ⟨r, hr⟩ : ∃ r, Hid (arrB x = r) := ⟨_, Lib.hid rfl⟩
      clear hx
      cases r
      · (repeat (first | (with_reducible first | refine xA ?_ | refine xB ?_ | refine xC ?_ | refine xD ?_ | refine xH ?_ | refine xI rfl ?_ | refine xE ?_ | refine xF ?_ | refine xG ?_) | go_skip | go_guarded | (go_at_call 23; (with_reducible refine (lacks_any x q _ HQ hop.out.1 hop.out.2 _ hr).mono ?_); rintro _ w2 ⟨rfl, hb⟩; replace HB := HB.trans (hb.mono HB.size)) | ((with_reducible refine wl_id ?_); refine wl_ldNdA HR (by (repeat (first | with_reducible exact Below.refl _ _ | assumption | with_reducible refine below_drewN ?_ _ | with_reducible refine Below.drew ?_ | with_reducible refine Below.setRow ?_ ?_ _ | with_reducible refine Below.alloc ?_ ?_ _ | with_reducible refine Below.setCell ?_ ?_ _ | with_reducible exact Nat.le_refl _ | (focus (simp; done)) | (focus (simp; omega)) | omega))) k _ hi rfl _ rfl rfl ?_; simp only [Act.put, qz4, qz5, qz6]; (try dsimp only)) | go_values | go_skip | go_guarded | go_step | go_upon | go_back | ((with_reducible show Oper.upon _ _ _ _ _ _); go_simp) | (dsimp only)))
        refine ⟨⟨k + 1, by omega, by go_num, Lib.hid (fun j y hj hy => ?_), HB⟩, by simp [intOf]; omega⟩
        rcases Nat.lt_or_ge j k with h | h
        · exact hgood.out j y h hy
        · have : j = k := by omega
          subst this
          rw [hi.out] at hy
          cases hy
          exact hr.out
      · (repeat (first | (with_reducible first | refine xA ?_ | refine xB ?_ | refine xC ?_ | refine xD ?_ | refine xH ?_ | refine xI rfl ?_ | refine xE ?_ | refine xF ?_ | refine xG ?_) | go_skip | go_guarded | (go_at_call 23; (with_reducible refine (lacks_any x q _ HQ hop.out.1 hop.out.2 _ hr).mono ?_); rintro _ w2 ⟨rfl, hb⟩; replace HB := HB.trans (hb.mono HB.size)) | ((with_reducible refine wl_id ?_); refine wl_ldNdA HR (by (repeat (first | with_reducible exact Below.refl _ _ | assumption | with_reducible refine below_drewN ?_ _ | with_reducible refine Below.drew ?_ | with_reducible refine Below.setRow ?_ ?_ _ | with_reducible refine Below.alloc ?_ ?_ _ | with_reducible refine Below.setCell ?_ ?_ _ | with_reducible exact Nat.le_refl _ | (focus (simp; done)) | (focus (simp; omega)) | omega))) k _ hi rfl _ rfl rfl ?_; simp only [Act.put, qz4, qz5, qz6]; (try dsimp only)) | go_values | go_skip | go_guarded | go_step | go_upon | go_back | ((with_reducible show Oper.upon _ _ _ _ _ _); go_simp) | (dsimp only)))
        go_ret
        refine ⟨⟨_, rfl, ?_, by omega, by omega⟩, HB⟩
        rw [decide_eq_true (by omega)]
        symm
        rw [List.any_eq_true]
        exact ⟨x, List.mem_of_getElem? hi.out, hr.out⟩
    · obtain rfl : k = ls.length := by omega
      (repeat (first | (with_reducible first | refine xA ?_ | refine xB ?_ | refine xC ?_ | refine xD ?_ | refine xH ?_ | refine xI rfl ?_ | refine xE ?_ | refine xF ?_ | refine xG ?_) | go_values | go_skip | go_guarded | go_step | go_upon | go_back | ((with_reducible show Oper.upon _ _ _ _ _ _); go_simp) | (dsimp only)))
      go_ret
      refine ⟨⟨_, rfl, ?_, by decide, by decide⟩, HB⟩
      rw [decide_eq_false (by decide)]
      symm
      rw [List.any_eq_false]
      intro x hx
      obtain ⟨j, hj⟩ := List.mem_iff_getElem?.1 hx
      rw [hgood.out j x (List.getElem?_eq_some_iff.1 hj).1 hj]
      simp
set_option maxRecDepth 100000 in
theorem containsn_any (q : Nat) (v : Value) (ls : List Nd) (w : World) (h : SlIs 6 Nd.cells w v ls) (hll : ls.length ≤ 1000000) (hq : WaysAt w q) (ho : ∀ d ∈ ls, 0 ≤ d.op ∧ d.op ≤ 24) (r : Bool) (hr : Hid (ls.any arrB = r)) :
    Calls Tryz.prog 22 #[v, .func (Fn.func 23) #[] #[.pointer (some ⟨q, 0, none⟩)]] w fun e w' => e = .returned (.bool r) ∧ Below w.heap.size w w' := by
  have HC := Lib.hid (indexn_any q v ls w h hll hq ho)
  clear h hll hq ho
  go_enter Tryz.func22, Tryz.ntmps22
  (repeat (first | (with_reducible first | refine xA ?_ | refine xB ?_ | refine xC ?_ | refine xD ?_ | refine xH ?_ | refine xI rfl ?_ | refine xE ?_ | refine xF ?_ | refine xG ?_) | go_skip | go_guarded | (go_at_call 50; (with_reducible refine HC.out.mono ?_); rintro _ w2 ⟨⟨i, rfl, hq, b1, b2⟩, hb⟩; rw [hr.out] at hq) | go_values | go_skip | go_guarded | go_step | go_upon | go_back | ((with_reducible show Oper.upon _ _ _ _ _ _); go_simp) | (dsimp only)))
  go_ret
  exact ⟨rfl, hb⟩
end Go.Proofs.YtmaogkgjiplckaaGreat
namespace Go.Proofs.YtmaogkgjiplckaaGreat
open Go.RowKit
section
variable {ops : Array Oper} {rest : List Oper} {o : Oper} {a : Act} {w : World} {Q : Exit → Act → World → Prop}
theorem wl_pushS (hgd : o.guard = none) (s x : Operand) (ho : o.op = .call { callee := .builtin .append, args := #[s, x], argTypes := #[30, 30] }) (base : Nat) (v : Value) (n : Nat) (l : List Value) (hs : a.eval s = v) (hown : w.ownsRow base 31 1 v n l) (b : Nat) (ad : Option Addr) (m c : Nat) (hx : a.eval x = .slice (some ⟨b, 0, none⟩) 1 1) (hb : w.cell? ⟨b, 0, none⟩ = some (.slice ad m c)) (hn : n ≤ 1000000) (hbase : base ≤ w.heap.size)
    (h : ∀ v' w', w'.ownsRow base 31 1 v' (n + 1) (l ++ [.slice ad m c]) → w.grownBy w' v.ownBlock → (v'.ownBlock = v.ownBlock ∨ v'.ownBlock = some w.heap.size) → wpList Tryz.prog ops Q rest (a.put o.dst v') w') : wpList Tryz.prog ops Q (o :: rest) a w := by
  obtain ⟨i0, hi0, hz0, hz1, hz2⟩ := info_parts info26
  refine wpList_append_own_at _ hgd s x 30 ho base 31 i0 (.slice none 0 0) 1 24 Tryz.underlying30 hi0 hz0 hz1 hz2 rfl (by decide) v n _ hs hown ⟨b, 0, none⟩ 1 1 [.slice ad m c] hx rfl ?_ (by simp [Value.oneCell']) (by simp only [maxLen]; omega) (by omega) hbase ?_
  · intro j y hj
    rcases j with _ | j
    · simp at hj; subst hj
      simpa [Addr.add] using hb
    · simp at hj
  · intro v' w' h1 h2 _ h4
    exact h v' w' h1 h2 h4
end
section
variable {X : Nat → Prop} {base bb gb : Nat} {b : BS} {lv wv : Value} {iv rv vs : List Value}
theorem ownsRow_shape {w : World} {B T n : Nat} {v : Value} {l : List Value} (h : w.ownsRow B T 1 v n l) : ∃ ao c, v = .slice ao n c := by
  rcases h.2 with ⟨e, h0⟩ | ⟨g, cap, cur, e, _⟩
  · subst h0; exact ⟨_, _, e⟩
  · exact ⟨_, _, e⟩
theorem bz_lt {w : World} (h : BRep X base w bb gb b lv iv rv wv vs) {k : Nat} (hz : BZ X bb wv k) : k < w.heap.size := h.gr.xb k hz.1
theorem BRep.push {w w2 w3 : World} (h : BRep X base w bb gb b lv iv rv wv vs) (hb : Below w.heap.size w w2) {v wv' : Value} {l : List Int} (hv : SlX (BZ X bb wv) w v l) (hO : w3.ownsRow base 31 1 wv' (vs.length + 1) (vs ++ [v])) (hg : w2.grownBy w3 wv.ownBlock) (hl : wv'.ownBlock = wv.ownBlock ∨ wv'.ownBlock = some w2.heap.size) :
    BRep (fun k => X k ∨ wv'.ownBlock = some k) base (w3.setCell ⟨bb, 29, none⟩ wv') bb gb ⟨b.g, b.ws ++ [l], b.inp, b.reg⟩ lv iv rv wv' (vs ++ [v]) ∧ Kept (fun k => X k ∧ k ≠ bb ∧ some k ≠ wv.ownBlock) w (w3.setCell ⟨bb, 29, none⟩ wv') := by
  have h2 := h.below hb
  have hbl := h.lt
  have hne : ∀ k, wv.ownBlock = some k → k ≠ bb := fun k e => (h.xw k e).2
  have hsz := hb.size
  have hwb : wv'.ownBlock ≠ some bb := by
    rcases hl with e | e
    · rw [e]; intro e2; exact hne bb e2 rfl
    · rw [e]; intro e2; injection e2 with e2; omega
  have hbox3 : w3.heap[bb]? = _ := keep_at hg h2.box (fun e => hne bb e.symm rfl)
  have hg4 : w3.grownBy (w3.setCell ⟨bb, 29, none⟩ wv') (some bb) := set_grown
  have hk23 : Kept (fun k => some k ≠ wv.ownBlock) w2 w3 := ⟨hg.os, hg.tape, hg.output, hg.size, fun i hi hx => hg.block i hi hx⟩
  have hk34 : Kept (fun k => k ≠ bb) w3 (w3.setCell ⟨bb, 29, none⟩ wv') := ⟨hg4.os, hg4.tape, hg4.output, hg4.size, fun i hi hx => hg4.block i hi (fun e => hx (by injection e))⟩
  have hkk : Kept (fun k => k ≠ bb ∧ some k ≠ wv.ownBlock) w2 (w3.setCell ⟨bb, 29, none⟩ wv') := (hk23.mono fun k _ hz => hz.2).trans (hk34.mono fun k _ hz => hz.1)
  have hbox4 := heap_setCell_same w3 bb 29 _ _ wv' hbox3
  rw [List.setIfInBounds_toArray, bc_set_w h.il h.rl] at hbox4
  have hG3 : GR (fun k => X k ∨ wv'.ownBlock = some k) base w3 gb b.g := by
    refine h2.gr.turn hg (fun q e => (h.xw q e).1) ?_ ?_
    · rintro k (hk | hk)
      · exact .inl hk
      · rcases hl with e | e
        · rw [e] at hk; exact .inl (h.xw k hk).1
        · rw [e] at hk; injection hk with hk; right; omega
    · rintro k (hk | hk)
      · exact Nat.lt_of_lt_of_le (h2.gr.xb k hk) hg.size
      · exact (hO.lt k hk).2
  have up : ∀ {xs : List Value} {cl : List (List Int)}, SlsX (BZ X bb wv) w xs cl → SlsX (BZ (fun k => X k ∨ wv'.ownBlock = some k) bb wv') (w3.setCell ⟨bb, 29, none⟩ wv') xs cl := fun hx => by
    have h1 := hx.kept (Kept.ofBelow hb)
    have h2' := h1.mono (Z := fun k => BZ X bb wv k ∧ k < w.heap.size) fun k _ hz => ⟨hz, bz_lt h hz⟩
    have h3 := h2'.kept (hkk.mono fun k _ hz => ⟨hz.1.2.1, hz.1.2.2⟩)
    refine h3.mono fun k _ hz => ⟨.inl hz.1.1, hz.1.2.1, fun e => ?_⟩
    rcases hl with e2 | e2
    · rw [e2] at e; exact hz.1.2.2 e
    · rw [e2] at e; injection e with e; have := hz.2; omega
  have hv4 : SlX (BZ (fun k => X k ∨ wv'.ownBlock = some k) bb wv') (w3.setCell ⟨bb, 29, none⟩ wv') v l := by
    have := up (xs := [v]) (cl := [l]) ⟨rfl, fun i x m hx hm => by
      rcases i with _ | i
      · simp at hx hm; subst hx; subst hm; exact hv
      · simp at hx⟩
    exact this.2 0 v l rfl rfl
  refine ⟨⟨hbox4, .inl h.xb, hG3.other hg4 (.inl h.xb), h.il, h.rl, up h.inp, up h.reg, h.ni, h.nr, ?_, ?_, (up h.words).append ⟨rfl, fun i x m hx hm => ?_⟩⟩, (Kept.ofBelow hb).trans (hkk.mono fun k _ hz => hz.2)⟩
  · rw [List.length_append]
    exact owns_kept hO hk34 fun k e e2 => hwb (by rw [e, e2])
  · intro k e
    exact ⟨.inr e, fun e2 => hwb (by rw [e, e2])⟩
  · rcases i with _ | i
    · simp at hx hm; subst hx; subst hm; exact hv4
    · simp at hx
end
theorem cloneX {Z : Nat → Prop} (v : Value) (l : List Int) (w : World) (h : SlX Z w v l) (hll : l.length ≤ 1000000) (hn : l = [] → v = .slice none 0 0) :
    Calls Tryz.prog 25 #[v] w fun e w' => ∃ ao c, e = .returned (.slice ao l.length c) ∧ (l = [] → Value.slice ao l.length c = .slice none 0 0) ∧ SlX (fun k => w.heap.size ≤ k) w' (.slice ao l.length c) l ∧ Below w.heap.size w w' := by
  by_cases e : l = []
  · have hv := hn e
    subst hv; subst e
    refine (clone_nil w).mono ?_
    rintro _ _ ⟨rfl, rfl⟩
    exact ⟨none, 0, rfl, fun _ => rfl, SlX.nil _ _, Below.refl _ _⟩
  · refine (clone_any v l w h e hll).mono ?_
    rintro _ w' ⟨v', rfl, hO, hb⟩
    obtain ⟨ao, c, rfl⟩ := ownsRow_shape hO
    exact ⟨ao, c, rfl, fun e2 => absurd e2 e, own_sl hO fun k e => (hO.lt k e).1, hb⟩
end Go.Proofs.YtmaogkgjiplckaaGreat
namespace Go.Proofs.YtmaogkgjiplckaaGreat
open Go.RowKit
def Enters (f : Nat) : Prop := ∀ (args : Array Value) (w : World), (callFunc f args).run Tryz.prog w = .ok (.enter f args) w
theorem enters_of {f : Nat} {fn : Func} {c : Code} (hf : Tryz.prog.funcs[f]? = some fn) (hname : (fn.name == "runtime.NumGoroutine") = false) (hb : fn.body = some c) : Enters f := fun args w => by
  have h1 : fn.name ≠ "runtime.NumGoroutine" := by simpa using hname
  simp [callFunc, hf, h1, hb]
theorem way_any {I R : Nat → Nat} {ls : List Nd} {k : Nat} {b : BS} {s : Nat → Bool} {d : Nd} (hT : TF ls) (hB : BI I R ls k b s) (hd : ls[k]? = some d) (hwf : NdWf d) (hn : b.g.n + 40000 ≤ 1048576) :
    ∃ j f : Nat, d.op = j ∧ j < 25 ∧ wayK 22 j = .func (Fn.func f) #[] #[] ∧ Enters f ∧ ∀ (X : Nat → Prop) (base bb gb : Nat) (lv wv : Value) (iv rv vs : List Value) (w : World), base ≤ w.heap.size → BRep X base w bb gb b lv iv rv wv vs →
      Calls Tryz.prog f #[.pointer (some ⟨bb, 0, none⟩), .agg #[.int .i64 d.op, .int .i64 d.w, .int .u64 d.n, .int .i64 d.k0, .int .i64 d.k1, .int .i64 d.k2]] w (WordB X base bb gb lv wv vs w (bword b d)) := by
  have hkl : k < ls.length := by
    rcases Nat.lt_or_ge k ls.length with h1 | h1
    · exact h1
    · rw [List.getElem?_eq_none h1] at hd; cases hd
  have wd : ∀ a : Nat, a < k → wAt ls a = 1 ∨ wAt ls a = 8 ∨ wAt ls a = 64 := fun a ha => hT.wd a (by omega)
  have hdw := (hT k d hd).wd wd
  have hlen := hB.len
  have hn0 := hwf.2.2.1
  cases hT k d hd with
  | const h hw hn hN _ =>
    refine ⟨0, 43, h, by decide, rfl, enters_of Tryz.func43 (by kernel_rfl) rfl, fun X base bb gb lv wv iv rv vs w hba hR => ?_⟩
    have e : bword b d = (b, constL d.w.toNat d.n.toNat) := by unfold bword; rw [if_pos h]
    rw [e]
    exact constant_any w hR d d.w.toNat (by omega) (by omega) hn0.1 hn0.2
  | input h hw hn hN =>
    refine ⟨1, 44, h, by decide, rfl, enters_of Tryz.func44 (by kernel_rfl) rfl, fun X base bb gb lv wv iv rv vs w hba hR => ?_⟩
    obtain ⟨i, hi⟩ : ∃ i : Nat, d.n = i := ⟨d.n.toNat, by omega⟩
    have e : bword b d = (if b.inp.getD i [] = [] then (⟨addV b.g 8, b.ws, b.inp.set i (freeL b.g.n 8), b.reg⟩, freeL b.g.n 8) else (b, b.inp.getD i [])) := by
      unfold bword; rw [if_neg (by omega), if_pos h, hi, Int.toNat_natCast]
    rw [hi]
    exact input_b w hR hB.il d.op d.w d.k0 d.k1 d.k2 i (by omega) (by omega) _ (Lib.hid e.symm)
  | reg h hw hn hN =>
    refine ⟨2, 45, h, by decide, rfl, enters_of Tryz.func45 (by kernel_rfl) rfl, fun X base bb gb lv wv iv rv vs w hba hR => ?_⟩
    obtain ⟨i, hi⟩ : ∃ i : Nat, d.n = i := ⟨d.n.toNat, by omega⟩
    have e : bword b d = (if b.reg.getD i [] = [] then (⟨addV b.g 64, b.ws, b.inp, b.reg.set i (freeL b.g.n 64)⟩, freeL b.g.n 64) else (b, b.reg.getD i [])) := by
      unfold bword; rw [if_neg (by omega), if_neg (by omega), if_pos h, hi, Int.toNat_natCast]
    rw [hi]
    exact reg_b w hR hB.rl d.op d.w d.k0 d.k1 d.k2 i (by omega) (by omega) _ (Lib.hid e.symm)
  | wide h a ha haj hw hx =>
    refine ⟨6, 47, h, by decide, rfl, enters_of Tryz.func47 (by kernel_rfl) rfl, fun X base bb gb lv wv iv rv vs w hba hR => ?_⟩
    have W := hB.ws a haj
    have e : bword b d = (b, b.at a ++ constL (64 - (b.at a).length) 0) := by unfold bword; rw [if_neg (by omega), if_neg (by omega), if_neg (by omega), if_pos h, ha]
    rw [e]
    exact wide_b w hR d a ha (by omega) (by have := W.len; omega)
  | low h a ha haj hw hx =>
    refine ⟨7, 48, h, by decide, rfl, enters_of Tryz.func48 (by kernel_rfl) rfl, fun X base bb gb lv wv iv rv vs w hba hR => ?_⟩
    have W := hB.ws a haj
    have e : bword b d = (b, (b.at a).take 8) := by unfold bword; rw [if_neg (by omega), if_neg (by omega), if_neg (by omega), if_neg (by omega), if_pos h, ha]
    rw [e]
    exact low_any w hR d a ha (by omega) (by have := W.len; omega)
  | choice h a c e ha hc he haj hcj hej h1 hx hy h0 =>
    refine ⟨22, 49, h, by decide, rfl, enters_of Tryz.func49 (by kernel_rfl) rfl, fun X base bb gb lv wv iv rv vs w hba hR => ?_⟩
    have W0 := hB.ws a haj
    have W1 := hB.ws c hcj
    have W2 := hB.ws e hej
    have hl0 : (b.at a).length = 1 := by rw [W0.len, h1]; rfl
    obtain ⟨z, hz⟩ : ∃ z, b.at a = [z] := List.length_eq_one_iff.1 hl0
    have hzl : isL b.g.n z := W0.isl z (by rw [hz]; exact List.mem_singleton.2 rfl)
    have eb : bword b d = (⟨(chooseG b.g z (b.at c) (b.at e)).1, b.ws, b.inp, b.reg⟩, (chooseG b.g z (b.at c) (b.at e)).2) := by
      unfold bword; rw [if_neg (by omega), if_neg (by omega), if_neg (by omega), if_neg (by omega), if_neg (by omega), if_pos h, ha, hc, he, hz]; rfl
    rw [eb]
    exact choice_b w hba hR d a c e ha hc he (by omega) (by omega) (by omega) z hz d.w.toNat (by omega) (by rw [W1.len, hx]) (by rw [W2.len, hy]) hzl W1.isl W2.isl hB.gi (by omega) _ (Lib.hid rfl)
  | not h a ha haj hw h0 z =>
    refine ⟨5, 46, h, by decide, rfl, enters_of Tryz.func46 (by kernel_rfl) rfl, fun X base bb gb lv wv iv rv vs w hba hR => ?_⟩
    have W := hB.ws a haj
    have hwa := wd a haj
    have e : bword b d = (⟨(resG d.op b.g (b.at a).length (b.at a) (b.at ((0 : Nat) : Int))).1, b.ws, b.inp, b.reg⟩, (resG d.op b.g (b.at a).length (b.at a) (b.at ((0 : Nat) : Int))).2) := by
      unfold bword; rw [if_neg (by omega), if_neg (by omega), if_neg (by omega), if_neg (by omega), if_neg (by omega), if_neg (by omega), ha, z]; rfl
    rw [e]
    exact apply_b w hba hR d a 0 ha z (by omega) (by omega) (b.at a).length (by rw [W.len]; omega) rfl (.inl h) W.isl (.inl h) hB.gi (.inl h) hn _ (Lib.hid rfl)
  | two h a c ha hc haj hcj hx hy h0 =>
    have W := hB.ws a haj
    have V := hB.ws c hcj
    have hwa := wd a haj
    obtain ⟨j, hj⟩ : ∃ j : Nat, d.op = j := ⟨d.op.toNat, by omega⟩
    refine ⟨j, 46, hj, by omega, ?_, enters_of Tryz.func46 (by kernel_rfl) rfl, fun X base bb gb lv wv iv rv vs w hba hR => ?_⟩
    · unfold wayK
      rw [if_neg (by omega), if_neg (by omega), if_neg (by omega), if_neg (by omega), if_neg (by omega), if_neg (by omega), if_neg (by omega), if_pos (by omega)]
    · have e : bword b d = (⟨(resG d.op b.g (b.at a).length (b.at a) (b.at c)).1, b.ws, b.inp, b.reg⟩, (resG d.op b.g (b.at a).length (b.at a) (b.at c)).2) := by
        unfold bword; rw [if_neg (by omega), if_neg (by omega), if_neg (by omega), if_neg (by omega), if_neg (by omega), if_neg (by omega), ha, hc]
      rw [e]
      exact apply_b w hba hR d a c ha hc (by omega) (by omega) (b.at a).length (by rw [W.len]; omega) rfl (.inr (by rw [V.len, W.len, hx, hy])) W.isl (.inr V.isl) hB.gi (.inr (by omega)) hn _ (Lib.hid rfl)
  | test h a c ha hc haj hcj hx h0 hw =>
    have W := hB.ws a haj
    have V := hB.ws c hcj
    have hwa := wd a haj
    obtain ⟨j, hj⟩ : ∃ j : Nat, d.op = j := ⟨d.op.toNat, by omega⟩
    refine ⟨j, 46, hj, by omega, ?_, enters_of Tryz.func46 (by kernel_rfl) rfl, fun X base bb gb lv wv iv rv vs w hba hR => ?_⟩
    · unfold wayK
      rw [if_neg (by omega), if_neg (by omega), if_neg (by omega), if_neg (by omega), if_neg (by omega), if_neg (by omega), if_neg (by omega), if_pos (by omega)]
    · have e : bword b d = (⟨(resG d.op b.g (b.at a).length (b.at a) (b.at c)).1, b.ws, b.inp, b.reg⟩, (resG d.op b.g (b.at a).length (b.at a) (b.at c)).2) := by
        unfold bword; rw [if_neg (by omega), if_neg (by omega), if_neg (by omega), if_neg (by omega), if_neg (by omega), if_neg (by omega), ha, hc]
      rw [e]
      exact apply_b w hba hR d a c ha hc (by omega) (by omega) (b.at a).length (by rw [W.len]; omega) rfl (.inr (by rw [V.len, W.len, hx])) W.isl (.inr V.isl) hB.gi (.inr (by omega)) hn _ (Lib.hid rfl)
end Go.Proofs.YtmaogkgjiplckaaGreat
namespace Go.Proofs.YtmaogkgjiplckaaGreat
open Go.RowKit
def fcells (c0 c1 c2 : Value) (iv rv : List Value) : List Value := [c0, c1, c2] ++ (iv ++ rv)
def nilV (n : Nat) : List Value := List.replicate n (.slice none 0 0)
def fzero : List Value := fcells (.slice none 0 0) (.int .i64 0) (.slice none 0 0) (nilV 16) (nilV 8)
theorem fzero_len : fzero.length = 27 := by decide
theorem sizeTF : (Tryz.prog.info? 35).map (·.size) = some 27 := by kernel_rfl
theorem fcells_len {c0 c1 c2 : Value} {iv rv : List Value} (hi : iv.length = 16) (hr : rv.length = 8) : (fcells c0 c1 c2 iv rv).length = 27 := by
  unfold fcells; rw [List.length_append, List.length_append, hi, hr]; rfl
theorem fcells_one {c0 c1 c2 : Value} {iv rv : List Value} (h0 : c0.oneCell' = true) (h1 : c1.oneCell' = true) (h2 : c2.oneCell' = true) (hi : ∀ v ∈ iv, v.oneCell' = true) (hr : ∀ v ∈ rv, v.oneCell' = true) : (fcells c0 c1 c2 iv rv).toArray.all (·.oneCell') = true := by
  rw [List.all_toArray, List.all_eq_true]
  intro v hv
  unfold fcells at hv
  simp only [List.cons_append, List.nil_append, List.mem_cons, List.mem_append] at hv
  rcases hv with rfl | rfl | rfl | hv | hv
  · exact h0
  · exact h1
  · exact h2
  · exact hi v hv
  · exact hr v hv
theorem of_post {post : Ending → World → Prop} {a : Act} {w : World} {q : Nat} {cs : List Value} {E : Int} (hl : cs.length = 27) (hd : a.defers = []) (hp : a.tmps.getD 2 undef = .pointer (some ⟨q, 0, none⟩)) (hu : a.tmps.getD 3 undef = .int .i64 E) (hb : w.heap[q]? = some (.cells cs.toArray 35 (0, 0)))
    (h : post (.returned (.tuple #[.agg cs.toArray, .int .i64 E])) w) : bodyPost Tryz.prog Tryz.f8 post .ret a w := by
  refine bodyPost_ret ((results_cell_tmp rfl _ _ _).trans ?_) hd h
  rw [hp, hu]
  have e := run_loadVar_row w q 35 35 cs.toArray (0, 0) _ hb Tryz.underlying35 rfl (by rw [List.size_toArray, hl]; exact sizeTF)
  simp only [asAddr, Sem.run_pure, Result.andThen_ok, e]
theorem ways_at {w : World} {q : Nat} (h : w.heap[q]? = some (.cells (waysV 22).toArray 63 (0, 0))) : WaysAt w q := fun j hj => by
  rw [cell_of_row w q j _ _ _ h, List.getElem?_toArray]
  exact waysV_get 22 j hj
end Go.Proofs.YtmaogkgjiplckaaGreat
namespace Go.Proofs.YtmaogkgjiplckaaGreat
open Go.RowKit
theorem bK_ws {ls : List Nd} (hT : TF ls) (k : Nat) (hk : k ≤ ls.length) : (bK ls k).ws.length = k := by
  obtain ⟨s, hs⟩ := blast_ok (I := fun _ => 0) (R := fun _ => 0) hT (fun _ => by decide) (fun _ => by decide) k hk
  exact hs.len
def OfR (ls : List Nd) (k : Nat) (u : World) (bb gb base : Nat) (lv : Value) (wr : World) : Prop :=
  ∃ (X : Nat → Prop) (iv rv vs : List Value) (wv : Value), BRep X base wr bb gb (bK ls k) lv iv rv wv vs ∧ (∀ j, j < u.heap.size → X j) ∧ u.heap.size ≤ bb ∧ base ≤ wr.heap.size ∧ Kept (fun j => j < u.heap.size) u wr
theorem ofr_start {u w6 : World} {gb : Nat} {lv : Value} (ls : List Nd) (hG : GR (fun k => k < u.heap.size) u.heap.size w6 gb newG) (hb : Below u.heap.size u w6) :
    OfR ls 0 u w6.heap.size gb u.heap.size lv (w6.alloc (.cells (bcells (.slice none 0 0) (.int .i64 0) (.slice none 0 0) (nilV 16) (nilV 8) lv (.slice none 0 0) gb).toArray 71)) := by
  have hbx := Below.alloc (Below.refl w6.heap.size w6) (Nat.le_refl _) (.cells (bcells (.slice none 0 0) (.int .i64 0) (.slice none 0 0) (nilV 16) (nilV 8) lv (.slice none 0 0) gb).toArray 71)
  have hnil : ∀ {X : Nat → Prop} {n : Nat} {w : World}, SlsX X w (nilV n) (List.replicate n []) := fun {X n w} => by
    refine ⟨by simp [nilV], fun i x l hx hl => ?_⟩
    have e1 := List.eq_of_mem_replicate (List.mem_of_getElem? hx)
    have e2 := List.eq_of_mem_replicate (List.mem_of_getElem? hl)
    subst e1; subst e2
    exact SlX.nil _ _
  refine ⟨fun k => k < u.heap.size ∨ k = w6.heap.size, nilV 16, nilV 8, [], .slice none 0 0, ⟨heap_alloc_new w6 _, .inr rfl, hG.owned (below_own hbx) (Nat.le_refl _) (by simp), by simp [nilV], by simp [nilV], hnil, hnil, ?_, ?_, ?_, ?_, ⟨rfl, fun i x l hx _ => by simp at hx⟩⟩, fun j hj => .inl hj, hb.size, by simp; exact Nat.le_trans hb.size (Nat.le_succ _), (Kept.ofBelow hb).trans (Kept.below hbx fun k hk _ => hk)⟩
  · intro i v hv _; exact List.eq_of_mem_replicate (List.mem_of_getElem? hv)
  · intro i v hv _; exact List.eq_of_mem_replicate (List.mem_of_getElem? hv)
  · exact World.ownsRow_nil _ _ _ _
  · intro k e; cases e
theorem ofr_next {ls : List Nd} {k : Nat} {u w2 w9 : World} {bb gb base : Nat} {lv wv wv' v : Value} {iv rv vs : List Value} {Y : Nat → Prop} {r : BS × List Int} {o : Obj} (hbk : bK ls (k + 1) = .push r) (hB : BRep Y base w2 bb gb r.1 lv iv rv wv vs) (hS : SlX (BZ Y bb wv) w2 v r.2)
    (hO : w9.ownsRow base 31 1 wv' (vs.length + 1) (vs ++ [v])) (hg : (w2.alloc o).grownBy w9 wv.ownBlock) (hl : wv'.ownBlock = wv.ownBlock ∨ wv'.ownBlock = some (w2.alloc o).heap.size) (hY : ∀ j, j < u.heap.size → Y j) (hbb : u.heap.size ≤ bb) (hsz : base ≤ w2.heap.size) (hK : Kept (fun j => j < u.heap.size) u w2) (hbu : u.heap.size ≤ base := by exact Nat.le_refl _) :
    OfR ls (k + 1) u bb gb base lv (w9.setCell ⟨bb, 29, none⟩ wv') := by
  obtain ⟨p1, p2⟩ := hB.push (Below.alloc (Below.refl _ _) (Nat.le_refl _) o) hS hO hg hl
  refine ⟨fun k => Y k ∨ wv'.ownBlock = some k, iv, rv, _, wv', by rw [hbk]; exact p1, fun j hj => .inl (hY j hj), hbb, ?_, hK.trans (p2.mono fun j _ hj => ⟨hY j hj, by show j ≠ bb; have : j < u.heap.size := hj; omega, fun e => ?_⟩)⟩
  · exact Nat.le_trans hsz p2.size
  · have := (hB.row.lt j e.symm).1
    have : j < u.heap.size := hj
    omega
structure FRep (w : World) (bb gb : Nat) (b : BS) (c0 c1 c2 lv wv : Value) (iv rv : List Value) : Prop where
  box : w.heap[bb]? = some (.cells (bcells c0 c1 c2 iv rv lv wv gb).toArray 71 (0, 0))
  il : iv.length = 16
  rl : rv.length = 8
  inp : SlsX (fun k => k ≠ bb) w iv b.inp
  reg : SlsX (fun k => k ≠ bb) w rv b.reg
  ni : ∀ (i : Nat) (v : Value), iv[i]? = some v → b.inp[i]? = some [] → v = .slice none 0 0
  nr : ∀ (i : Nat) (v : Value), rv[i]? = some v → b.reg[i]? = some [] → v = .slice none 0 0
section
variable {w w' : World} {bb gb : Nat} {b : BS} {c0 c1 c2 lv wv : Value} {iv rv : List Value}
theorem FRep.lt (h : FRep w bb gb b c0 c1 c2 lv wv iv rv) : bb < w.heap.size := lt_of_block h.box
theorem FRep.cell (h : FRep w bb gb b c0 c1 c2 lv wv iv rv) (j : Nat) : w.cell? ⟨bb, j, none⟩ = (bcells c0 c1 c2 iv rv lv wv gb)[j]? := by
  rw [cell_of_row w bb j _ _ _ h.box, List.getElem?_toArray]
theorem FRep.ci (h : FRep w bb gb b c0 c1 c2 lv wv iv rv) {i : Nat} {v : Value} (hv : iv[i]? = some v) : w.cell? ⟨bb, 3 + i, none⟩ = some v := by rw [h.cell, bc_inp h.il hv]
theorem FRep.cr (h : FRep w bb gb b c0 c1 c2 lv wv iv rv) {i : Nat} {v : Value} (hv : rv[i]? = some v) : w.cell? ⟨bb, 19 + i, none⟩ = some v := by rw [h.cell, bc_reg h.il h.rl hv]
theorem FRep.below (h : FRep w bb gb b c0 c1 c2 lv wv iv rv) (hb : Below w.heap.size w w') : FRep w' bb gb b c0 c1 c2 lv wv iv rv :=
  ⟨(Kept.ofBelow (X := fun _ => True) hb).at h.box trivial, h.il, h.rl, h.inp.kept (Kept.ofBelow hb), h.reg.kept (Kept.ofBelow hb), h.ni, h.nr⟩
theorem set_kept {q i : Nat} {v : Value} : Kept (fun k => k ≠ q) w (w.setCell ⟨q, i, none⟩ v) := by
  have hg : w.grownBy (w.setCell ⟨q, i, none⟩ v) (some q) := set_grown
  exact ⟨hg.os, hg.tape, hg.output, hg.size, fun i hi hx => hg.block i hi (fun e => hx (by injection e))⟩
theorem FRep.set (h : FRep w bb gb b c0 c1 c2 lv wv iv rv) (i : Nat) (v : Value) {d0 d1 d2 : Value} (he : (bcells c0 c1 c2 iv rv lv wv gb).set i v = bcells d0 d1 d2 iv rv lv wv gb) : FRep (w.setCell ⟨bb, i, none⟩ v) bb gb b d0 d1 d2 lv wv iv rv := by
  have hbox := heap_setCell_same w bb i _ _ v h.box
  rw [List.setIfInBounds_toArray, he] at hbox
  exact ⟨hbox, h.il, h.rl, h.inp.kept set_kept, h.reg.kept set_kept, h.ni, h.nr⟩
theorem slsx_put {Z : Nat → Prop} {xs : List Value} {cl : List (List Int)} (h : SlsX Z w xs cl) (i : Nat) {v : Value} {l : List Int} (hl : cl[i]? = some l) (hv : SlX Z w v l) : SlsX Z w (xs.set i v) cl := by
  refine ⟨by rw [List.length_set]; exact h.1, fun j x m hx hm => ?_⟩
  by_cases e : i = j
  · subst e
    rw [hl] at hm
    injection hm with hm
    subst hm
    rw [List.getElem?_set, if_pos rfl] at hx
    split at hx
    · injection hx with hx; subst hx; exact hv
    · cases hx
  · rw [List.getElem?_set_ne e] at hx
    exact h.2 j x m hx hm
theorem FRep.setI (h : FRep w bb gb b c0 c1 c2 lv wv iv rv) {i : Nat} (hi : i < 16) {v : Value} {l : List Int} (hl : b.inp[i]? = some l) (hv : SlX (fun k => k ≠ bb) w v l) (hn : l = [] → v = .slice none 0 0) : FRep (w.setCell ⟨bb, 3 + i, none⟩ v) bb gb b c0 c1 c2 lv wv (iv.set i v) rv := by
  have hbox := heap_setCell_same w bb (3 + i) _ _ v h.box
  rw [List.setIfInBounds_toArray, bc_set_inp h.il v hi] at hbox
  refine ⟨hbox, by rw [List.length_set]; exact h.il, h.rl, (slsx_put h.inp i hl hv).kept set_kept, h.reg.kept set_kept, fun j x hx hm => ?_, h.nr⟩
  by_cases e : i = j
  · subst e
    rw [hl] at hm
    injection hm with hm
    rw [List.getElem?_set, if_pos rfl] at hx
    split at hx
    · injection hx with hx; rw [← hx]; exact hn hm
    · cases hx
  · rw [List.getElem?_set_ne e] at hx
    exact h.ni j x hx hm
theorem FRep.setR (h : FRep w bb gb b c0 c1 c2 lv wv iv rv) {i : Nat} (hi : i < 8) {v : Value} {l : List Int} (hl : b.reg[i]? = some l) (hv : SlX (fun k => k ≠ bb) w v l) (hn : l = [] → v = .slice none 0 0) : FRep (w.setCell ⟨bb, 19 + i, none⟩ v) bb gb b c0 c1 c2 lv wv iv (rv.set i v) := by
  have hbox := heap_setCell_same w bb (19 + i) _ _ v h.box
  rw [List.setIfInBounds_toArray, bc_set_reg h.il h.rl v hi] at hbox
  refine ⟨hbox, h.il, by rw [List.length_set]; exact h.rl, h.inp.kept set_kept, (slsx_put h.reg i hl hv).kept set_kept, h.ni, fun j x hx hm => ?_⟩
  by_cases e : i = j
  · subst e
    rw [hl] at hm
    injection hm with hm
    rw [List.getElem?_set, if_pos rfl] at hx
    split at hx
    · injection hx with hx; rw [← hx]; exact hn hm
    · cases hx
  · rw [List.getElem?_set_ne e] at hx
    exact h.nr j x hx hm
end
theorem BRep.form {X : Nat → Prop} {base bb gb : Nat} {w : World} {b : BS} {lv wv : Value} {iv rv vs : List Value} (h : BRep X base w bb gb b lv iv rv wv vs) : FRep w bb gb b (.slice none 0 0) (.int .i64 0) (.slice none 0 0) lv wv iv rv :=
  ⟨h.box, h.il, h.rl, h.inp.mono fun k _ hz => hz.2.1, h.reg.mono fun k _ hz => hz.2.1, h.ni, h.nr⟩
theorem bc_take {c0 c1 c2 lv wv : Value} {iv rv : List Value} {gb : Nat} (hi : iv.length = 16) (hr : rv.length = 8) : (bcells c0 c1 c2 iv rv lv wv gb).take 27 = fcells c0 c1 c2 iv rv := by
  unfold bcells fcells
  rw [← List.append_assoc iv, ← List.append_assoc, List.take_append_of_le_length (by simp [hi, hr]), List.take_of_length_le (by simp [hi, hr])]
theorem load_form (w : World) (g : Nat) (t : TypeId) (cs : Array Value) (fr : Nat × Nat) (hg : w.heap[g]? = some (.cells cs t fr)) (hs : 27 ≤ cs.size) : (Instr.loadAt 35 (.pointer (some ⟨g, 0, none⟩))).run Tryz.prog w = .ok (.agg (cs.toList.take 27).toArray) w := by
  simp only [Instr.loadAt, Instr.sureAddr, Sem.run_bind, Sem.run_pure, Result.andThen_ok]
  have hl : (loadCells ⟨g, 0, none⟩ (cs.toList.take 27).length).run Tryz.prog w = .ok (cs.toList.take 27).toArray w :=
    run_loadCells_list (P := Tryz.prog) w ⟨g, 0, none⟩ (cs.toList.take 27) (fun j v hv => by
      have hadd : (⟨g, 0, none⟩ : Addr).add j = ⟨g, j, none⟩ := by unfold Addr.add; split <;> simp_all
      rw [hadd, cell_of_row w g j cs t fr hg]
      rw [List.getElem?_take] at hv
      split at hv
      · simpa using hv
      · cases hv)
  have hln : (cs.toList.take 27).length = 27 := by rw [List.length_take, Array.length_toList]; omega
  have hi := sizeTF
  cases hq : Tryz.prog.info? 35 with
  | none => simp [hq] at hi
  | some i =>
    have hz : i.size = 27 := by simpa [hq] using hi
    have hagg : (isAgg 35).run Tryz.prog w = .ok true w := by
      unfold isAgg
      rw [Sem.run_bind, run_underlying Tryz.underlying35 w]
      rfl
    rw [hln] at hl
    simp [loadVar, Sem.run_bind, hagg, sizeOf, typeInfo, hq, hz, hl]
end Go.Proofs.YtmaogkgjiplckaaGreat

