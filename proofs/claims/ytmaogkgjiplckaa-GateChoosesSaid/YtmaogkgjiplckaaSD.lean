import Derived.Test.YtmaogkgjiplckaaSC
set_option linter.unusedSimpArgs false
set_option linter.unusedVariables false
namespace Go.Proofs.Ytmaogkgjiplckaa
open Go.RowKit
/-- a set of ints, as the program keeps it -/
def oneM (l : List Int) : List (Int × Value) := l.map fun x => (x, .int .i64 1)
theorem oneM_get (l : List Int) (x : Int) : (getM (oneM l) x).isSome = decide (x ∈ l) := by
  unfold getM oneM
  rw [Option.isSome_map]
  by_cases h : x ∈ l
  · rw [decide_eq_true h]
    rw [List.find?_isSome]
    exact ⟨_, List.mem_map.2 ⟨x, h, rfl⟩, by simp⟩
  · rw [decide_eq_false h, Bool.eq_false_iff]
    intro hs
    rw [List.find?_isSome] at hs
    obtain ⟨p, hp, he⟩ := hs
    obtain ⟨y, hy, rfl⟩ := List.mem_map.1 hp
    have : y = x := by simpa using he
    exact h (this ▸ hy)
theorem oneM_keys (l : List Int) : (oneM l).map (·.1) = l := by simp [oneM, Function.comp_def]
theorem oneM_put (l : List Int) {x : Int} (h : x ∉ l) : putM (oneM l) x (.int .i64 1) = oneM (l ++ [x]) := by
  unfold putM
  rw [oneM_keys, if_neg h]
  simp [oneM]
theorem oneM_rem {l : List Int} (h : l.Nodup) (x : Int) : remM (oneM l) x = oneM (l.erase x) := by
  unfold remM oneM
  rw [List.filter_map, h.erase_eq_filter]
  congr 1
  refine List.filter_congr fun y _ => ?_
  simp [bne, Bool.beq_eq_decide_eq]
theorem oneM_len (l : List Int) : (oneM l).length = l.length := by simp [oneM]

/-- the spreader, as it lies -/
structure SPR (w : World) (sb : Nat) (lv : Value) (mi ms mw : Nat) (is wt : List Int) : Prop where
  box : w.heap[sb]? = some (.cells #[lv, .map (some mi), .map (some ms), .map (some mw)] 109 (0, 0))
  mis : MapV encI okI w ms (oneM is)
  mwt : MapV encI okI w mw (oneM wt)
  ne : ms ≠ mw
  sub : ∀ x ∈ wt, x ∈ is
def SK (ms mw : Nat) (k : Nat) : Prop := k ≠ ms ∧ k ≠ mw
theorem SPR.apart {w : World} {sb : Nat} {lv : Value} {mi ms mw : Nat} {is wt : List Int} (h : SPR w sb lv mi ms mw is wt) : SK ms mw sb := by
  obtain ⟨es, c, h1, _⟩ := h.mis
  obtain ⟨es', c', h2, _⟩ := h.mwt
  have hb := h.box
  constructor
  · rintro rfl; rw [hb] at h1; simp at h1
  · rintro rfl; rw [hb] at h2; simp at h2
theorem SPR.kept {w w' : World} {sb : Nat} {lv : Value} {mi ms mw : Nat} {is wt : List Int} (h : SPR w sb lv mi ms mw is wt) {X : Nat → Prop} (hk : Kept X w w') (h1 : X sb) (h2 : X ms) (h3 : X mw) : SPR w' sb lv mi ms mw is wt :=
  ⟨hk.at h.box h1, h.mis.kept hk h2, h.mwt.kept hk h3, h.ne, h.sub⟩
/-- what hold and ask answer -/
def SPost (sb : Nat) (lv : Value) (mi ms mw : Nat) (w : World) (r : Option (List Int × List Int)) (e : Ending) (w' : World) : Prop :=
  e = .returned (.bool r.isSome) ∧ (∀ p, r = some p → SPR w' sb lv mi ms mw p.1 p.2) ∧ Kept (SK ms mw) w w'

set_option maxRecDepth 100000 in
set_option maxHeartbeats 1000000 in
theorem hold_any {sb : Nat} {lv : Value} {mi ms mw : Nat} {is wt : List Int} (w : World) (h : SPR w sb lv mi ms mw is wt) (x : Int) (hx : okL x) :
    Calls Try.prog 66 #[.pointer (some ⟨sb, 0, none⟩), .int .i64 x] w (SPost sb lv mi ms mw w (holdP is wt x)) := by
  have hok : okI x := ⟨by have := hx.2.1; omega, by have := hx.2.2; omega⟩
  have hokn : okI (-x) := ⟨by have := hx.2.2; omega, by have := hx.2.1; omega⟩
  have hsb : sb < w.heap.size := lt_of_block h.box
  have c2 : w.cell? ⟨sb, 2, none⟩ = some (.map (some ms)) := by simp [World.cell?, h.box]
  have c3 : w.cell? ⟨sb, 3, none⟩ = some (.map (some mw)) := by simp [World.cell?, h.box]
  have HM := Lib.hid h.mis
  have HW := Lib.hid h.mwt
  have HAP := Lib.hid h.apart
  have HNE := Lib.hid h.ne
  have H := Lib.hid h
  have hxb : -1048576 ≤ x ∧ x ≤ 1048576 := hx.2
  clear h hx
  by_cases h1 : -x ∈ is
  · have HG1 := Lib.hid (show (getM (oneM is) (-x)).isSome = true by rw [oneM_get, decide_eq_true h1])
    have e : holdP is wt x = none := by unfold holdP; rw [if_pos h1]
    rw [e]
    clear h1 e
    go_enter Try.func66, Try.ntmps66
    (repeat (first | (with_reducible first | refine xA ?_ | refine xB ?_ | refine xC ?_ | refine xD ?_ | refine xH ?_ | refine xI rfl ?_ | refine xE ?_ | refine xF ?_ | refine xG ?_) | go_skip | go_guarded | ((with_reducible refine wl_id ?_); refine wl_lookup rfl _ _ 39 true rfl 3 3 keyI Try.underlying39 (.int .i64 0) (zero3 _) ms (oneM is) rfl HM.out (-x) rfl hokn ?_; (simp only [if_true]; (rw [HG1.out]); generalize (getM (oneM is) (-x)).getD (.int .i64 0) = g1); (try simp only [Act.put, List.setIfInBounds_toArray, List.set_cons_succ, List.set_cons_zero])) | go_values | go_skip | go_guarded | go_step | go_upon | go_back | (dsimp only)))
    go_ret
    exact ⟨rfl, by simp, Kept.refl _ _⟩
  have HG1 := Lib.hid (show (getM (oneM is) (-x)).isSome = false by rw [oneM_get, decide_eq_false h1])
  by_cases h2 : x ∈ is
  · have HG2 := Lib.hid (show (getM (oneM is) x).isSome = true by rw [oneM_get, decide_eq_true h2])
    have e : holdP is wt x = some (is, wt) := by unfold holdP; rw [if_neg h1, if_pos h2]
    rw [e]
    clear h1 h2 e
    go_enter Try.func66, Try.ntmps66
    (repeat (first | (with_reducible first | refine xA ?_ | refine xB ?_ | refine xC ?_ | refine xD ?_ | refine xH ?_ | refine xI rfl ?_ | refine xE ?_ | refine xF ?_ | refine xG ?_) | go_skip | go_guarded | ((with_reducible refine wl_id ?_); refine wl_lookup rfl _ _ 39 true rfl 3 3 keyI Try.underlying39 (.int .i64 0) (zero3 _) ms (oneM is) rfl HM.out (-x) rfl hokn ?_; (simp only [if_true]; (rw [HG1.out]); generalize (getM (oneM is) (-x)).getD (.int .i64 0) = g1); (try simp only [Act.put, List.setIfInBounds_toArray, List.set_cons_succ, List.set_cons_zero])) | ((with_reducible refine wl_id ?_); refine wl_lookup rfl _ _ 39 true rfl 3 3 keyI Try.underlying39 (.int .i64 0) (zero3 _) ms (oneM is) rfl HM.out x rfl hok ?_; (simp only [if_true]; (rw [HG2.out]); generalize (getM (oneM is) x).getD (.int .i64 0) = g2); (try simp only [Act.put, List.setIfInBounds_toArray, List.set_cons_succ, List.set_cons_zero])) | go_values | go_skip | go_guarded | go_step | go_upon | go_back | (dsimp only)))
    go_ret
    exact ⟨rfl, fun p hp => by cases hp; exact H.out, Kept.refl _ _⟩
  · have HG2 := Lib.hid (show (getM (oneM is) x).isSome = false by rw [oneM_get, decide_eq_false h2])
    have e : holdP is wt x = some (is ++ [x], wt ++ [x]) := by unfold holdP; rw [if_neg h1, if_neg h2]
    have HNI := Lib.hid h2
    have HNW := Lib.hid (show x ∉ wt from fun h => h2 (H.out.sub x h))
    rw [e]
    clear h1 h2 e
    go_enter Try.func66, Try.ntmps66
    (repeat (first | (with_reducible first | refine xA ?_ | refine xB ?_ | refine xC ?_ | refine xD ?_ | refine xH ?_ | refine xI rfl ?_ | refine xE ?_ | refine xF ?_ | refine xG ?_) | go_skip | go_guarded | ((with_reducible refine wl_id ?_); refine wl_lookup rfl _ _ 39 true rfl 3 3 keyI Try.underlying39 (.int .i64 0) (zero3 _) ms (oneM is) rfl HM.out (-x) rfl hokn ?_; (simp only [if_true]; (rw [HG1.out]); generalize (getM (oneM is) (-x)).getD (.int .i64 0) = g1); (try simp only [Act.put, List.setIfInBounds_toArray, List.set_cons_succ, List.set_cons_zero])) | ((with_reducible refine wl_id ?_); refine wl_lookup rfl _ _ 39 true rfl 3 3 keyI Try.underlying39 (.int .i64 0) (zero3 _) ms (oneM is) rfl HM.out x rfl hok ?_; (simp only [if_true]; (rw [HG2.out]); generalize (getM (oneM is) x).getD (.int .i64 0) = g2); (try simp only [Act.put, List.setIfInBounds_toArray, List.set_cons_succ, List.set_cons_zero])) | ((with_reducible refine wl_id ?_); refine wl_mapUpdate rfl _ _ _ 39 rfl _ _ keyI Try.underlying39 ms (oneM is) rfl HM.out x rfl hok (.int .i64 1) rfl ?_; intro w5 hM5 hg5; (rw [oneM_put _ HNI.out] at hM5); have c35 := (World.cell?_of_block (hg5.block _ hsb (fun e => HAP.out.1 (by injection e)))).trans c3; have hW5 := HW.out.same (hg5.block _ HW.out.lt (fun e => HNE.out (by injection e with e; exact e.symm))); (try simp only [Act.put, List.setIfInBounds_toArray, List.set_cons_succ, List.set_cons_zero])) | ((with_reducible refine wl_id ?_); refine wl_mapUpdate rfl _ _ _ 39 rfl _ _ keyI Try.underlying39 mw (oneM wt) rfl hW5 x rfl hok (.int .i64 1) rfl ?_; intro w6 hM6 hg6; (rw [oneM_put _ HNW.out] at hM6); (try simp only [Act.put, List.setIfInBounds_toArray, List.set_cons_succ, List.set_cons_zero])) | go_values | go_skip | go_guarded | go_step | go_upon | go_back | (dsimp only)))
    go_ret
    have hk : Kept (SK ms mw) w w6 := ((Kept.refl _ w).grown hg5 (fun q e _ hx => hx.1 (by injection e with e; exact e.symm))).grown hg6 (fun q e _ hx => hx.2 (by injection e with e; exact e.symm))
    refine ⟨rfl, fun p hp => ?_, hk⟩
    cases hp
    refine ⟨hk.at H.out.box HAP.out, hM5.same (hg6.block _ hM5.lt (fun e => HNE.out (by injection e))), hM6, HNE.out, fun y hy => ?_⟩
    rcases List.mem_append.1 hy with hy | hy
    · exact List.mem_append_left _ (H.out.sub y hy)
    · exact List.mem_append_right _ hy

end Go.Proofs.Ytmaogkgjiplckaa
