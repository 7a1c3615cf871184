import Derived.Test.YtcffgbmgjdhkjaaAR
import Derived.Test.YtcffgbmgjdhkjaaAB
set_option linter.unusedSimpArgs false
set_option linter.unusedVariables false
namespace Go.Proofs.Ytcffgbmgjdhkjaa
open Go.RowKit

theorem yields_row {ops : Array Oper} {S : World → Prop} {o : Oper} {a : Act} {g : Nat} {T : TypeId} {cs : Array Value} {fs : Array Field} (hS : ∀ w, S w → w.heap[g]? = some (.cells cs T (0, 0))) (hw : Region.wanted o (yielded ops a.tmps) = true)
    (x : Operand) (ho : o.op = .load T x) (hx : a.eval x = .pointer (some ⟨g, 0, none⟩)) (hu : Try.prog.underlying T = some (.struct fs)) (hz : (Try.prog.info? T).map (·.size) = some cs.size) : YieldsIf Try.prog ops S o (.agg cs) a := by
  refine .inl ⟨hw, fun w hw' => ?_⟩
  have h : (Instr.loadAt T (.pointer (some ⟨g, 0, none⟩))).run Try.prog w = .ok (.agg cs) w := run_loadVar_row w g T T cs (0, 0) _ (hS w hw') hu rfl hz
  unfold execOp
  simp only [ho, hx, Sem.run_bind, h, Result.andThen_ok]
  rfl

theorem st46 (g i : Nat) (cs : Array Value) (t : TypeId) (n : Int) (hi : i < cs.size) (w : World) (hg : w.heap[g]? = some (.cells cs t (0, 0))) :
    (Instr.storeAt 46 (.pointer (some ⟨g, i, none⟩)) (.int .u64 n)).run Try.prog w = .ok () (w.setCell ⟨g, i, none⟩ (.int .u64 n)) := by
  have hc : w.cell? ⟨g, i, none⟩ = some cs[i] := by rw [cell_of_row w g i cs t _ hg]; simp [hi]
  have hf := frozen_of_row w g i cs t hg
  go_simp
theorem alloc4 (w : World) (A B C D : Obj) : (((((w.alloc A).alloc B).alloc C).alloc D).heap[w.heap.size]? = ((w.alloc A).heap[w.heap.size]?)) ∧ (((((w.alloc A).alloc B).alloc C).alloc D).heap[w.heap.size + 1]? = ((w.alloc A).alloc B).heap[(w.alloc A).heap.size]?) ∧
    (((((w.alloc A).alloc B).alloc C).alloc D).heap[w.heap.size + 1 + 1]? = (((w.alloc A).alloc B).alloc C).heap[((w.alloc A).alloc B).heap.size]?) ∧ (((((w.alloc A).alloc B).alloc C).alloc D).heap[w.heap.size + 1 + 1 + 1]? = ((((w.alloc A).alloc B).alloc C).alloc D).heap[(((w.alloc A).alloc B).alloc C).heap.size]?) ∧
    Below w.heap.size w ((((w.alloc A).alloc B).alloc C).alloc D) := by
  refine ⟨?_, ?_, ?_, ?_, ?_⟩
  · rw [Below.heap_alloc _ _ _ (by simp; omega), Below.heap_alloc _ _ _ (by simp; omega), Below.heap_alloc _ _ _ (by simp)]
  · rw [Below.heap_alloc _ _ _ (by simp), Below.heap_alloc _ _ _ (by simp)]; simp
  · rw [Below.heap_alloc _ _ _ (by simp)]; simp
  · simp
  · exact Below.alloc (Below.alloc (Below.alloc (Below.alloc (Below.refl _ _) (Nat.le_refl _) _) (by simp) _) (by simp; omega) _) (by simp; omega) _
theorem res40 (tmps : Array Value) (w : World) (g h : Nat) (cs ds : Array Value) (h2 : tmps.getD 2 undef = .pointer (some ⟨g, 0, none⟩)) (h3 : tmps.getD 3 undef = .pointer (some ⟨h, 0, none⟩)) (HO : w.heap[g]? = some (.cells cs 56 (0, 0))) (HP : w.heap[h]? = some (.cells ds 49 (0, 0))) (hs : cs.size = 4) (hd : ds.size = 6) :
    (results Try.f40 tmps).run Try.prog w = .ok (.tuple #[.agg cs, .agg ds]) w := by
  have h2' : tmps[2]?.getD undef = .pointer (some ⟨g, 0, none⟩) := by simpa using h2
  have h3' : tmps[3]?.getD undef = .pointer (some ⟨h, 0, none⟩) := by simpa using h3
  have r1 := run_loadVar_row (P := Try.prog) w g 56 56 cs (0, 0) _ HO Try.underlying56 rfl (by rw [hs]; exact size56)
  have r2 := run_loadVar_row (P := Try.prog) w h 49 49 ds (0, 0) _ HP Try.underlying49 rfl (by rw [hd]; exact size49)
  simp [results, Try.results40, h2', h3', asAddr, r1, r2]

theorem numS_ok {b : List Int} {a B N lo hi x p : Int} (h : numP b a N lo hi = .ok x p) : numS b (a, 0, B) N lo hi = ((p, 0, B), x) := by
  unfold numS; rw [if_neg (by simp)]; dsimp only; rw [h]
theorem numS_err {b : List Int} {a B N lo hi E p : Int} (h : numP b a N lo hi = .err E p) : numS b (a, 0, B) N lo hi = ((a, E, p), 0) := by
  unfold numS; rw [if_neg (by simp)]; dsimp only; rw [h]
theorem numS_idle {b : List Int} {a E B N lo hi : Int} (h : E ≠ 0) : numS b (a, E, B) N lo hi = ((a, E, B), 0) := by
  unfold numS; rw [if_pos h]

set_option maxRecDepth 100000 in
set_option maxHeartbeats 1000000 in
theorem snode_st (ao : Option Addr) (c : Nat) (b : List Int) (a B : Int) (w : World) (hI : SIn w (.slice ao b.length c) b) (ha : 0 ≤ a ∧ a ≤ b.length)
    (a1 E1 B1 x0 a2 E2 B2 x1 a3 E3 B3 x2 a4 E4 B4 x3 a5 E5 B5 x4 a6 E6 B6 x5 : Int)
    (h0 : Hid (numS b (a, 0, B) 1 0 255 = ((a1, E1, B1), x0))) (h1 : Hid (numS b (a1, E1, B1) 1 0 255 = ((a2, E2, B2), x1))) (h2 : Hid (numS b (a2, E2, B2) 8 0 18446744073709551615 = ((a3, E3, B3), x2)))
    (h3 : Hid (numS b (a3, E3, B3) 3 0 16777215 = ((a4, E4, B4), x3))) (h4 : Hid (numS b (a4, E4, B4) 3 0 16777215 = ((a5, E5, B5), x4))) (h5 : Hid (numS b (a5, E5, B5) 3 0 16777215 = ((a6, E6, B6), x5))) :
    Calls Try.prog 40 #[src ao b.length c a 0 B] w fun en w' => en = .returned (.tuple #[src ao b.length c a6 E6 B6, .agg #[.int .i64 x0, .int .i64 x1, .int .u64 x2, .int .i64 x3, .int .i64 x4, .int .i64 x5]]) ∧ Below w.heap.size w w' := by
  have g0 : (0 : Int) = 0 → 0 ≤ a ∧ a ≤ b.length := fun _ => ha
  obtain ⟨y0, z0, g1⟩ := numS_bd hI.byte h0.out g0 (by decide) (by decide)
  obtain ⟨y1, z1, g2⟩ := numS_bd hI.byte h1.out g1 (by decide) (by decide)
  obtain ⟨y2, z2, g3⟩ := numS_bd hI.byte h2.out g2 (by decide) (by decide)
  obtain ⟨y3, z3, g4⟩ := numS_bd hI.byte h3.out g3 (by decide) (by decide)
  obtain ⟨y4, z4, g5⟩ := numS_bd hI.byte h4.out g4 (by decide) (by decide)
  obtain ⟨y5, z5, g6⟩ := numS_bd hI.byte h5.out g5 (by decide) (by decide)
  clear g6 z2
  obtain ⟨H1, H2, H3, H4, HB⟩ := alloc4 w (.cells #[.slice ao b.length c, .int .i64 a, .int .i64 0, .int .i64 B] 56) (.cells #[.slice none 0 0, .int .i64 0, .int .i64 0, .int .i64 0] 56) (.cells #[.int .i64 0, .int .i64 0, .int .u64 0, .int .i64 0, .int .i64 0, .int .i64 0] 49) (.cells #[.int .i64 0, .int .i64 0, .int .u64 0, .int .i64 0, .int .i64 0, .int .i64 0] 49)
  rw [heap_alloc_new] at H1 H2 H3 H4
  go_enter Try.func40, Try.ntmps40
  (repeat (first | with_reducible refine xThenN ?_ | with_reducible refine xThenE ?_ | with_reducible refine xThenR ?_ | with_reducible refine xThenP ?_ | with_reducible refine xBlockEq ?_ | with_reducible refine xBlockNe rfl ?_ | with_reducible refine xBlockN ?_ | with_reducible refine xBlockR ?_ | with_reducible refine xBlockP ?_ | (go_at_call 26; (with_reducible refine (snum_any _ _ _ _ _ _ _ _ _ _ (hI.below HB) g0 (by decide) (by decide) _ _ _ _ h0).mono ?_); rintro _ w1 ⟨rfl, hb⟩; replace H1 := (hb.block _ (lt_of_block H1)).trans H1; replace H2 := (hb.block _ (lt_of_block H2)).trans H2; replace H3 := (hb.block _ (lt_of_block H3)).trans H3; replace H4 := (hb.block _ (lt_of_block H4)).trans H4; replace HB := HB.trans (hb.mono HB.size); clear hb) | (go_at_call 26; (with_reducible refine (snum_any _ _ _ _ _ _ _ _ _ _ (hI.below HB) g1 (by decide) (by decide) _ _ _ _ h1).mono ?_); rintro _ w1 ⟨rfl, hb⟩; replace H1 := (hb.block _ (lt_of_block H1)).trans H1; replace H2 := (hb.block _ (lt_of_block H2)).trans H2; replace H3 := (hb.block _ (lt_of_block H3)).trans H3; replace H4 := (hb.block _ (lt_of_block H4)).trans H4; replace HB := HB.trans (hb.mono HB.size); clear hb) | (go_at_call 26; (with_reducible refine (snum_any _ _ _ _ _ _ _ _ _ _ (hI.below HB) g2 (by decide) (by decide) _ _ _ _ h2).mono ?_); rintro _ w1 ⟨rfl, hb⟩; replace H1 := (hb.block _ (lt_of_block H1)).trans H1; replace H2 := (hb.block _ (lt_of_block H2)).trans H2; replace H3 := (hb.block _ (lt_of_block H3)).trans H3; replace H4 := (hb.block _ (lt_of_block H4)).trans H4; replace HB := HB.trans (hb.mono HB.size); clear hb) | ((with_reducible refine wl_id ?_); refine wl_store_row rfl 56 _ _ rfl _ rfl _ _ 56 rfl H1 size56 rfl (by simp [Value.oneCell']) ?_; intro w2 H12 hg2; clear H1; have H1 := H12; clear H12; replace H2 := keep_at hg2 H2 (fun e => by injection e with e; omega); replace H3 := keep_at hg2 H3 (fun e => by injection e with e; omega); replace H4 := keep_at hg2 H4 (fun e => by injection e with e; omega); replace HB := Below.grown HB hg2 HB.size (fun k hk => by injection hk with hk; omega); clear hg2; (try simp only [Act.put, List.setIfInBounds_toArray, List.set_cons_succ, List.set_cons_zero])) | ((with_reducible refine wl_id ?_); refine wl_store_cell (v := .int .u64 _) rfl 46 _ _ rfl _ _ rfl _ 49 rfl H4 (fun w hg => st46 _ _ _ _ _ (by simp) w hg) ?_; intro w2 H42 hg2; (simp only [List.setIfInBounds_toArray, List.set_cons_succ, List.set_cons_zero] at H42); clear H4; have H4 := H42; clear H42; replace H1 := keep_at hg2 H1 (fun e => by injection e with e; omega); replace H2 := keep_at hg2 H2 (fun e => by injection e with e; omega); replace H3 := keep_at hg2 H3 (fun e => by injection e with e; omega); replace HB := Below.grown HB hg2 HB.size (fun k hk => by injection hk with hk; omega); clear hg2; (try simp only [Act.put, List.setIfInBounds_toArray, List.set_cons_succ, List.set_cons_zero])) | ((with_reducible refine wl_id ?_); refine wpList_load_row rfl 56 _ rfl _ rfl 56 _ (0, 0) _ H1 Try.underlying56 rfl size56 ?_; (try simp only [Act.put, List.setIfInBounds_toArray, List.set_cons_succ, List.set_cons_zero])) | go_values | go_skip | go_guarded | go_step | go_upon | go_back | (dsimp only)))
  refine wp_loop_rounds 4 ?_
  (repeat (first | with_reducible refine xThenN ?_ | with_reducible refine xThenE ?_ | with_reducible refine xThenR ?_ | with_reducible refine xThenP ?_ | with_reducible refine xBlockEq ?_ | with_reducible refine xBlockNe rfl ?_ | with_reducible refine xBlockN ?_ | with_reducible refine xBlockR ?_ | with_reducible refine xBlockP ?_ | rw [rounds_succ] | (go_at_call 26; (with_reducible refine (snum_any _ _ _ _ _ _ _ _ _ _ (hI.below HB) g3 (by decide) (by decide) _ _ _ _ h3).mono ?_); rintro _ w1 ⟨rfl, hb⟩; replace H1 := (hb.block _ (lt_of_block H1)).trans H1; replace H2 := (hb.block _ (lt_of_block H2)).trans H2; replace H3 := (hb.block _ (lt_of_block H3)).trans H3; replace H4 := (hb.block _ (lt_of_block H4)).trans H4; replace HB := HB.trans (hb.mono HB.size); clear hb; have hb := Below.alloc (Below.refl w1.heap.size w1) (Nat.le_refl _) (.cells #[.slice ao b.length c, .int .i64 a4, .int .i64 E4, .int .i64 B4] 56); replace H1 := (hb.block _ (lt_of_block H1)).trans H1; replace H2 := (hb.block _ (lt_of_block H2)).trans H2; replace H3 := (hb.block _ (lt_of_block H3)).trans H3; replace H4 := (hb.block _ (lt_of_block H4)).trans H4; replace HB := HB.trans (hb.mono HB.size); clear hb) | (go_at_call 26; (with_reducible refine (snum_any _ _ _ _ _ _ _ _ _ _ (hI.below HB) g4 (by decide) (by decide) _ _ _ _ h4).mono ?_); rintro _ w1 ⟨rfl, hb⟩; replace H1 := (hb.block _ (lt_of_block H1)).trans H1; replace H2 := (hb.block _ (lt_of_block H2)).trans H2; replace H3 := (hb.block _ (lt_of_block H3)).trans H3; replace H4 := (hb.block _ (lt_of_block H4)).trans H4; replace HB := HB.trans (hb.mono HB.size); clear hb; have hb := Below.alloc (Below.refl w1.heap.size w1) (Nat.le_refl _) (.cells #[.slice ao b.length c, .int .i64 a5, .int .i64 E5, .int .i64 B5] 56); replace H1 := (hb.block _ (lt_of_block H1)).trans H1; replace H2 := (hb.block _ (lt_of_block H2)).trans H2; replace H3 := (hb.block _ (lt_of_block H3)).trans H3; replace H4 := (hb.block _ (lt_of_block H4)).trans H4; replace HB := HB.trans (hb.mono HB.size); clear hb) | (go_at_call 26; (with_reducible refine (snum_any _ _ _ _ _ _ _ _ _ _ (hI.below HB) g5 (by decide) (by decide) _ _ _ _ h5).mono ?_); rintro _ w1 ⟨rfl, hb⟩; replace H1 := (hb.block _ (lt_of_block H1)).trans H1; replace H2 := (hb.block _ (lt_of_block H2)).trans H2; replace H3 := (hb.block _ (lt_of_block H3)).trans H3; replace H4 := (hb.block _ (lt_of_block H4)).trans H4; replace HB := HB.trans (hb.mono HB.size); clear hb; have hb := Below.alloc (Below.refl w1.heap.size w1) (Nat.le_refl _) (.cells #[.slice ao b.length c, .int .i64 a6, .int .i64 E6, .int .i64 B6] 56); replace H1 := (hb.block _ (lt_of_block H1)).trans H1; replace H2 := (hb.block _ (lt_of_block H2)).trans H2; replace H3 := (hb.block _ (lt_of_block H3)).trans H3; replace H4 := (hb.block _ (lt_of_block H4)).trans H4; replace HB := HB.trans (hb.mono HB.size); clear hb) | ((with_reducible refine wl_id ?_); refine wl_store_row rfl 56 _ _ rfl _ rfl _ _ 56 rfl H1 size56 rfl (by simp [Value.oneCell']) ?_; intro w2 H12 hg2; clear H1; have H1 := H12; clear H12; replace H2 := keep_at hg2 H2 (fun e => by injection e with e; omega); replace H3 := keep_at hg2 H3 (fun e => by injection e with e; omega); replace H4 := keep_at hg2 H4 (fun e => by injection e with e; omega); replace HB := Below.grown HB hg2 HB.size (fun k hk => by injection hk with hk; omega); clear hg2; (try simp only [Act.put, List.setIfInBounds_toArray, List.set_cons_succ, List.set_cons_zero])) | ((with_reducible refine wl_id ?_); refine wl_store_cell (v := .int .i64 _) rfl 3 _ _ rfl _ _ rfl _ 49 rfl H4 (fun w hg => st3 _ _ _ _ _ (by simp) w hg) ?_; intro w2 H42 hg2; (simp only [List.setIfInBounds_toArray, List.set_cons_succ, List.set_cons_zero] at H42); clear H4; have H4 := H42; clear H42; replace H1 := keep_at hg2 H1 (fun e => by injection e with e; omega); replace H2 := keep_at hg2 H2 (fun e => by injection e with e; omega); replace H3 := keep_at hg2 H3 (fun e => by injection e with e; omega); replace HB := Below.grown HB hg2 HB.size (fun k hk => by injection hk with hk; omega); clear hg2; (try simp only [Act.put, List.setIfInBounds_toArray, List.set_cons_succ, List.set_cons_zero])) | ((with_reducible refine wl_id ?_); refine wpList_load_row rfl 56 _ rfl _ rfl 56 _ (0, 0) _ H1 Try.underlying56 rfl size56 ?_; (try simp only [Act.put, List.setIfInBounds_toArray, List.set_cons_succ, List.set_cons_zero])) | go_values | go_skip | go_guarded | go_step | go_upon | go_back | (dsimp only)))
  refine wp_region_held (S := fun u => u.heap[w.heap.size]? = some (.cells #[.slice ao b.length c, .int .i64 a6, .int .i64 E6, .int .i64 B6] 56 (0, 0)) ∧ u.heap[w.heap.size + 1 + 1 + 1]? = some (.cells #[.int .i64 x0, .int .i64 x1, .int .u64 x2, .int .i64 x3, .int .i64 x4, .int .i64 x5] 49 (0, 0))) (by kernel_rfl) ?_
  replace H1 : ({ w2 with drawn := w2.drawn + 1 } : World).heap[w.heap.size]? = _ := H1
  replace H2 : ({ w2 with drawn := w2.drawn + 1 } : World).heap[w.heap.size + 1]? = _ := H2
  replace H3 : ({ w2 with drawn := w2.drawn + 1 } : World).heap[w.heap.size + 1 + 1]? = _ := H3
  replace H4 : ({ w2 with drawn := w2.drawn + 1 } : World).heap[w.heap.size + 1 + 1 + 1]? = _ := H4
  replace HB : Below w.heap.size w ({ w2 with drawn := w2.drawn + 1 } : World) := ⟨HB.os, HB.tape, HB.output, HB.size, HB.block⟩
  generalize ({ w2 with drawn := w2.drawn + 1 } : World) = u3 at *
  refine wpAnyH_take (i := 0) rfl (by kernel_rfl) (by kernel_rfl) (by kernel_rfl) (fun _ _ _ h => h) (yields_row (fun _ h => h.1) rfl _ rfl rfl Try.underlying56 size56) ⟨H1, H4⟩ ?_
  simp only [Act.put, List.setIfInBounds_toArray, List.set_cons_succ, List.set_cons_zero]
  refine wpAnyH_take (i := 1) rfl (by kernel_rfl) (by kernel_rfl) (by kernel_rfl) (fun _ _ _ h => h) (yields_row (fun _ h => h.2) rfl _ rfl rfl Try.underlying49 size49) ⟨H1, H4⟩ ?_
  simp only [Act.put, List.setIfInBounds_toArray, List.set_cons_succ, List.set_cons_zero]
  refine wpAnyH_all (rs := [2]) (by kernel_rfl) (by simp) (fun i hi => ?_)
  obtain rfl : i = 2 := by simpa using hi
  refine wpOp_one rfl ?_
  (repeat (first | with_reducible refine xThenN ?_ | with_reducible refine xThenE ?_ | with_reducible refine xThenR ?_ | with_reducible refine xThenP ?_ | with_reducible refine xBlockEq ?_ | with_reducible refine xBlockNe rfl ?_ | with_reducible refine xBlockN ?_ | with_reducible refine xBlockR ?_ | with_reducible refine xBlockP ?_ | ((with_reducible refine wl_id ?_); refine wl_store_row rfl 56 _ _ rfl _ rfl _ _ 56 rfl H2 size56 rfl (by simp [Value.oneCell']) ?_; intro w2 H12 hg2; clear H2; have H2 := H12; clear H12; replace H1 := keep_at hg2 H1 (fun e => by injection e with e; omega); replace H3 := keep_at hg2 H3 (fun e => by injection e with e; omega); replace H4 := keep_at hg2 H4 (fun e => by injection e with e; omega); replace HB := Below.grown HB hg2 HB.size (fun k hk => by injection hk with hk; omega); clear hg2; (try simp only [Act.put, List.setIfInBounds_toArray, List.set_cons_succ, List.set_cons_zero])) | go_values | go_skip | go_guarded | go_step | go_upon | go_back | (dsimp only)))
  refine ⟨⟨H1, H4⟩, ?_⟩
  refine wpAnyH_all (rs := [3]) (by kernel_rfl) (by simp) (fun i hi => ?_)
  obtain rfl : i = 3 := by simpa using hi
  refine wpOp_one rfl ?_
  (repeat (first | with_reducible refine xThenN ?_ | with_reducible refine xThenE ?_ | with_reducible refine xThenR ?_ | with_reducible refine xThenP ?_ | with_reducible refine xBlockEq ?_ | with_reducible refine xBlockNe rfl ?_ | with_reducible refine xBlockN ?_ | with_reducible refine xBlockR ?_ | with_reducible refine xBlockP ?_ | ((with_reducible refine wl_id ?_); refine wl_store_row rfl 49 _ _ rfl _ rfl _ _ 49 rfl H3 size49 rfl (by simp [Value.oneCell']) ?_; intro w2 H12 hg2; clear H3; have H3 := H12; clear H12; replace H1 := keep_at hg2 H1 (fun e => by injection e with e; omega); replace H2 := keep_at hg2 H2 (fun e => by injection e with e; omega); replace H4 := keep_at hg2 H4 (fun e => by injection e with e; omega); replace HB := Below.grown HB hg2 HB.size (fun k hk => by injection hk with hk; omega); clear hg2; (try simp only [Act.put, List.setIfInBounds_toArray, List.set_cons_succ, List.set_cons_zero])) | go_values | go_skip | go_guarded | go_step | go_upon | go_back | (dsimp only)))
  refine ⟨⟨H1, H4⟩, ?_⟩
  refine wpAnyH_done (by kernel_rfl) ?_ _
  (repeat (first | with_reducible refine xThenN ?_ | with_reducible refine xThenE ?_ | with_reducible refine xThenR ?_ | with_reducible refine xThenP ?_ | with_reducible refine xBlockEq ?_ | with_reducible refine xBlockNe rfl ?_ | with_reducible refine xBlockN ?_ | with_reducible refine xBlockR ?_ | with_reducible refine xBlockP ?_ | go_values | go_skip | go_guarded | go_step | go_upon | go_back | (dsimp only)))
  exact bodyPost_ret (res40 _ _ _ _ _ _ rfl rfl H2 H3 rfl rfl) rfl ⟨rfl, HB⟩

theorem snode_ok (ao : Option Addr) (c : Nat) (b : List Int) (a B : Int) (w : World) (hI : SIn w (.slice ao b.length c) b) (ha : 0 ≤ a ∧ a ≤ b.length) (x0 x1 x2 x3 x4 x5 p : Int) (hr : Hid (nodeP b a = .ok ⟨x0, x1, x2, x3, x4, x5⟩ p)) :
    Calls Try.prog 40 #[src ao b.length c a 0 B] w fun en w' => en = .returned (.tuple #[src ao b.length c p 0 B, .agg #[.int .i64 x0, .int .i64 x1, .int .u64 x2, .int .i64 x3, .int .i64 x4, .int .i64 x5]]) ∧ Below w.heap.size w w' := by
  have h := hr.out
  unfold nodeP at h
  split at h
  · cases h
  rename_i e0
  split at h
  · cases h
  rename_i e1
  split at h
  · cases h
  rename_i e2
  split at h
  · cases h
  rename_i e3
  split at h
  · cases h
  rename_i e4
  split at h
  · cases h
  rename_i e5
  injection h with h1 h2
  injection h1 with j0 j1 j2 j3 j4 j5
  subst j0; subst j1; subst j2; subst j3; subst j4; subst j5; subst h2
  exact snode_st ao c b a B w hI ha _ _ _ _ _ _ _ _ _ _ _ _ _ _ _ _ _ _ _ _ _ _ _ _ (Lib.hid (numS_ok e0)) (Lib.hid (numS_ok e1)) (Lib.hid (numS_ok e2)) (Lib.hid (numS_ok e3)) (Lib.hid (numS_ok e4)) (Lib.hid (numS_ok e5))
theorem snode_err (ao : Option Addr) (c : Nat) (b : List Int) (a B : Int) (w : World) (hI : SIn w (.slice ao b.length c) b) (ha : 0 ≤ a ∧ a ≤ b.length) (E p : Int) (hr : Hid (nodeP b a = .err E p)) :
    Calls Try.prog 40 #[src ao b.length c a 0 B] w fun en w' => ∃ a' y0 y1 y2 y3 y4 y5 : Int, en = .returned (.tuple #[src ao b.length c a' E p, .agg #[.int .i64 y0, .int .i64 y1, .int .u64 y2, .int .i64 y3, .int .i64 y4, .int .i64 y5]]) ∧ Below w.heap.size w w' := by
  have h := hr.out
  unfold nodeP at h
  split at h
  · rename_i e0
    injection h with j1 j2; subst j1; subst j2
    have hz := numP_nz e0
    exact (snode_st ao c b a B w hI ha _ _ _ _ _ _ _ _ _ _ _ _ _ _ _ _ _ _ _ _ _ _ _ _ (Lib.hid (numS_err e0)) (Lib.hid (numS_idle hz)) (Lib.hid (numS_idle hz)) (Lib.hid (numS_idle hz)) (Lib.hid (numS_idle hz)) (Lib.hid (numS_idle hz))).mono fun _ _ h => ⟨_, _, _, _, _, _, _, h⟩
  rename_i e0
  split at h
  · rename_i e1
    injection h with j1 j2; subst j1; subst j2
    have hz := numP_nz e1
    exact (snode_st ao c b a B w hI ha _ _ _ _ _ _ _ _ _ _ _ _ _ _ _ _ _ _ _ _ _ _ _ _ (Lib.hid (numS_ok e0)) (Lib.hid (numS_err e1)) (Lib.hid (numS_idle hz)) (Lib.hid (numS_idle hz)) (Lib.hid (numS_idle hz)) (Lib.hid (numS_idle hz))).mono fun _ _ h => ⟨_, _, _, _, _, _, _, h⟩
  rename_i e1
  split at h
  · rename_i e2
    injection h with j1 j2; subst j1; subst j2
    have hz := numP_nz e2
    exact (snode_st ao c b a B w hI ha _ _ _ _ _ _ _ _ _ _ _ _ _ _ _ _ _ _ _ _ _ _ _ _ (Lib.hid (numS_ok e0)) (Lib.hid (numS_ok e1)) (Lib.hid (numS_err e2)) (Lib.hid (numS_idle hz)) (Lib.hid (numS_idle hz)) (Lib.hid (numS_idle hz))).mono fun _ _ h => ⟨_, _, _, _, _, _, _, h⟩
  rename_i e2
  split at h
  · rename_i e3
    injection h with j1 j2; subst j1; subst j2
    have hz := numP_nz e3
    exact (snode_st ao c b a B w hI ha _ _ _ _ _ _ _ _ _ _ _ _ _ _ _ _ _ _ _ _ _ _ _ _ (Lib.hid (numS_ok e0)) (Lib.hid (numS_ok e1)) (Lib.hid (numS_ok e2)) (Lib.hid (numS_err e3)) (Lib.hid (numS_idle hz)) (Lib.hid (numS_idle hz))).mono fun _ _ h => ⟨_, _, _, _, _, _, _, h⟩
  rename_i e3
  split at h
  · rename_i e4
    injection h with j1 j2; subst j1; subst j2
    have hz := numP_nz e4
    exact (snode_st ao c b a B w hI ha _ _ _ _ _ _ _ _ _ _ _ _ _ _ _ _ _ _ _ _ _ _ _ _ (Lib.hid (numS_ok e0)) (Lib.hid (numS_ok e1)) (Lib.hid (numS_ok e2)) (Lib.hid (numS_ok e3)) (Lib.hid (numS_err e4)) (Lib.hid (numS_idle hz))).mono fun _ _ h => ⟨_, _, _, _, _, _, _, h⟩
  rename_i e4
  split at h
  · rename_i e5
    injection h with j1 j2; subst j1; subst j2
    exact (snode_st ao c b a B w hI ha _ _ _ _ _ _ _ _ _ _ _ _ _ _ _ _ _ _ _ _ _ _ _ _ (Lib.hid (numS_ok e0)) (Lib.hid (numS_ok e1)) (Lib.hid (numS_ok e2)) (Lib.hid (numS_ok e3)) (Lib.hid (numS_ok e4)) (Lib.hid (numS_err e5))).mono fun _ _ h => ⟨_, _, _, _, _, _, _, h⟩
  · cases h

end Go.Proofs.Ytcffgbmgjdhkjaa
