import Derived.Test.YtcffgbmgjdhkjaaAC
set_option linter.unusedSimpArgs false
set_option linter.unusedVariables false
namespace Go.Proofs.Ytcffgbmgjdhkjaa
open Go.RowKit

theorem conv_str (v : Value) (l : List Int) (w : World) (h : SlIs 1 u8c w v l) : (convert 28 9 v).run Try.prog w = .ok (.string (strOfNums l)) w := by
  obtain ⟨ao, cap, rfl, hc, hn, h4⟩ := h
  by_cases e : l = []
  · subst e
    rcases ao with _ | ⟨b, o, k⟩
    · have := hn rfl
      subst this
      exact run_convert_bytes_nil w 28 5 Try.underlying28 Try.underlying5 0 0 9 Try.underlying9
    · show (convert 28 9 (.slice (some ⟨b, o, k⟩) 0 cap)).run Try.prog w = _
      rw [run_convert_bytes_string w 28 9 5 (some ⟨b, o, k⟩) 0 cap Try.underlying28 Try.underlying5 Try.underlying9, run_bytesToString w ⟨b, o, k⟩ 0 cap [] (by simp [loadCells, loadCellsFrom])]
      rfl
  · obtain ⟨b, o, rfl, hr⟩ := h4 e
    refine run_convert_bytes_arg w 28 5 Try.underlying28 Try.underlying5 b o l.length cap l rfl (fun i hi => ?_) 9 Try.underlying9
    have := hr i l[i] (List.getElem?_eq_getElem hi) 0 _ rfl
    simp only [Nat.one_mul, Nat.add_zero] at this
    rw [this]
    simp [List.getD, hi]

theorem strOf_inj {a b : List Int} (ha : ByteL a) (hb : ByteL b) (h : strOfNums a = strOfNums b) : a = b := by
  have e : a.map (fun n => UInt8.ofNat n.toNat) = b.map (fun n => UInt8.ofNat n.toNat) := by
    have := congrArg (fun s : ByteArray => s.data.toList) h
    simpa [strOfNums] using this
  have hl : a.length = b.length := by simpa using congrArg List.length e
  refine List.ext_getElem hl fun i h1 h2 => ?_
  have e2 := congrArg (fun l : List UInt8 => l[i]?) e
  simp [h1, h2] at e2
  have h3 := ha a[i] (List.getElem_mem h1)
  have h4 := hb b[i] (List.getElem_mem h2)
  have e3 := congrArg UInt8.toNat e2
  simp only [UInt8.toNat_ofNat'] at e3
  omega

set_option maxRecDepth 100000 in
theorem catch2_stop (pe pa : Addr) (x y E p : Int) (older : List PanicEntry) (w : World) (hc : w.cell? pe = some (.int .i64 x)) (hz : w.frozen? pe = false) (hc2 : w.cell? pa = some (.int .i64 y)) (hz2 : w.frozen? pa = false) (hne : pe.block ≠ pa.block) :
    CallsD Try.prog 35 #[.pointer (some pe), .pointer (some pa)] (.panicking ({ v := .iface 76 (.agg #[.int .i64 E, .int .i64 p]), recovered := false } :: older)) w fun e u' w' =>
      e = .returned (.tuple #[]) ∧ u' = .panicking ({ v := .iface 76 (.agg #[.int .i64 E, .int .i64 p]), recovered := true } :: older) ∧ ∃ w1, Below w.heap.size w w1 ∧ w' = (w1.setCell pe (.int .i64 E)).setCell pa (.int .i64 p) := by
  refine callsD_of_wpS Try.func35 rfl fun c₀ cs hu => ?_
  have e : #[Value.pointer (some pe), Value.pointer (some pa)] ++ Array.replicate (Try.f35.ntmps - #[Value.pointer (some pe), Value.pointer (some pa)].size) undef = #[.pointer (some pe), .pointer (some pa), undef, undef, undef, undef, undef, undef, undef, undef, undef] := by rw [Try.ntmps35]; rfl
  rw [e]
  apply wpS_seq
  apply wpS_region
  simp [wpOpsS, go_sem, recoverD, hu, Exit.thenS]
  refine wpS_of_wp ?_
  have Hne := Lib.hid hne
  clear hne
  (repeat (first | with_reducible refine xThenN ?_ | with_reducible refine xThenE ?_ | with_reducible refine xThenR ?_ | with_reducible refine xThenP ?_ | with_reducible refine xBlockEq ?_ | with_reducible refine xBlockNe rfl ?_ | with_reducible refine xBlockN ?_ | with_reducible refine xBlockR ?_ | with_reducible refine xBlockP ?_ | (go_at_call 30; (with_reducible refine (told_any _ _ _).mono ?_); rintro e w1 ⟨rfl, hb⟩; have hc1 := cell_keep hb hc; have hz1 := (hb.frozen (World.block_lt_of_cell? w _ hc)).trans hz; have hc3 := (World.cell?_of_block (w := w1) (a := pa) (Below.heap_setCell w1 pe (.int .i64 E) pa.block (Ne.symm Hne.out))).trans (cell_keep hb hc2); have hz3 := (World.frozen?_of_block (w := w1) (a := pa) (Below.heap_setCell w1 pe (.int .i64 E) pa.block (Ne.symm Hne.out))).trans ((hb.frozen (World.block_lt_of_cell? w _ hc2)).trans hz2); clear hc hz hc2 hz2) | go_values | go_skip | go_guarded | go_step | go_upon | go_back | (dsimp only)))
  exact ⟨rfl, _, rfl, _, results_none rfl _ _ _, rfl, rfl, w1, hb, rfl⟩

set_option maxRecDepth 100000 in
theorem catch2_idle (pe pa : Addr) (w : World) :
    CallsD Try.prog 35 #[.pointer (some pe), .pointer (some pa)] .returning w fun e u' w' => e = .returned (.tuple #[]) ∧ u' = .returning ∧ w' = w := by
  refine callsD_of_wpS Try.func35 rfl fun c₀ cs hu => ?_
  have e : #[Value.pointer (some pe), Value.pointer (some pa)] ++ Array.replicate (Try.f35.ntmps - #[Value.pointer (some pe), Value.pointer (some pa)].size) undef = #[.pointer (some pe), .pointer (some pa), undef, undef, undef, undef, undef, undef, undef, undef, undef] := by rw [Try.ntmps35]; rfl
  rw [e]
  apply wpS_seq
  apply wpS_region
  simp [wpOpsS, go_sem, recoverD, hu, Exit.thenS]
  refine wpS_of_wp ?_
  (repeat (first | with_reducible refine xThenN ?_ | with_reducible refine xThenE ?_ | with_reducible refine xThenR ?_ | with_reducible refine xThenP ?_ | with_reducible refine xBlockEq ?_ | with_reducible refine xBlockNe rfl ?_ | with_reducible refine xBlockN ?_ | with_reducible refine xBlockR ?_ | with_reducible refine xBlockP ?_ | go_values | go_skip | go_guarded | go_step | go_upon | go_back | (dsimp only)))
  refine ⟨rfl, .returning, ?_, _, results_none rfl _ _ _, rfl, rfl, rfl⟩
  cases c₀; simp_all

theorem ld3v (w : World) (b : Nat) (x : Int) (h : w.cell? ⟨b, 0, none⟩ = some (.int .i64 x)) : (loadVar 3 ⟨b, 0, none⟩).run Try.prog w = .ok (.int .i64 x) w := by go_simp

theorem res18 (tmps : Array Value) (w : World) (g : Nat) (cs : Array Value) (x y : Int) (h2 : tmps.getD 2 undef = .pointer (some ⟨g, 0, none⟩)) (h3 : tmps.getD 3 undef = .pointer (some ⟨g + 1, 0, none⟩)) (h4 : tmps.getD 4 undef = .pointer (some ⟨g + 1 + 1, 0, none⟩))
    (HO : w.heap[g]? = some (.cells cs 25 (0, 0))) (hs : cs.size = 4) (hE : w.cell? ⟨g + 1, 0, none⟩ = some (.int .i64 x)) (hA : w.cell? ⟨g + 1 + 1, 0, none⟩ = some (.int .i64 y)) :
    (results Try.f18 tmps).run Try.prog w = .ok (.tuple #[.agg cs, .int .i64 x, .int .i64 y]) w := by
  have h2' : tmps[2]?.getD undef = .pointer (some ⟨g, 0, none⟩) := by simpa using h2
  have h3' : tmps[3]?.getD undef = .pointer (some ⟨g + 1, 0, none⟩) := by simpa using h3
  have h4' : tmps[4]?.getD undef = .pointer (some ⟨g + 1 + 1, 0, none⟩) := by simpa using h4
  have r1 := run_loadVar_row (P := Try.prog) w g 25 25 cs (0, 0) _ HO Try.underlying25 rfl (by rw [hs]; exact size25)
  simp [results, Try.results18, h2', h3', h4', asAddr, r1, ld22 w (g + 1) x hE, ld3v w (g + 1 + 1) y hA]

theorem door_panic18 {R : Ending → World → Prop} {tmps : Array Value} {w1 : World} {g : Nat} {cs : Array Value} {x y E p : Int} (h2 : tmps.getD 2 undef = .pointer (some ⟨g, 0, none⟩)) (h3 : tmps.getD 3 undef = .pointer (some ⟨g + 1, 0, none⟩)) (h4 : tmps.getD 4 undef = .pointer (some ⟨g + 1 + 1, 0, none⟩))
    (HO : w1.heap[g]? = some (.cells cs 25 (0, 0))) (hs : cs.size = 4) (HE : w1.heap[g + 1]? = some (.cells #[.int .i64 x] 22 (0, 0))) (HA : w1.heap[g + 1 + 1]? = some (.cells #[.int .i64 y] 3 (0, 0)))
    (h : ∀ w2, Below g w1 w2 → R (.returned (.tuple #[.agg cs, .int .i64 E, .int .i64 p])) w2) :
    bodyPostD Try.prog Try.f18 R (Exit.panic [{ v := .iface 76 (.agg #[.int .i64 E, .int .i64 p]), recovered := false }]) { tmps := tmps, defers := [{ target := Target.fn (Fn.func 35) #[.pointer (some ⟨g + 1, 0, none⟩), .pointer (some ⟨g + 1 + 1, 0, none⟩)], args := #[] }] } w1 := by
  refine leaves_cons (f := 35) (args := #[.pointer (some ⟨g + 1, 0, none⟩), .pointer (some ⟨g + 1 + 1, 0, none⟩)]) (by simp) (by simp [go_sem]) ?_
  refine (catch2_stop ⟨g + 1, 0, none⟩ ⟨g + 1 + 1, 0, none⟩ x y E p [] _ (cell_of_one HE) (free_of_one HE) (cell_of_one HA) (free_of_one HA) (by simp)).mono ?_
  rintro e u' w'' ⟨rfl, rfl, w2, hb, rfl⟩
  have HO2 := (hb.block _ (lt_of_block HO)).trans HO
  have HE2 := (hb.block _ (lt_of_block HE)).trans HE
  have HA2 := (hb.block _ (lt_of_block HA)).trans HA
  have HE3 := one_setCell (u := .int .i64 E) HE2
  have HA3 : (w2.setCell ⟨g + 1, 0, none⟩ (.int .i64 E)).heap[g + 1 + 1]? = _ := (Below.heap_setCell w2 _ _ _ (by simp)).trans HA2
  have HO3 : (w2.setCell ⟨g + 1, 0, none⟩ (.int .i64 E)).heap[g]? = _ := (Below.heap_setCell w2 _ _ _ (by simp)).trans HO2
  have HA4 := one_setCell (u := .int .i64 p) HA3
  have HO4 : ((w2.setCell ⟨g + 1, 0, none⟩ (.int .i64 E)).setCell ⟨g + 1 + 1, 0, none⟩ (.int .i64 p)).heap[g]? = _ := (Below.heap_setCell _ _ _ _ (by simp; omega)).trans HO3
  have HE4 : ((w2.setCell ⟨g + 1, 0, none⟩ (.int .i64 E)).setCell ⟨g + 1 + 1, 0, none⟩ (.int .i64 p)).heap[g + 1]? = _ := (Below.heap_setCell _ _ _ _ (by simp)).trans HE3
  refine ⟨_, res18 _ _ _ _ _ _ h2 h3 h4 HO4 hs (cell_of_one HE4) (cell_of_one HA4), h _ ?_⟩
  have hlt := lt_of_block HO
  exact Below.setCell (Below.setCell (hb.mono (by omega)) (by simp) _) (by simp; omega) _

theorem door_ret18 {R : Ending → World → Prop} {tmps : Array Value} {w1 : World} {g : Nat} {cs : Array Value} {x y : Int} (h2 : tmps.getD 2 undef = .pointer (some ⟨g, 0, none⟩)) (h3 : tmps.getD 3 undef = .pointer (some ⟨g + 1, 0, none⟩)) (h4 : tmps.getD 4 undef = .pointer (some ⟨g + 1 + 1, 0, none⟩))
    (HO : w1.heap[g]? = some (.cells cs 25 (0, 0))) (hs : cs.size = 4) (HE : w1.heap[g + 1]? = some (.cells #[.int .i64 x] 22 (0, 0))) (HA : w1.heap[g + 1 + 1]? = some (.cells #[.int .i64 y] 3 (0, 0)))
    (h : R (.returned (.tuple #[.agg cs, .int .i64 x, .int .i64 y])) w1) :
    bodyPostD Try.prog Try.f18 R Exit.ret { tmps := tmps, defers := [{ target := Target.fn (Fn.func 35) #[.pointer (some ⟨g + 1, 0, none⟩), .pointer (some ⟨g + 1 + 1, 0, none⟩)], args := #[] }] } w1 := by
  refine leaves_cons (f := 35) (args := #[.pointer (some ⟨g + 1, 0, none⟩), .pointer (some ⟨g + 1 + 1, 0, none⟩)]) (by simp) (by simp [go_sem]) ?_
  refine (catch2_idle ⟨g + 1, 0, none⟩ ⟨g + 1 + 1, 0, none⟩ _).mono ?_
  rintro e u' w'' ⟨rfl, rfl, rfl⟩
  exact ⟨_, res18 _ _ _ _ _ _ h2 h3 h4 HO hs (cell_of_one HE) (cell_of_one HA), h⟩

end Go.Proofs.Ytcffgbmgjdhkjaa
