import Derived.Test.YtmaogkgjiplckaaGB
set_option linter.unusedSimpArgs false
set_option linter.unusedVariables false
namespace Go.Proofs.Ytmaogkgjiplckaa
open Go.RowKit

theorem keep_at {w w' : World} {r : Option Nat} {k : Nat} {o : Obj} (hg : w.grownBy w' r) (h : w.heap[k]? = some o) (hne : some k ≠ r) : w'.heap[k]? = some o := (hg.block k (lt_of_block h) hne).trans h

set_option maxRecDepth 100000 in
theorem say_any {X : Nat → Prop} {base gb ma mx : Nat} {g : G} {v : Value} {xs : List Value} (w : World) (h : GRep X base w gb g v ma mx xs) (bq : Nat) (ys : List Value) (cs : List (List Int)) (hm : 0 < ys.length) (hY : SlsX (fun k => ¬ X k ∧ k ≠ gb ∧ some k ≠ v.ownBlock) w ys cs)
    (hq : w.heap[bq]? = some (.cells ys.toArray 26 (0, 0))) (h1 : ∀ u ∈ ys, u.oneCell' = true) (hc : g.cl.length + cs.length ≤ 4 * g.n) (hb : base ≤ w.heap.size) :
    Calls Try.prog 101 #[.pointer (some ⟨gb, 0, none⟩), .slice (some ⟨bq, 0, none⟩) ys.length ys.length] w fun e w' => e = .returned (.tuple #[]) ∧ GR X base w' gb ⟨g.n, g.cl ++ cs, g.an, g.xo⟩ ∧ Kept X w w' := by
  obtain ⟨i0, hi0, hz0, hz1, hz2⟩ := info_parts info26
  obtain ⟨c0, c1, c2, c3, cf⟩ := box4g h.box
  have hnews : ∀ (j : Nat) (u : Value), ys[j]? = some u → w.cell? ((⟨bq, 0, none⟩ : Addr).add j) = some u := by simpa using World.news_of_block (w := w) hq
  have H := Lib.hid h
  have Hm := Lib.hid hm
  have Hc := Lib.hid hnews
  have H1 := Lib.hid h1
  have HB := Lib.hid hb
  have HY := Lib.hid hY
  have HC := Lib.hid hc
  have hxl : xs.length + ys.length ≤ 4194304 := by have := h.cls.1; have := hY.1; have := h.n1; omega
  have hl1 : xs.length + ys.length ≤ 9223372036854775807 := by omega
  have hl2 : (xs.length + ys.length) * 24 ≤ 2 ^ 47 := by omega
  clear h hm hnews h1 hb hY hc c0 c2 c3 cf hq hxl
  go_enter Try.func101, Try.ntmps101
  (repeat (first | (with_reducible first | refine xA ?_ | refine xB ?_ | refine xC ?_ | refine xD ?_ | refine xH ?_ | refine xI rfl ?_ | refine xE ?_ | refine xF ?_ | refine xG ?_) | go_skip | go_guarded | (at_builtin; refine wpList_append_lies (P := Try.prog) w rfl _ _ 55 rfl base 26 i0 _ 1 24 Try.underlying55 hi0 hz0 hz1 hz2 rfl (by decide) v xs.length xs rfl H.out.row ⟨bq, 0, none⟩ ys.length ys.length ys rfl (Nat.mul_one _).symm Hc.out H1.out Hm.out (by simp only [maxLen]; exact hl1) hl2 HB.out _ rfl ?_; intro q cap w1 hown hg hat hlt; clear hl1 hl2; have Hown := Lib.hid hown; have Hg := Lib.hid hg; have Hat := Lib.hid hat; have hbx := keep_at hg H.out.box (fun e => (H.out.apart.2.2 gb e).1 rfl); obtain ⟨c0, c1, c2, c3, cf⟩ := box4g hbx; have cf1 := cf 1; have hs := set_row (i := 1) (.slice (some ⟨q, 0, none⟩) (xs.length + ys.length) cap) hbx; have Hs := Lib.hid hs; clear hown hg hat hlt hbx hs cf c0 c2 c3; (try simp only [Act.put, List.setIfInBounds_toArray, List.set_cons_succ, List.set_cons_zero])) | go_values | go_skip | go_guarded | go_step | go_upon | go_back | ((with_reducible show Oper.upon _ _ _ _ _ _); go_simp) | (dsimp only)))
  have hb2 := Hs.out.1
  simp only [List.setIfInBounds_toArray, List.set_cons_succ, List.set_cons_zero] at hb2
  obtain ⟨r1, r2⟩ := H.out.said (by rw [List.length_append]; exact Hown.out) Hg.out Hat.out hb2 Hs.out.2 HY.out HC.out
  exact bodyPost_end (results_none rfl _ _ _) rfl ⟨rfl, ⟨_, _, _, _, r1⟩, r2⟩

theorem size130 : (Try.prog.info? 130).map (·.size) = some 2 := by kernel_rfl
theorem okI_of {x : Int} (h : -2000000 ≤ x ∧ x ≤ 2000000) : okI x := by unfold okI; omega
/-- what is known at a gate -/
theorem key_of {a b : Int} (ha : -1048576 ≤ a ∧ a ≤ 1048576) (hb : -1048576 ≤ b ∧ b ≤ 1048576) : okP (a, b) := ⟨okI_of (by omega), okI_of (by omega)⟩

set_option maxRecDepth 100000 in
set_option maxHeartbeats 1000000 in
theorem both_key {X : Nat → Prop} {base gb : Nat} {g : G} (w : World) (h : GR X base w gb g) (x y a b r : Int) (hx : -1048576 ≤ x ∧ x ≤ 1048576) (hy : -1048576 ≤ y ∧ y ≤ 1048576) (ea : min x y = a) (eb : max x y = b) (hr : bothKey a b = some r) :
    Calls Try.prog 64 #[.pointer (some ⟨gb, 0, none⟩), .int .i64 x, .int .i64 y] w fun e w' => e = .returned (.int .i64 r) ∧ w = w' := by
  have hab : (x = a ∧ y = b) ∨ (x = b ∧ y = a) := by omega
  have hle : a ≤ b := by omega
  clear h ea eb
  unfold bothKey at hr
  by_cases e1 : a = b
  · rw [if_pos (.inl e1)] at hr
    obtain rfl : x = r := by injection hr with hr; omega
    obtain rfl : x = y := by omega
    clear hr hab hle e1
    (go_enter Try.func64, Try.ntmps64; (repeat (first | (with_reducible first | refine xA ?_ | refine xB ?_ | refine xC ?_ | refine xD ?_ | refine xH ?_ | refine xI rfl ?_ | refine xE ?_ | refine xF ?_ | refine xG ?_) | go_values | go_skip | go_guarded | go_step | go_upon | go_back | ((with_reducible show Oper.upon _ _ _ _ _ _); go_simp) | (dsimp only))); go_ret; exact ⟨ret_int (by first | rfl | omega), rfl⟩)
  have hlt : a < b := by omega
  have hnl : ¬ b < a := by omega
  have f1 : (a == b) = false := by simpa using e1
  have f1' : (b == a) = false := by simp; omega
  by_cases e2 : b = 1
  · rw [if_pos (.inr e2)] at hr
    obtain rfl : a = r := by injection hr
    subst e2
    clear hr hle e1
    (rcases hab with ⟨rfl, rfl⟩ | ⟨rfl, rfl⟩ <;> (go_enter Try.func64, Try.ntmps64; (repeat (first | (with_reducible first | refine xA ?_ | refine xB ?_ | refine xC ?_ | refine xD ?_ | refine xH ?_ | refine xI rfl ?_ | refine xE ?_ | refine xF ?_ | refine xG ?_) | go_values | go_skip | go_guarded | go_step | go_upon | go_back | ((with_reducible show Oper.upon _ _ _ _ _ _); go_simp) | (dsimp only))); go_ret; exact ⟨ret_int (by first | rfl | omega), rfl⟩))
  have f2 : (b == 1) = false := by simpa using e2
  rw [if_neg (by omega)] at hr
  by_cases e3 : a = -b
  · rw [if_pos (.inl e3)] at hr
    obtain rfl : -1 = r := by injection hr
    subst e3
    clear hr hle e1 e2
    (rcases hab with ⟨rfl, rfl⟩ | ⟨rfl, rfl⟩ <;> (go_enter Try.func64, Try.ntmps64; (repeat (first | (with_reducible first | refine xA ?_ | refine xB ?_ | refine xC ?_ | refine xD ?_ | refine xH ?_ | refine xI rfl ?_ | refine xE ?_ | refine xF ?_ | refine xG ?_) | go_values | go_skip | go_guarded | go_step | go_upon | go_back | ((with_reducible show Oper.upon _ _ _ _ _ _); go_simp) | (dsimp only))); go_ret; exact ⟨ret_int (by first | rfl | omega), rfl⟩))
  have f3 : (a == -b) = false := by simpa using e3
  by_cases e4 : a = -1
  · rw [if_pos (.inr e4)] at hr
    obtain rfl : -1 = r := by injection hr
    subst e4
    clear hr hle e1 e2 e3
    (rcases hab with ⟨rfl, rfl⟩ | ⟨rfl, rfl⟩ <;> (go_enter Try.func64, Try.ntmps64; (repeat (first | (with_reducible first | refine xA ?_ | refine xB ?_ | refine xC ?_ | refine xD ?_ | refine xH ?_ | refine xI rfl ?_ | refine xE ?_ | refine xF ?_ | refine xG ?_) | go_values | go_skip | go_guarded | go_step | go_upon | go_back | ((with_reducible show Oper.upon _ _ _ _ _ _); go_simp) | (dsimp only))); go_ret; exact ⟨ret_int (by first | rfl | omega), rfl⟩))
  have f4 : (a == -1) = false := by simpa using e4
  rw [if_neg (by omega)] at hr
  by_cases e5 : a = 1
  · rw [if_pos e5] at hr
    obtain rfl : b = r := by injection hr
    subst e5
    clear hr hle e1 e2 e3 e4
    (rcases hab with ⟨rfl, rfl⟩ | ⟨rfl, rfl⟩ <;> (go_enter Try.func64, Try.ntmps64; (repeat (first | (with_reducible first | refine xA ?_ | refine xB ?_ | refine xC ?_ | refine xD ?_ | refine xH ?_ | refine xI rfl ?_ | refine xE ?_ | refine xF ?_ | refine xG ?_) | go_values | go_skip | go_guarded | go_step | go_upon | go_back | ((with_reducible show Oper.upon _ _ _ _ _ _); go_simp) | (dsimp only))); go_ret; exact ⟨ret_int (by first | rfl | omega), rfl⟩))
  have f5 : (a == 1) = false := by simpa using e5
  rw [if_neg e5] at hr
  by_cases e6 : b = -1
  · rw [if_pos e6] at hr
    obtain rfl : -1 = r := by injection hr
    subst e6
    clear hr hle e1 e2 e3 e4 e5
    (rcases hab with ⟨rfl, rfl⟩ | ⟨rfl, rfl⟩ <;> (go_enter Try.func64, Try.ntmps64; (repeat (first | (with_reducible first | refine xA ?_ | refine xB ?_ | refine xC ?_ | refine xD ?_ | refine xH ?_ | refine xI rfl ?_ | refine xE ?_ | refine xF ?_ | refine xG ?_) | go_values | go_skip | go_guarded | go_step | go_upon | go_back | ((with_reducible show Oper.upon _ _ _ _ _ _); go_simp) | (dsimp only))); go_ret; exact ⟨ret_int (by first | rfl | omega), rfl⟩))
  rw [if_neg e6] at hr
  cases hr

/-- no answer by the literals alone: what the tests say -/
theorem bothKey_no {a b : Int} (h : bothKey a b = none) (hle : a ≤ b) : a < b ∧ ¬ b < a ∧ (a == b) = false ∧ (b == a) = false ∧ (b == 1) = false ∧ (a == -b) = false ∧ (a == -1) = false ∧ (a == 1) = false ∧ (b == -1) = false := by
  unfold bothKey at h
  split at h
  · cases h
  split at h
  · cases h
  split at h
  · cases h
  split at h
  · cases h
  simp only [beq_eq_false_iff_ne, ne_eq]
  omega
theorem box2g {w : World} {g : Nat} {T : TypeId} {a b : Value} (H : w.heap[g]? = some (.cells #[a, b] T (0, 0))) : w.cell? ⟨g, 0, none⟩ = some a ∧ w.cell? ⟨g, 1, none⟩ = some b := ⟨by simp [World.cell?, H], by simp [World.cell?, H]⟩
theorem yields_arr {ops : Array Oper} {S : World → Prop} {o : Oper} {a : Act} {g : Nat} {T : TypeId} {cs : Array Value} {n : Nat} {e : TypeId} (hS : ∀ w, S w → w.heap[g]? = some (.cells cs T (0, 0))) (hw : Region.wanted o (yielded ops a.tmps) = true)
    (x : Operand) (ho : o.op = .load T x) (hx : a.eval x = .pointer (some ⟨g, 0, none⟩)) (hu : Try.prog.underlying T = some (.array n e)) (hz : (Try.prog.info? T).map (·.size) = some cs.size) : YieldsIf Try.prog ops S o (.agg cs) a := by
  refine .inl ⟨hw, fun w hw' => ?_⟩
  have h : (Instr.loadAt T (.pointer (some ⟨g, 0, none⟩))).run Try.prog w = .ok (.agg cs) w := run_loadVar_row w g T T cs (0, 0) _ (hS w hw') hu rfl hz
  unfold execOp
  simp only [ho, hx, Sem.run_bind, h, Result.andThen_ok]
  rfl
theorem yields_look {ops : Array Oper} {S : World → Prop} {o : Oper} {a : Act} {t k e : TypeId} {κ : Type} [DecidableEq κ] {enc : κ → Value} {ok : κ → Prop} (K : KeyE Try.prog k enc ok) (ht : Try.prog.underlying t = some (.map k e)) {z : Value} (hz : ∀ w, (zeroValue e).run Try.prog w = .ok z w) {b : Nat} {m : List (κ × Value)} (hS : ∀ w, S w → MapV enc ok w b m)
    (hw : Region.wanted o (yielded ops a.tmps) = true) (x y : Operand) (c : Bool) (ho : o.op = .lookup t x y c) (hx : a.eval x = .map (some b)) {κv : κ} (hy : a.eval y = enc κv) (hk : ok κv) (r : Value) (hr : (if c then .tuple #[(getM m κv).getD z, .bool (getM m κv).isSome] else (getM m κv).getD z) = r) : YieldsIf Try.prog ops S o r a := by
  refine .inl ⟨hw, fun w hw' => ?_⟩
  have h := (hS w hw').lookup K ht (hz w) hk c
  rw [hr] at h
  unfold execOp
  simp only [ho, hx, hy, Sem.run_bind, h, Result.andThen_ok]
  rfl

set_option maxRecDepth 100000 in
set_option maxHeartbeats 1000000 in
theorem both_look {X : Nat → Prop} {base gb ma mx : Nat} {g : G} {v : Value} {xs : List Value} (w : World) (h : GRep X base w gb g v ma mx xs) (x y a b : Int) (ha : -1048576 ≤ a ∧ a ≤ 1048576) (hb : -1048576 ≤ b ∧ b ≤ 1048576) (hab : (a = x ∧ b = y) ∨ (b = x ∧ a = y)) (hle : a ≤ b) (hr : bothKey a b = none) (z : Int) (hz : look g.an a b = some z) :
    Calls Try.prog 64 #[.pointer (some ⟨gb, 0, none⟩), .int .i64 x, .int .i64 y] w fun e w' => e = .returned (.int .i64 z) ∧ GRep X base w' gb g v ma mx xs ∧ Kept X w w' := by
  obtain ⟨f0, f0', f1, f1', f2, f3, f4, f5, f6⟩ := bothKey_no hr hle
  have hl : Hid ((if true then Value.tuple #[(getM (mapOf g.an) (a, b)).getD (.int .i64 0), .bool (getM (mapOf g.an) (a, b)).isSome] else (getM (mapOf g.an) (a, b)).getD (.int .i64 0)) = Value.tuple #[.int .i64 z, .bool true]) := Lib.hid (by rw [look_get, hz]; rfl)
  have h2 := h.alloc (.cells #[.int .i64 a, .int .i64 b] 130)
  have hkb := heap_alloc_new w (.cells #[.int .i64 a, .int .i64 b] 130)
  have HS0 := Lib.hid (show (fun u : World => u.heap[gb]? = some (.cells #[.int .i64 g.n, v, .map (some ma), .map (some mx)] 72 (0, 0)) ∧ u.heap[w.heap.size]? = some (.cells #[.int .i64 a, .int .i64 b] 130 (0, 0)) ∧ MapV encP okP u ma (mapOf g.an)) ({ (w.alloc (.cells #[.int .i64 a, .int .i64 b] 130)) with drawn := (w.alloc (.cells #[.int .i64 a, .int .i64 b] 130)).drawn + 1 } : World) from ⟨h2.box, hkb, h2.an⟩)
  have HR := Lib.hid (show GRep X base ({ (w.alloc (.cells #[.int .i64 a, .int .i64 b] 130)) with drawn := (w.alloc (.cells #[.int .i64 a, .int .i64 b] 130)).drawn + 1 } : World) gb g v ma mx xs ∧ Kept X w ({ (w.alloc (.cells #[.int .i64 a, .int .i64 b] 130)) with drawn := (w.alloc (.cells #[.int .i64 a, .int .i64 b] 130)).drawn + 1 } : World) from ⟨h2.same ⟨rfl, rfl, rfl, Nat.le_refl _, fun _ _ _ => rfl⟩, ((Kept.refl X w).alloc _).drew 1⟩)
  have HK := Lib.hid (key_of ha hb)
  clear h h2 hr hle hz hkb
  rcases hab with ⟨rfl, rfl⟩ | ⟨rfl, rfl⟩
  all_goals
    go_enter Try.func64, Try.ntmps64
    (repeat (first | (with_reducible first | refine xA ?_ | refine xB ?_ | refine xC ?_ | refine xD ?_ | refine xH ?_ | refine xI rfl ?_ | refine xE ?_ | refine xF ?_ | refine xG ?_) | go_values | go_skip | go_guarded | go_step | go_upon | go_back | ((with_reducible show Oper.upon _ _ _ _ _ _); go_simp) | (dsimp only)))
    refine wp_region_held (S := (fun u : World => u.heap[gb]? = some (.cells #[.int .i64 g.n, v, .map (some ma), .map (some mx)] 72 (0, 0)) ∧ u.heap[w.heap.size]? = some (.cells #[.int .i64 a, .int .i64 b] 130 (0, 0)) ∧ MapV encP okP u ma (mapOf g.an))) (by kernel_rfl) ?_
    have HS := HS0.out
    replace HR := HR.out
    clear HS0
    generalize ({ (w.alloc _) with drawn := _ } : World) = u3 at *
    refine wpAnyH_take (i := 0) (v := .pointer (some ⟨gb, 0, none⟩)) rfl (by kernel_rfl) (by kernel_rfl) (by kernel_rfl) (fun _ _ _ h => h) (Or.inl ⟨rfl, fun w _ => by go_simp⟩) HS ?_; simp only [Act.put, List.setIfInBounds_toArray, List.set_cons_succ, List.set_cons_zero]; refine wpAnyH_take (i := 1) (v := .pointer (some ⟨gb, 0, none⟩)) rfl (by kernel_rfl) (by kernel_rfl) (by kernel_rfl) (fun _ _ _ h => h) (Or.inl ⟨rfl, fun w _ => by go_simp⟩) HS ?_; simp only [Act.put, List.setIfInBounds_toArray, List.set_cons_succ, List.set_cons_zero]
    refine wpAnyH_take (i := 2) (v := .pointer (some ⟨gb, 2, none⟩)) rfl (by kernel_rfl) (by kernel_rfl) (by kernel_rfl) (fun _ _ _ h => h) (Or.inl ⟨rfl, fun w _ => by go_simp⟩) HS ?_
    simp only [Act.put, List.setIfInBounds_toArray, List.set_cons_succ, List.set_cons_zero]
    refine wpAnyH_take (i := 3) (v := .map (some ma)) rfl (by kernel_rfl) (by kernel_rfl) (by kernel_rfl) (fun _ _ _ h => h) (Or.inl ⟨rfl, fun w hw => by have hx := (box4g hw.1).2.2.1; go_simp⟩) HS ?_
    simp only [Act.put, List.setIfInBounds_toArray, List.set_cons_succ, List.set_cons_zero]
    refine wpAnyH_take (i := 4) rfl (by kernel_rfl) (by kernel_rfl) (by kernel_rfl) (fun _ _ _ h => h) (yields_arr (fun _ h => h.2.1) rfl _ rfl rfl Try.underlying130 size130) HS ?_; simp only [Act.put, List.setIfInBounds_toArray, List.set_cons_succ, List.set_cons_zero]
    refine wpAnyH_take (i := 5) rfl (by kernel_rfl) (by kernel_rfl) (by kernel_rfl) (fun _ _ _ h => h) (yields_look keyP Try.underlying70 zero3 (fun _ h => h.2.2) rfl _ _ _ rfl rfl rfl HK.out _ hl.out) HS ?_
    simp only [Act.put, List.setIfInBounds_toArray, List.set_cons_succ, List.set_cons_zero]
    refine wpAnyH_take (i := 6) (v := .tuple #[.int .i64 z, .bool true]) rfl (by kernel_rfl) (by kernel_rfl) (by kernel_rfl) (fun _ _ _ h => h) (Or.inl ⟨rfl, fun w _ => by go_simp⟩) HS ?_
    simp only [Act.put, List.setIfInBounds_toArray, List.set_cons_succ, List.set_cons_zero]
    refine wpAnyH_take (i := 7) (v := .int .i64 z) rfl (by kernel_rfl) (by kernel_rfl) (by kernel_rfl) (fun _ _ _ h => h) (Or.inl ⟨rfl, fun w _ => by go_simp⟩) HS ?_
    simp only [Act.put, List.setIfInBounds_toArray, List.set_cons_succ, List.set_cons_zero]
    refine wpAnyH_take (i := 8) (v := .bool true) rfl (by kernel_rfl) (by kernel_rfl) (by kernel_rfl) (fun _ _ _ h => h) (Or.inl ⟨rfl, fun w _ => by go_simp⟩) HS ?_
    simp only [Act.put, List.setIfInBounds_toArray, List.set_cons_succ, List.set_cons_zero]
    refine wpAnyH_take (i := 9) (v := .int .i64 z) rfl (by kernel_rfl) (by kernel_rfl) (by kernel_rfl) (fun _ _ _ h => h) (Or.inl ⟨rfl, fun w _ => by go_simp⟩) HS ?_
    simp only [Act.put, List.setIfInBounds_toArray, List.set_cons_succ, List.set_cons_zero]
    refine wpAnyH_take (i := 10) (v := .bool true) rfl (by kernel_rfl) (by kernel_rfl) (by kernel_rfl) (fun _ _ _ h => h) (Or.inl ⟨rfl, fun w _ => by go_simp⟩) HS ?_
    simp only [Act.put, List.setIfInBounds_toArray, List.set_cons_succ, List.set_cons_zero]
    refine wpAnyH_done (by kernel_rfl) ?_ _
    (repeat (first | (with_reducible first | refine xA ?_ | refine xB ?_ | refine xC ?_ | refine xD ?_ | refine xH ?_ | refine xI rfl ?_ | refine xE ?_ | refine xF ?_ | refine xG ?_) | go_values | go_skip | go_guarded | go_step | go_upon | go_back | ((with_reducible show Oper.upon _ _ _ _ _ _); go_simp) | (dsimp only)))
    go_ret
    exact ⟨rfl, HR⟩

end Go.Proofs.Ytmaogkgjiplckaa
