import Derived.Test.YtmaogkgjiplckaaGC
set_option linter.unusedSimpArgs false
set_option linter.unusedVariables false
namespace Go.Proofs.Ytmaogkgjiplckaa
open Go.RowKit

theorem SlsX.one {Y : Nat → Prop} {w : World} {x : Value} {l : List Int} (h : SlX Y w x l) : SlsX Y w [x] [l] := by
  refine ⟨rfl, fun i y m a b => ?_⟩
  rcases i with _ | i
  · simp at a b; subst a; subst b; exact h
  · simp at a
/-- a clause of its own, newly laid -/
theorem slx_new {X : Nat → Prop} {base gb ma mx : Nat} {w w0 : World} {g : G} {v : Value} {xs : List Value} (h : GRep X base w0 gb g v ma mx xs) (hs : w0.heap.size ≤ w.heap.size) (l : List Int) (hl : l ≠ []) (s n : Nat) (es : s = w.heap.size) (en : n = l.length) :
    SlX (fun k => ¬ X k ∧ k ≠ gb ∧ some k ≠ v.ownBlock) (w.alloc (.cells (l.map (Value.int .i64)).toArray 3)) (.slice (some ⟨s, 0, none⟩) n n) l := by
  subst es; subst en
  obtain ⟨l1, l2, l3⟩ := h.lt
  refine ⟨_, l.length, rfl, Nat.le_refl _, by simp, fun _ => ⟨w.heap.size, 0, rfl, ⟨fun hx => by have := h.xb _ hx; omega, by omega, fun e => by have := (h.row.lt _ e.symm).2; omega⟩, by simp, fun i x hi => ?_⟩⟩
  rw [World.cell?_alloc_new]
  simp [hi]

theorem fresh_N {X : Nat → Prop} {base gb ma mx : Nat} {g : G} {v : Value} {xs : List Value} (w : World) (h : GRep X base w gb g v ma mx xs) (hn : Hid (g.n < 1048576)) (N : Int) (hN : Hid ((g.n : Int) + 1 = N)) :
    Calls Try.prog 36 #[.pointer (some ⟨gb, 0, none⟩)] w fun e w' => e = .returned (.int .i64 N) ∧ GRep X base w' gb ⟨g.n + 1, g.cl, g.an, g.xo⟩ v ma mx xs ∧ Kept X w w' := by
  rw [← hN.out]; exact fresh_any w h hn.out
theorem say_N {X : Nat → Prop} {base gb ma mx : Nat} {g : G} {v : Value} {xs : List Value} (w : World) (h : GRep X base w gb g v ma mx xs) (bq m : Nat) (ys : List Value) (cs : List (List Int)) (hm : Hid (m = ys.length ∧ 0 < m)) (hY : SlsX (fun k => ¬ X k ∧ k ≠ gb ∧ some k ≠ v.ownBlock) w ys cs)
    (hq : w.heap[bq]? = some (.cells ys.toArray 26 (0, 0))) (h1 : ∀ u ∈ ys, u.oneCell' = true) (hc : g.cl.length + cs.length ≤ 4 * g.n) (hb : base ≤ w.heap.size) :
    Calls Try.prog 101 #[.pointer (some ⟨gb, 0, none⟩), .slice (some ⟨bq, 0, none⟩) m m] w fun e w' => e = .returned (.tuple #[]) ∧ GR X base w' gb ⟨g.n, g.cl ++ cs, g.an, g.xo⟩ ∧ Kept X w w' := by
  obtain ⟨rfl, h0⟩ := hm.out
  exact say_any w h bq ys cs h0 hY hq h1 hc hb

/-- three clauses, laid one by one, and their slice -/
abbrev W3 (w : World) (A B C : List Int) : World := ((w.alloc (.cells (A.map (Value.int .i64)).toArray 3)).alloc (.cells (B.map (Value.int .i64)).toArray 3)).alloc (.cells (C.map (Value.int .i64)).toArray 3)
theorem say3 {X : Nat → Prop} {base gb ma mx : Nat} {g : G} {v : Value} {xs : List Value} (w : World) (h : GRep X base w gb g v ma mx xs) (A B C : List Int) (hA : A ≠ []) (hB : B ≠ []) (hC : C ≠ []) (a b c : Nat) (ha : a = A.length) (hb : b = B.length) (hc : c = C.length)
    (hcl : g.cl.length + 3 ≤ 4 * g.n) (hba : base ≤ w.heap.size) :
    Calls Try.prog 101 #[.pointer (some ⟨gb, 0, none⟩), .slice (some ⟨w.heap.size + 1 + 1 + 1, 0, none⟩) 3 3] ((W3 w A B C).alloc (.cells #[.slice (some ⟨w.heap.size, 0, none⟩) a a, .slice (some ⟨w.heap.size + 1, 0, none⟩) b b, .slice (some ⟨w.heap.size + 1 + 1, 0, none⟩) c c] 26))
      fun e w' => e = .returned (.tuple #[]) ∧ GR X base w' gb ⟨g.n, g.cl ++ [A, B, C], g.an, g.xo⟩ ∧ Kept X w w' := by
  have s1 := slx_new h (Nat.le_refl _) A hA w.heap.size a rfl ha
  have s2 := slx_new (w := w.alloc (.cells (A.map (Value.int .i64)).toArray 3)) h (by simp) B hB (w.heap.size + 1) b (by simp) hb
  have s3 := slx_new (w := (w.alloc (.cells (A.map (Value.int .i64)).toArray 3)).alloc (.cells (B.map (Value.int .i64)).toArray 3)) h (by simp; omega) C hC (w.heap.size + 1 + 1) c (by simp) hc
  have al : ∀ (Z : Nat → Prop) (u : World) (o : Obj), Kept Z u (u.alloc o) := fun Z u o => (Kept.refl Z u).alloc o
  have hY := ((SlsX.one (((s1.kept (al _ _ (.cells (B.map (Value.int .i64)).toArray 3))).kept (al _ _ (.cells (C.map (Value.int .i64)).toArray 3))).kept (al _ _ (.cells #[.slice (some ⟨w.heap.size, 0, none⟩) a a, .slice (some ⟨w.heap.size + 1, 0, none⟩) b b, .slice (some ⟨w.heap.size + 1 + 1, 0, none⟩) c c] 26)))).append
    (SlsX.one ((s2.kept (al _ _ (.cells (C.map (Value.int .i64)).toArray 3))).kept (al _ _ (.cells #[.slice (some ⟨w.heap.size, 0, none⟩) a a, .slice (some ⟨w.heap.size + 1, 0, none⟩) b b, .slice (some ⟨w.heap.size + 1 + 1, 0, none⟩) c c] 26))))).append
    (SlsX.one (s3.kept (al _ _ (.cells #[.slice (some ⟨w.heap.size, 0, none⟩) a a, .slice (some ⟨w.heap.size + 1, 0, none⟩) b b, .slice (some ⟨w.heap.size + 1 + 1, 0, none⟩) c c] 26))))
  have hq := heap_alloc_new (W3 w A B C) (.cells #[.slice (some ⟨w.heap.size, 0, none⟩) a a, .slice (some ⟨w.heap.size + 1, 0, none⟩) b b, .slice (some ⟨w.heap.size + 1 + 1, 0, none⟩) c c] 26)
  have hsz : (W3 w A B C).heap.size = w.heap.size + 1 + 1 + 1 := by simp [W3]
  rw [hsz] at hq
  have hR := (((h.alloc (.cells (A.map (Value.int .i64)).toArray 3)).alloc (.cells (B.map (Value.int .i64)).toArray 3)).alloc (.cells (C.map (Value.int .i64)).toArray 3)).alloc (.cells #[.slice (some ⟨w.heap.size, 0, none⟩) a a, .slice (some ⟨w.heap.size + 1, 0, none⟩) b b, .slice (some ⟨w.heap.size + 1 + 1, 0, none⟩) c c] 26)
  refine (say_N _ hR _ 3 _ [A, B, C] (Lib.hid ⟨rfl, by decide⟩) hY hq ?_ (by simpa using hcl) (by simp; omega)).mono ?_
  · intro u hu
    simp at hu
    rcases hu with rfl | rfl | rfl <;> rfl
  · rintro e w' ⟨h1, h2, h3⟩
    exact ⟨h1, h2, ((((Kept.refl X w).alloc _).alloc _).alloc _ |>.alloc _).trans h3⟩

theorem say_and {X : Nat → Prop} {base gb ma mx : Nat} {g : G} {v : Value} {xs : List Value} (w : World) (h : GRep X base w gb g v ma mx xs) (N a b : Int) (hcl : g.cl.length + 3 ≤ 4 * g.n) (hba : base ≤ w.heap.size) :
    Calls Try.prog 101 #[.pointer (some ⟨gb, 0, none⟩), .slice (some ⟨w.heap.size + 1 + 1 + 1, 0, none⟩) 3 3] ((((w.alloc (.cells #[.int .i64 (-N), .int .i64 a] 3)).alloc (.cells #[.int .i64 (-N), .int .i64 b] 3)).alloc (.cells #[.int .i64 N, .int .i64 (-a), .int .i64 (-b)] 3)).alloc (.cells #[.slice (some ⟨w.heap.size, 0, none⟩) 2 2, .slice (some ⟨w.heap.size + 1, 0, none⟩) 2 2, .slice (some ⟨w.heap.size + 1 + 1, 0, none⟩) 3 3] 26))
      fun e w' => e = .returned (.tuple #[]) ∧ GR X base w' gb ⟨g.n, g.cl ++ [[-N, a], [-N, b], [N, -a, -b]], g.an, g.xo⟩ ∧ Kept X w w' :=
  say3 w h [-N, a] [-N, b] [N, -a, -b] (by simp) (by simp) (by simp) 2 2 3 rfl rfl rfl hcl hba

set_option maxRecDepth 100000 in
set_option maxHeartbeats 3000000 in
theorem both_new {X : Nat → Prop} {base gb ma mx : Nat} {g : G} {v : Value} {xs : List Value} (w : World) (h : GRep X base w gb g v ma mx xs) (x y a b : Int) (ha : -1048576 ≤ a ∧ a ≤ 1048576) (hb : -1048576 ≤ b ∧ b ≤ 1048576) (hab : (a = x ∧ b = y) ∨ (b = x ∧ a = y)) (hle : a ≤ b) (hr : bothKey a b = none) (hz : look g.an a b = none) (hn : g.n < 1048576) (hba : base ≤ w.heap.size) (N : Int) (hN : (g.n : Int) + 1 = N) :
    Calls Try.prog 64 #[.pointer (some ⟨gb, 0, none⟩), .int .i64 x, .int .i64 y] w fun e w' => e = .returned (.int .i64 N) ∧ GR X base w' gb ⟨g.n + 1, g.cl ++ [[-N, a], [-N, b], [N, -a, -b]], g.an ++ [((a, b), N)], g.xo⟩ ∧ Kept X w w' := by
  obtain ⟨f0, f0', f1, f1', f2, f3, f4, f5, f6⟩ := bothKey_no hr hle
  have hl : Hid ((if true then Value.tuple #[(getM (mapOf g.an) (a, b)).getD (.int .i64 0), .bool (getM (mapOf g.an) (a, b)).isSome] else (getM (mapOf g.an) (a, b)).getD (.int .i64 0)) = Value.tuple #[.int .i64 0, .bool false]) := Lib.hid (by rw [look_get, hz]; rfl)
  have h2 := h.own (.cells #[.int .i64 a, .int .i64 b] 130)
  have hkb := heap_alloc_new w (.cells #[.int .i64 a, .int .i64 b] 130)
  have HS0 := Lib.hid (show (fun u : World => u.heap[gb]? = some (.cells #[.int .i64 g.n, v, .map (some ma), .map (some mx)] 72 (0, 0)) ∧ u.heap[w.heap.size]? = some (.cells #[.int .i64 a, .int .i64 b] 130 (0, 0)) ∧ MapV encP okP u ma (mapOf g.an)) ({ (w.alloc (.cells #[.int .i64 a, .int .i64 b] 130)) with drawn := ((w.alloc (.cells #[.int .i64 a, .int .i64 b] 130))).drawn + 1 } : World) from ⟨h2.box, hkb, h2.an⟩)
  have HR := Lib.hid (show GRep (fun k => X k ∨ k = w.heap.size) base ({ (w.alloc (.cells #[.int .i64 a, .int .i64 b] 130)) with drawn := ((w.alloc (.cells #[.int .i64 a, .int .i64 b] 130))).drawn + 1 } : World) gb g v ma mx xs ∧ Kept (fun k => X k ∨ k = w.heap.size) w ({ (w.alloc (.cells #[.int .i64 a, .int .i64 b] 130)) with drawn := ((w.alloc (.cells #[.int .i64 a, .int .i64 b] 130))).drawn + 1 } : World) from ⟨h2.same ⟨rfl, rfl, rfl, Nat.le_refl _, fun _ _ _ => rfl⟩, ((Kept.refl _ w).alloc _).drew 1⟩)
  have HK := Lib.hid (key_of ha hb)
  have Hz := Lib.hid hz
  have HC := Lib.hid (show g.cl.length + 3 ≤ 4 * (g.n + 1) by have := h.cl; omega)
  have HBs := Lib.hid hba
  have Hn := Lib.hid hn
  have HN := Lib.hid hN
  have hN0 : 1 ≤ N := by omega
  have hN1 : N ≤ 1048576 := by omega
  clear h h2 hr hle hz hkb hn hba hN
  rcases hab with ⟨rfl, rfl⟩ | ⟨rfl, rfl⟩
  all_goals
    go_enter Try.func64, Try.ntmps64
    (repeat (first | (with_reducible first | refine xA ?_ | refine xB ?_ | refine xC ?_ | refine xD ?_ | refine xH ?_ | refine xI rfl ?_ | refine xE ?_ | refine xF ?_ | refine xG ?_) | go_values | go_skip | go_guarded | go_step | go_upon | go_back | ((with_reducible show Oper.upon _ _ _ _ _ _); go_simp) | (dsimp only)))
    refine wp_region_held (S := (fun u : World => u.heap[gb]? = some (.cells #[.int .i64 g.n, v, .map (some ma), .map (some mx)] 72 (0, 0)) ∧ u.heap[w.heap.size]? = some (.cells #[.int .i64 a, .int .i64 b] 130 (0, 0)) ∧ MapV encP okP u ma (mapOf g.an))) (by kernel_rfl) ?_
    have HS := HS0.out
    obtain ⟨hR, hK⟩ := HR.out
    clear HS0 HR
    generalize ({ (w.alloc _) with drawn := _ } : World) = u3 at *
    refine wpAnyH_take (i := 0) (v := .pointer (some ⟨gb, 0, none⟩)) rfl (by kernel_rfl) (by kernel_rfl) (by kernel_rfl) (fun _ _ _ h => h) (Or.inl ⟨rfl, fun w _ => by go_simp⟩) HS ?_; simp only [Act.put, List.getElem_toArray, List.getElem_cons_zero, List.getElem_cons_succ, List.setIfInBounds_toArray, List.set_cons_succ, List.set_cons_zero]; refine wpAnyH_take (i := 1) (v := .pointer (some ⟨gb, 0, none⟩)) rfl (by kernel_rfl) (by kernel_rfl) (by kernel_rfl) (fun _ _ _ h => h) (Or.inl ⟨rfl, fun w _ => by go_simp⟩) HS ?_; simp only [Act.put, List.getElem_toArray, List.getElem_cons_zero, List.getElem_cons_succ, List.setIfInBounds_toArray, List.set_cons_succ, List.set_cons_zero]
    refine wpAnyH_take (i := 2) (v := .pointer (some ⟨gb, 2, none⟩)) rfl (by kernel_rfl) (by kernel_rfl) (by kernel_rfl) (fun _ _ _ h => h) (Or.inl ⟨rfl, fun w _ => by go_simp⟩) HS ?_
    simp only [Act.put, List.getElem_toArray, List.getElem_cons_zero, List.getElem_cons_succ, List.setIfInBounds_toArray, List.set_cons_succ, List.set_cons_zero]
    refine wpAnyH_take (i := 3) (v := .map (some ma)) rfl (by kernel_rfl) (by kernel_rfl) (by kernel_rfl) (fun _ _ _ h => h) (Or.inl ⟨rfl, fun w hw => by have hx := (box4g hw.1).2.2.1; go_simp⟩) HS ?_
    simp only [Act.put, List.getElem_toArray, List.getElem_cons_zero, List.getElem_cons_succ, List.setIfInBounds_toArray, List.set_cons_succ, List.set_cons_zero]
    refine wpAnyH_take (i := 4) rfl (by kernel_rfl) (by kernel_rfl) (by kernel_rfl) (fun _ _ _ h => h) (yields_arr (fun _ h => h.2.1) rfl _ rfl rfl Try.underlying130 size130) HS ?_
    simp only [Act.put, List.getElem_toArray, List.getElem_cons_zero, List.getElem_cons_succ, List.setIfInBounds_toArray, List.set_cons_succ, List.set_cons_zero]
    refine wpAnyH_take (i := 5) rfl (by kernel_rfl) (by kernel_rfl) (by kernel_rfl) (fun _ _ _ h => h) (yields_look keyP Try.underlying70 zero3 (fun _ h => h.2.2) rfl _ _ _ rfl rfl rfl HK.out _ hl.out) HS ?_
    simp only [Act.put, List.getElem_toArray, List.getElem_cons_zero, List.getElem_cons_succ, List.setIfInBounds_toArray, List.set_cons_succ, List.set_cons_zero]
    refine wpAnyH_take (i := 6) (v := .tuple #[.int .i64 0, .bool false]) rfl (by kernel_rfl) (by kernel_rfl) (by kernel_rfl) (fun _ _ _ h => h) (Or.inl ⟨rfl, fun w _ => by go_simp⟩) HS ?_
    simp only [Act.put, List.getElem_toArray, List.getElem_cons_zero, List.getElem_cons_succ, List.setIfInBounds_toArray, List.set_cons_succ, List.set_cons_zero]
    refine wpAnyH_take (i := 7) (v := .int .i64 0) rfl (by kernel_rfl) (by kernel_rfl) (by kernel_rfl) (fun _ _ _ h => h) (Or.inl ⟨rfl, fun w _ => by go_simp⟩) HS ?_
    simp only [Act.put, List.getElem_toArray, List.getElem_cons_zero, List.getElem_cons_succ, List.setIfInBounds_toArray, List.set_cons_succ, List.set_cons_zero]
    refine wpAnyH_take (i := 8) (v := .bool false) rfl (by kernel_rfl) (by kernel_rfl) (by kernel_rfl) (fun _ _ _ h => h) (Or.inl ⟨rfl, fun w _ => by go_simp⟩) HS ?_
    simp only [Act.put, List.getElem_toArray, List.getElem_cons_zero, List.getElem_cons_succ, List.setIfInBounds_toArray, List.set_cons_succ, List.set_cons_zero]
    refine wpAnyH_take (i := 9) (v := .int .i64 0) rfl (by kernel_rfl) (by kernel_rfl) (by kernel_rfl) (fun _ _ _ h => h) (Or.inl ⟨rfl, fun w _ => by go_simp⟩) HS ?_
    simp only [Act.put, List.getElem_toArray, List.getElem_cons_zero, List.getElem_cons_succ, List.setIfInBounds_toArray, List.set_cons_succ, List.set_cons_zero]
    refine wpAnyH_take (i := 10) (v := .bool false) rfl (by kernel_rfl) (by kernel_rfl) (by kernel_rfl) (fun _ _ _ h => h) (Or.inl ⟨rfl, fun w _ => by go_simp⟩) HS ?_
    simp only [Act.put, List.getElem_toArray, List.getElem_cons_zero, List.getElem_cons_succ, List.setIfInBounds_toArray, List.set_cons_succ, List.set_cons_zero]
    refine wpAnyH_done (by kernel_rfl) ?_ _
    have hkb := HS.2.1
    clear HS hl
    (repeat (first | (with_reducible first | refine xA ?_ | refine xB ?_ | refine xC ?_ | refine xD ?_ | refine xH ?_ | refine xI rfl ?_ | refine xE ?_ | refine xF ?_ | refine xG ?_) | go_skip | go_guarded | (go_at_call 36; (with_reducible refine (fresh_N _ hR Hn N HN).mono ?_); rintro _ w1 ⟨rfl, hR1, hk1⟩; replace hK := hK.trans hk1; replace hkb := hk1.at hkb (.inr rfl); have hsz1 := hk1.size; clear hR hk1) | (go_at_call 101; (with_reducible refine (say_and _ hR1 N a b HC.out (Nat.le_trans HBs.out hK.size)).mono ?_); rintro _ w2 ⟨rfl, hG, hk2⟩; replace hK := hK.trans hk2; replace hkb := hk2.at hkb (.inr rfl); clear hR1 hk2; obtain ⟨v2, ma2, mx2, xs2, hR2⟩ := hG) | go_values | go_skip | go_guarded | go_step | go_upon | go_back | ((with_reducible show Oper.upon _ _ _ _ _ _); go_simp) | (dsimp only)))
    refine wp_region_held (S := (fun u : World => u.heap[gb]? = some (.cells #[.int .i64 (g.n + 1 : Nat), v2, .map (some ma2), .map (some mx2)] 72 (0, 0)) ∧ u.heap[w.heap.size]? = some (.cells #[.int .i64 a, .int .i64 b] 130 (0, 0)))) (by kernel_rfl) ?_
    have HS : (fun u : World => u.heap[gb]? = some (.cells #[.int .i64 (g.n + 1 : Nat), v2, .map (some ma2), .map (some mx2)] 72 (0, 0)) ∧ u.heap[w.heap.size]? = some (.cells #[.int .i64 a, .int .i64 b] 130 (0, 0))) ({ w2 with drawn := w2.drawn + 1 } : World) := ⟨hR2.box, hkb⟩
    have hR3 : GRep _ base ({ w2 with drawn := w2.drawn + 1 } : World) gb _ v2 ma2 mx2 xs2 := hR2.same ⟨rfl, rfl, rfl, Nat.le_refl _, fun _ _ _ => rfl⟩
    replace hK : Kept _ w ({ w2 with drawn := w2.drawn + 1 } : World) := hK.drew 1
    clear hkb hR2
    generalize ({ w2 with drawn := w2.drawn + 1 } : World) = u4 at *
    refine wpAnyH_take (i := 0) (v := .pointer (some ⟨gb, 0, none⟩)) rfl (by kernel_rfl) (by kernel_rfl) (by kernel_rfl) (fun _ _ _ h => h) (Or.inl ⟨rfl, fun w _ => by go_simp⟩) HS ?_; simp only [Act.put, List.getElem_toArray, List.getElem_cons_zero, List.getElem_cons_succ, List.setIfInBounds_toArray, List.set_cons_succ, List.set_cons_zero]; refine wpAnyH_take (i := 1) (v := .pointer (some ⟨gb, 0, none⟩)) rfl (by kernel_rfl) (by kernel_rfl) (by kernel_rfl) (fun _ _ _ h => h) (Or.inl ⟨rfl, fun w _ => by go_simp⟩) HS ?_; simp only [Act.put, List.getElem_toArray, List.getElem_cons_zero, List.getElem_cons_succ, List.setIfInBounds_toArray, List.set_cons_succ, List.set_cons_zero]
    refine wpAnyH_take (i := 2) (v := .pointer (some ⟨gb, 2, none⟩)) rfl (by kernel_rfl) (by kernel_rfl) (by kernel_rfl) (fun _ _ _ h => h) (Or.inl ⟨rfl, fun w _ => by go_simp⟩) HS ?_
    simp only [Act.put, List.getElem_toArray, List.getElem_cons_zero, List.getElem_cons_succ, List.setIfInBounds_toArray, List.set_cons_succ, List.set_cons_zero]
    refine wpAnyH_take (i := 3) (v := .map (some ma2)) rfl (by kernel_rfl) (by kernel_rfl) (by kernel_rfl) (fun _ _ _ h => h) (Or.inl ⟨rfl, fun w hw => by have hx := (box4g hw.1).2.2.1; go_simp⟩) HS ?_
    simp only [Act.put, List.getElem_toArray, List.getElem_cons_zero, List.getElem_cons_succ, List.setIfInBounds_toArray, List.set_cons_succ, List.set_cons_zero]
    refine wpAnyH_take (i := 4) rfl (by kernel_rfl) (by kernel_rfl) (by kernel_rfl) (fun _ _ _ h => h) (yields_arr (fun _ h => h.2) rfl _ rfl rfl Try.underlying130 size130) HS ?_
    simp only [Act.put, List.getElem_toArray, List.getElem_cons_zero, List.getElem_cons_succ, List.setIfInBounds_toArray, List.set_cons_succ, List.set_cons_zero]
    refine wpAnyH_take (i := 5) (v := .int .i64 N) rfl (by kernel_rfl) (by kernel_rfl) (by kernel_rfl) (fun _ _ _ h => h) (Or.inl ⟨rfl, fun w _ => by go_simp⟩) HS ?_
    simp only [Act.put, List.getElem_toArray, List.getElem_cons_zero, List.getElem_cons_succ, List.setIfInBounds_toArray, List.set_cons_succ, List.set_cons_zero]
    refine wpAnyH_all (rs := [6]) (by kernel_rfl) (by simp) (fun i hi => ?_)
    obtain rfl : i = 6 := by simpa using hi
    refine wpOp_one rfl ?_
    have hM3 := hR3.an
    (repeat (first | (with_reducible first | refine xA ?_ | refine xB ?_ | refine xC ?_ | refine xD ?_ | refine xH ?_ | refine xI rfl ?_ | refine xE ?_ | refine xF ?_ | refine xG ?_) | go_skip | go_guarded | ((with_reducible refine wl_id ?_); refine wl_mapUpdate rfl _ _ _ 70 rfl _ _ keyP Try.underlying70 ma2 _ rfl hM3 (a, b) rfl HK.out (.int .i64 N) rfl ?_; intro w5 hM hg; clear hM3; (try simp only [Act.put, List.setIfInBounds_toArray, List.set_cons_succ, List.set_cons_zero])) | go_values | go_skip | go_guarded | go_step | go_upon | go_back | ((with_reducible show Oper.upon _ _ _ _ _ _); go_simp) | (dsimp only)))
    rw [put_new Hz.out] at hM
    obtain ⟨hR4, hk4⟩ := hR3.putA hg hM
    refine ⟨⟨hR4.box, hk4.at HS.2 (.inr rfl)⟩, ?_⟩
    refine wpAnyH_done (by kernel_rfl) ?_ _
    (repeat (first | (with_reducible first | refine xA ?_ | refine xB ?_ | refine xC ?_ | refine xD ?_ | refine xH ?_ | refine xI rfl ?_ | refine xE ?_ | refine xF ?_ | refine xG ?_) | go_values | go_skip | go_guarded | go_step | go_upon | go_back | ((with_reducible show Oper.upon _ _ _ _ _ _); go_simp) | (dsimp only)))
    go_ret
    exact ⟨rfl, ⟨_, _, _, _, hR4.less fun k hk => .inl hk⟩, (hK.trans hk4).mono fun k _ hk => .inl hk⟩

end Go.Proofs.Ytmaogkgjiplckaa
