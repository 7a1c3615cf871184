import Derived.Test.YtmaogkgjiplckaaSL
set_option linter.unusedSimpArgs false
set_option linter.unusedVariables false
namespace Go.Proofs.Ytmaogkgjiplckaa
open Go.RowKit
/-- one literal's answer -/
def Int1 (X : Nat → Prop) (base gb : Nat) (w : World) (r : G × Int) (e : Ending) (w' : World) : Prop := e = .returned (.int .i64 r.2) ∧ GR X base w' gb r.1 ∧ Kept X w w'
def IntR (X : Nat → Prop) (base gb : Nat) (g : G) (w : World) : Option (G × Int) → Ending → World → Prop
  | none, e, w' => e = .returned (.int .i64 0) ∧ GR X base w' gb g ∧ Kept X w w'
  | some r, e, w' => Int1 X base gb w r e w'
theorem int1_box {X : Nat → Prop} {base gb : Nat} {w w1 w2 : World} {r : G × Int} (hG : GR (fun k => X k ∨ k = w.heap.size) base w1 gb r.1) (hK : Kept (fun k => X k ∨ k = w.heap.size) (w.alloc (.cells #[.int .i64 0] 3)) w1) (hX : ∀ k, X k → k < w.heap.size)
    (hg : w1.grownBy w2 (some w.heap.size)) : Int1 X base gb w r (.returned (.int .i64 r.2)) w2 := by
  refine ⟨rfl, (hG.other hg (.inr rfl)).less (fun k hk => .inl hk), ?_⟩
  refine (((Kept.refl X w).alloc (.cells #[.int .i64 0] 3)).trans (hK.mono fun k _ h => .inl h)).grown hg ?_
  intro g e h1 h2
  injection e with e
  omega
theorem Int1.from {X : Nat → Prop} {base gb : Nat} {w w2 w' : World} {r : G × Int} {e : Ending} (h : Int1 X base gb w2 r e w') (hk : Kept X w w2) : Int1 X base gb w r e w' := ⟨h.1, h.2.1, hk.trans h.2.2⟩

theorem andC_any {X : Nat → Prop} {base gb : Nat} {g : G} {fr : List Int} {s : Nat → Bool} (w : World) (hG : GR X base w gb g) (hba : base ≤ w.heap.size) (x y : Int) (hn : g.n + 3 ≤ 1048576) (hL : ∀ z ∈ ([x, y] : List Int), isL g.n z) (hI : GI g fr s) (r : G × Int) (hr : Hid (both g x y = r))
    (b0 b1 b2 : Nat) (c0 : w.cell? ⟨b0, 0, none⟩ = some (.pointer (some ⟨gb, 0, none⟩))) (c1 : w.cell? ⟨b1, 0, none⟩ = some (.int .i64 x)) (c2 : w.cell? ⟨b2, 0, none⟩ = some (.int .i64 y)) :
    Calls Try.prog 63 #[.pointer (some ⟨b0, 0, none⟩), .pointer (some ⟨b1, 0, none⟩), .pointer (some ⟨b2, 0, none⟩)] w (Int1 X base gb w r) := by
  have H := Lib.hid (both_any w hG (Lib.hid (by omega)) hba x y (Lib.hid (hL x (by simp))) (Lib.hid (hL y (by simp))) r hr)
  clear hG hba hn hL hI hr
  go_enter Try.func63, Try.ntmps63
  (repeat (first | (with_reducible first | refine xA ?_ | refine xB ?_ | refine xC ?_ | refine xD ?_ | refine xH ?_ | refine xI rfl ?_ | refine xE ?_ | refine xF ?_ | refine xG ?_) | go_skip | go_guarded | (go_at_call 64; (with_reducible refine (H.out).mono ?_); rintro _ w1 ⟨rfl, hG, hK⟩) | go_values | go_skip | go_guarded | go_step | go_upon | go_back | (dsimp only)))
  go_ret
  exact ⟨rfl, hG, hK⟩

set_option maxRecDepth 100000 in
theorem tryAnd_any {X : Nat → Prop} {base gb : Nat} (w : World) (b0 b1 b2 : Nat) (r : G × Int) (hX : ∀ k, X k → k < w.heap.size)
    (hC : Calls Try.prog 63 #[.pointer (some ⟨b0, 0, none⟩), .pointer (some ⟨b1, 0, none⟩), .pointer (some ⟨b2, 0, none⟩)] (w.alloc (.cells #[.int .i64 0] 3)) (Int1 (fun k => X k ∨ k = w.heap.size) base gb (w.alloc (.cells #[.int .i64 0] 3)) r)) :
    Calls Try.prog 35 #[.func (Fn.func 63) #[] #[.pointer (some ⟨b0, 0, none⟩), .pointer (some ⟨b1, 0, none⟩), .pointer (some ⟨b2, 0, none⟩)]] w (Int1 X base gb w r) := by
  have hmf : ∀ (fn : Fn) (first cap : Array Value) (w : World), (Instr.makeFunc fn first cap).run Try.prog w = .ok (.func fn first cap) w := fun _ _ _ _ => rfl
  have HC := Lib.hid hC
  have HX := Lib.hid hX
  clear hC hX
  go_enter_defers Try.func35, Try.ntmps35
  (repeat (first | (with_reducible first | refine xA ?_ | refine xB ?_ | refine xC ?_ | refine xD ?_ | refine xH ?_ | refine xI rfl ?_ | refine xE ?_ | refine xF ?_ | refine xG ?_) | go_skip | go_guarded | (go_at_call 63; (with_reducible refine (HC.out).mono ?_); rintro _ w1 ⟨rfl, hG, hK⟩; have hh := hK.at (heap_alloc_new w _) (.inr rfl); have hc0 := cell_of_row w1 w.heap.size 0 _ _ _ hh; have hz0 := frozen_of_row w1 w.heap.size 0 _ _ hh; simp at hc0) | go_values | go_skip | go_guarded | go_step | go_upon | go_back | (dsimp only)))
  refine door_i (q := w.heap.size) (x := r.2) rfl (by simp [World.cell?, heap_setCell_same _ _ _ _ _ _ hh]) ?_
  exact int1_box hG hK HX.out ⟨rfl, rfl, rfl, by simp, fun k hk hn => heap_setCell_other _ _ k _ (fun e => hn (by rw [e]))⟩

/-- the deferring call, from where the boxes stand -/
theorem tryAnd2 {X : Nat → Prop} {base gb : Nat} {g : G} {fr : List Int} {s : Nat → Bool} (w : World) (hG : GR X base w gb g) (hba : base ≤ w.heap.size) (x y : Int) (hn : g.n + 3 ≤ 1048576) (hq : allL g.n [x, y] = true) (hI : GI g fr s) (b0 b1 b2 : Nat) (c0 : w.cell? ⟨b0, 0, none⟩ = some (.pointer (some ⟨gb, 0, none⟩))) (c1 : w.cell? ⟨b1, 0, none⟩ = some (.int .i64 x)) (c2 : w.cell? ⟨b2, 0, none⟩ = some (.int .i64 y)) :
    Calls Try.prog 35 #[.func (Fn.func 63) #[] #[.pointer (some ⟨b0, 0, none⟩), .pointer (some ⟨b1, 0, none⟩), .pointer (some ⟨b2, 0, none⟩)]] w (Int1 X base gb w (both g x y)) :=
  tryAnd_any w b0 b1 b2 _ hG.xb (andC_any (fr := fr) (s := s) _ (hG.owned (w' := w.alloc (.cells #[.int .i64 0] 3)) ⟨rfl, rfl, rfl, by simp, fun k hk _ => Below.heap_alloc w _ k hk⟩ (Nat.le_refl _) (by simp)) (by simp; omega) x y hn (allL_mem hq) hI _ (Lib.hid rfl) b0 b1 b2 (cell_al _ _ c0) (cell_al _ _ c1) (cell_al _ _ c2))

set_option maxRecDepth 100000 in
set_option maxHeartbeats 1000000 in
theorem And_any {X : Nat → Prop} {base gb : Nat} {g : G} {fr : List Int} {s : Nat → Bool} (w : World) (hG : GR X base w gb g) (hba : base ≤ w.heap.size) (x y : Int) (hn : g.n + 3 ≤ 1048576) (hI : GI g fr s) (r : Option (G × Int)) (hr : Hid ((if allL g.n [x, y] then some (both g x y) else none) = r)) :
    Calls Try.prog 33 #[.pointer (some ⟨gb, 0, none⟩), .int .i64 x, .int .i64 y] w (IntR X base gb g w r) := by
  have hmf : ∀ (fn : Fn) (first cap : Array Value) (w : World), (Instr.makeFunc fn first cap).run Try.prog w = .ok (.func fn first cap) w := fun _ _ _ _ => rfl
  obtain ⟨u, hu⟩ : ∃ u, u = (((w.alloc (.cells #[.pointer (some ⟨gb, 0, none⟩)] 24)).alloc (.cells #[.int .i64 x] 3)).alloc (.cells #[.int .i64 y] 3)) := ⟨_, rfl⟩
  have hsu : u.heap.size = w.heap.size + 1 + 1 + 1 := by rw [hu]; simp
  have hGu : GR X base u gb g := by rw [hu]; exact (((hG.alloc (.cells #[.pointer (some ⟨gb, 0, none⟩)] 24)).alloc (.cells #[.int .i64 x] 3)).alloc (.cells #[.int .i64 y] 3))
  have hKu : Kept X w u := by rw [hu]; exact ((((Kept.refl X w).alloc _).alloc _).alloc _)
  have d0 : u.cell? ⟨w.heap.size, 0, none⟩ = some (.pointer (some ⟨gb, 0, none⟩)) := by
    have h := cell_new w (.pointer (some ⟨gb, 0, none⟩)) 24
    have e : (w).heap.size = w.heap.size := by simp
    rw [e] at h
    rw [hu]; exact (cell_al _ _ (cell_al _ _ h))
  have d1 : u.cell? ⟨w.heap.size + 1, 0, none⟩ = some (.int .i64 x) := by
    have h := cell_new (w.alloc (.cells #[.pointer (some ⟨gb, 0, none⟩)] 24)) (.int .i64 x) 3
    have e : ((w.alloc (.cells #[.pointer (some ⟨gb, 0, none⟩)] 24))).heap.size = w.heap.size + 1 := by simp
    rw [e] at h
    rw [hu]; exact (cell_al _ _ h)
  have d2 : u.cell? ⟨w.heap.size + 1 + 1, 0, none⟩ = some (.int .i64 y) := by
    have h := cell_new ((w.alloc (.cells #[.pointer (some ⟨gb, 0, none⟩)] 24)).alloc (.cells #[.int .i64 x] 3)) (.int .i64 y) 3
    have e : (((w.alloc (.cells #[.pointer (some ⟨gb, 0, none⟩)] 24)).alloc (.cells #[.int .i64 x] 3))).heap.size = w.heap.size + 1 + 1 := by simp
    rw [e] at h
    rw [hu]; exact h
  have dW0 := d0
  rw [hu] at dW0
  have dW1 := d1
  rw [hu] at dW1
  have dW2 := d2
  rw [hu] at dW2
  obtain ⟨q, hq⟩ : ∃ q, Hid (allL g.n [x, y] = q) := ⟨_, Lib.hid rfl⟩
  have HI := Lib.hid (is_any (Y := fun _ => True) (.slice (some ⟨u.heap.size, 0, none⟩) 2 2) [x, y] (u.alloc (.cells #[.int .i64 x, .int .i64 y] 3)) (hGu.alloc _) (slx_lit u [x, y]) (by simp) q hq)
  have HII := Lib.hid hI
  have Hba := Lib.hid hba
  have Hn := Lib.hid hn
  have HK := Lib.hid hKu
  have HU := Lib.hid hu
  have HE := Lib.hid hsu.symm
  clear hG hI hba hn hKu hu hsu hGu
  cases q
  · obtain rfl : r = none := by rw [← hr.out, hq.out]; rfl
    go_enter Try.func33, Try.ntmps33
    (repeat (first | (with_reducible first | refine xA ?_ | refine xB ?_ | refine xC ?_ | refine xD ?_ | refine xH ?_ | refine xI rfl ?_ | refine xE ?_ | refine xF ?_ | refine xG ?_) | go_skip | go_guarded | (go_at_call 37; (rw [← HU.out, HE.out]); (with_reducible refine (HI.out).mono ?_); rintro _ w1 ⟨rfl, hG1, hb1⟩; clear dW0; clear dW1; clear dW2) | go_values | go_skip | go_guarded | go_step | go_upon | go_back | (dsimp only)))
    go_ret
    exact ⟨rfl, hG1, HK.out.trans (((Kept.refl X u).alloc _).trans (Kept.ofBelow hb1))⟩
  · obtain rfl : r = some (both g x y) := by rw [← hr.out, hq.out]; rfl
    have HQ := Lib.hid hq.out
    go_enter Try.func33, Try.ntmps33
    (repeat (first | (with_reducible first | refine xA ?_ | refine xB ?_ | refine xC ?_ | refine xD ?_ | refine xH ?_ | refine xI rfl ?_ | refine xE ?_ | refine xF ?_ | refine xG ?_) | go_skip | go_guarded | (go_at_call 37; (rw [← HU.out, HE.out]); (with_reducible refine (HI.out).mono ?_); rintro _ w1 ⟨rfl, hG1, hb1⟩; clear dW0; clear dW1; clear dW2; have hk1 : Kept (fun _ => True) u w1 := ((Kept.refl _ u).alloc _).trans (Kept.ofBelow hb1); have e0 := hk1.cell d0 trivial; have e1 := hk1.cell d1 trivial; have e2 := hk1.cell d2 trivial; clear d0; clear d1; clear d2; have HK1 := Lib.hid (HK.out.trans (hk1.mono fun _ _ _ => trivial))) | (go_at_call 35; (with_reducible refine (tryAnd2 w1 hG1 (Nat.le_trans Hba.out HK1.out.size) x y Hn.out HQ.out HII.out _ _ _ e0 e1 e2).mono ?_); rintro _ w3 ⟨rfl, hr⟩) | go_values | go_skip | go_guarded | go_step | go_upon | go_back | (dsimp only)))
    go_ret
    exact (show Int1 X base gb w1 _ _ w3 from ⟨rfl, hr⟩).from HK1.out

theorem xorC_any {X : Nat → Prop} {base gb : Nat} {g : G} {fr : List Int} {s : Nat → Bool} (w : World) (hG : GR X base w gb g) (hba : base ≤ w.heap.size) (x y : Int) (hn : g.n + 3 ≤ 1048576) (hL : ∀ z ∈ ([x, y] : List Int), isL g.n z) (hI : GI g fr s) (r : G × Int) (hr : Hid (odd g x y = r))
    (b0 b1 b2 : Nat) (c0 : w.cell? ⟨b0, 0, none⟩ = some (.pointer (some ⟨gb, 0, none⟩))) (c1 : w.cell? ⟨b1, 0, none⟩ = some (.int .i64 x)) (c2 : w.cell? ⟨b2, 0, none⟩ = some (.int .i64 y)) :
    Calls Try.prog 76 #[.pointer (some ⟨b0, 0, none⟩), .pointer (some ⟨b1, 0, none⟩), .pointer (some ⟨b2, 0, none⟩)] w (Int1 X base gb w r) := by
  have H := Lib.hid (odd_any w hG (Lib.hid (by omega)) hba x y (Lib.hid (hL x (by simp))) (Lib.hid (hL y (by simp))) (Lib.hid fun e he => (hI.xo e he).2.2.1) r hr)
  clear hG hba hn hL hI hr
  go_enter Try.func76, Try.ntmps76
  (repeat (first | (with_reducible first | refine xA ?_ | refine xB ?_ | refine xC ?_ | refine xD ?_ | refine xH ?_ | refine xI rfl ?_ | refine xE ?_ | refine xF ?_ | refine xG ?_) | go_skip | go_guarded | (go_at_call 77; (with_reducible refine (H.out).mono ?_); rintro _ w1 ⟨rfl, hG, hK⟩) | go_values | go_skip | go_guarded | go_step | go_upon | go_back | (dsimp only)))
  go_ret
  exact ⟨rfl, hG, hK⟩

set_option maxRecDepth 100000 in
theorem tryXor_any {X : Nat → Prop} {base gb : Nat} (w : World) (b0 b1 b2 : Nat) (r : G × Int) (hX : ∀ k, X k → k < w.heap.size)
    (hC : Calls Try.prog 76 #[.pointer (some ⟨b0, 0, none⟩), .pointer (some ⟨b1, 0, none⟩), .pointer (some ⟨b2, 0, none⟩)] (w.alloc (.cells #[.int .i64 0] 3)) (Int1 (fun k => X k ∨ k = w.heap.size) base gb (w.alloc (.cells #[.int .i64 0] 3)) r)) :
    Calls Try.prog 35 #[.func (Fn.func 76) #[] #[.pointer (some ⟨b0, 0, none⟩), .pointer (some ⟨b1, 0, none⟩), .pointer (some ⟨b2, 0, none⟩)]] w (Int1 X base gb w r) := by
  have hmf : ∀ (fn : Fn) (first cap : Array Value) (w : World), (Instr.makeFunc fn first cap).run Try.prog w = .ok (.func fn first cap) w := fun _ _ _ _ => rfl
  have HC := Lib.hid hC
  have HX := Lib.hid hX
  clear hC hX
  go_enter_defers Try.func35, Try.ntmps35
  (repeat (first | (with_reducible first | refine xA ?_ | refine xB ?_ | refine xC ?_ | refine xD ?_ | refine xH ?_ | refine xI rfl ?_ | refine xE ?_ | refine xF ?_ | refine xG ?_) | go_skip | go_guarded | (go_at_call 76; (with_reducible refine (HC.out).mono ?_); rintro _ w1 ⟨rfl, hG, hK⟩; have hh := hK.at (heap_alloc_new w _) (.inr rfl); have hc0 := cell_of_row w1 w.heap.size 0 _ _ _ hh; have hz0 := frozen_of_row w1 w.heap.size 0 _ _ hh; simp at hc0) | go_values | go_skip | go_guarded | go_step | go_upon | go_back | (dsimp only)))
  refine door_i (q := w.heap.size) (x := r.2) rfl (by simp [World.cell?, heap_setCell_same _ _ _ _ _ _ hh]) ?_
  exact int1_box hG hK HX.out ⟨rfl, rfl, rfl, by simp, fun k hk hn => heap_setCell_other _ _ k _ (fun e => hn (by rw [e]))⟩

/-- the deferring call, from where the boxes stand -/
theorem tryXor2 {X : Nat → Prop} {base gb : Nat} {g : G} {fr : List Int} {s : Nat → Bool} (w : World) (hG : GR X base w gb g) (hba : base ≤ w.heap.size) (x y : Int) (hn : g.n + 3 ≤ 1048576) (hq : allL g.n [x, y] = true) (hI : GI g fr s) (b0 b1 b2 : Nat) (c0 : w.cell? ⟨b0, 0, none⟩ = some (.pointer (some ⟨gb, 0, none⟩))) (c1 : w.cell? ⟨b1, 0, none⟩ = some (.int .i64 x)) (c2 : w.cell? ⟨b2, 0, none⟩ = some (.int .i64 y)) :
    Calls Try.prog 35 #[.func (Fn.func 76) #[] #[.pointer (some ⟨b0, 0, none⟩), .pointer (some ⟨b1, 0, none⟩), .pointer (some ⟨b2, 0, none⟩)]] w (Int1 X base gb w (odd g x y)) :=
  tryXor_any w b0 b1 b2 _ hG.xb (xorC_any (fr := fr) (s := s) _ (hG.owned (w' := w.alloc (.cells #[.int .i64 0] 3)) ⟨rfl, rfl, rfl, by simp, fun k hk _ => Below.heap_alloc w _ k hk⟩ (Nat.le_refl _) (by simp)) (by simp; omega) x y hn (allL_mem hq) hI _ (Lib.hid rfl) b0 b1 b2 (cell_al _ _ c0) (cell_al _ _ c1) (cell_al _ _ c2))

set_option maxRecDepth 100000 in
set_option maxHeartbeats 1000000 in
theorem Xor_any {X : Nat → Prop} {base gb : Nat} {g : G} {fr : List Int} {s : Nat → Bool} (w : World) (hG : GR X base w gb g) (hba : base ≤ w.heap.size) (x y : Int) (hn : g.n + 3 ≤ 1048576) (hI : GI g fr s) (r : Option (G × Int)) (hr : Hid ((if allL g.n [x, y] then some (odd g x y) else none) = r)) :
    Calls Try.prog 44 #[.pointer (some ⟨gb, 0, none⟩), .int .i64 x, .int .i64 y] w (IntR X base gb g w r) := by
  have hmf : ∀ (fn : Fn) (first cap : Array Value) (w : World), (Instr.makeFunc fn first cap).run Try.prog w = .ok (.func fn first cap) w := fun _ _ _ _ => rfl
  obtain ⟨u, hu⟩ : ∃ u, u = (((w.alloc (.cells #[.pointer (some ⟨gb, 0, none⟩)] 24)).alloc (.cells #[.int .i64 x] 3)).alloc (.cells #[.int .i64 y] 3)) := ⟨_, rfl⟩
  have hsu : u.heap.size = w.heap.size + 1 + 1 + 1 := by rw [hu]; simp
  have hGu : GR X base u gb g := by rw [hu]; exact (((hG.alloc (.cells #[.pointer (some ⟨gb, 0, none⟩)] 24)).alloc (.cells #[.int .i64 x] 3)).alloc (.cells #[.int .i64 y] 3))
  have hKu : Kept X w u := by rw [hu]; exact ((((Kept.refl X w).alloc _).alloc _).alloc _)
  have d0 : u.cell? ⟨w.heap.size, 0, none⟩ = some (.pointer (some ⟨gb, 0, none⟩)) := by
    have h := cell_new w (.pointer (some ⟨gb, 0, none⟩)) 24
    have e : (w).heap.size = w.heap.size := by simp
    rw [e] at h
    rw [hu]; exact (cell_al _ _ (cell_al _ _ h))
  have d1 : u.cell? ⟨w.heap.size + 1, 0, none⟩ = some (.int .i64 x) := by
    have h := cell_new (w.alloc (.cells #[.pointer (some ⟨gb, 0, none⟩)] 24)) (.int .i64 x) 3
    have e : ((w.alloc (.cells #[.pointer (some ⟨gb, 0, none⟩)] 24))).heap.size = w.heap.size + 1 := by simp
    rw [e] at h
    rw [hu]; exact (cell_al _ _ h)
  have d2 : u.cell? ⟨w.heap.size + 1 + 1, 0, none⟩ = some (.int .i64 y) := by
    have h := cell_new ((w.alloc (.cells #[.pointer (some ⟨gb, 0, none⟩)] 24)).alloc (.cells #[.int .i64 x] 3)) (.int .i64 y) 3
    have e : (((w.alloc (.cells #[.pointer (some ⟨gb, 0, none⟩)] 24)).alloc (.cells #[.int .i64 x] 3))).heap.size = w.heap.size + 1 + 1 := by simp
    rw [e] at h
    rw [hu]; exact h
  have dW0 := d0
  rw [hu] at dW0
  have dW1 := d1
  rw [hu] at dW1
  have dW2 := d2
  rw [hu] at dW2
  obtain ⟨q, hq⟩ : ∃ q, Hid (allL g.n [x, y] = q) := ⟨_, Lib.hid rfl⟩
  have HI := Lib.hid (is_any (Y := fun _ => True) (.slice (some ⟨u.heap.size, 0, none⟩) 2 2) [x, y] (u.alloc (.cells #[.int .i64 x, .int .i64 y] 3)) (hGu.alloc _) (slx_lit u [x, y]) (by simp) q hq)
  have HII := Lib.hid hI
  have Hba := Lib.hid hba
  have Hn := Lib.hid hn
  have HK := Lib.hid hKu
  have HU := Lib.hid hu
  have HE := Lib.hid hsu.symm
  clear hG hI hba hn hKu hu hsu hGu
  cases q
  · obtain rfl : r = none := by rw [← hr.out, hq.out]; rfl
    go_enter Try.func44, Try.ntmps44
    (repeat (first | (with_reducible first | refine xA ?_ | refine xB ?_ | refine xC ?_ | refine xD ?_ | refine xH ?_ | refine xI rfl ?_ | refine xE ?_ | refine xF ?_ | refine xG ?_) | go_skip | go_guarded | (go_at_call 37; (rw [← HU.out, HE.out]); (with_reducible refine (HI.out).mono ?_); rintro _ w1 ⟨rfl, hG1, hb1⟩; clear dW0; clear dW1; clear dW2) | go_values | go_skip | go_guarded | go_step | go_upon | go_back | (dsimp only)))
    go_ret
    exact ⟨rfl, hG1, HK.out.trans (((Kept.refl X u).alloc _).trans (Kept.ofBelow hb1))⟩
  · obtain rfl : r = some (odd g x y) := by rw [← hr.out, hq.out]; rfl
    have HQ := Lib.hid hq.out
    go_enter Try.func44, Try.ntmps44
    (repeat (first | (with_reducible first | refine xA ?_ | refine xB ?_ | refine xC ?_ | refine xD ?_ | refine xH ?_ | refine xI rfl ?_ | refine xE ?_ | refine xF ?_ | refine xG ?_) | go_skip | go_guarded | (go_at_call 37; (rw [← HU.out, HE.out]); (with_reducible refine (HI.out).mono ?_); rintro _ w1 ⟨rfl, hG1, hb1⟩; clear dW0; clear dW1; clear dW2; have hk1 : Kept (fun _ => True) u w1 := ((Kept.refl _ u).alloc _).trans (Kept.ofBelow hb1); have e0 := hk1.cell d0 trivial; have e1 := hk1.cell d1 trivial; have e2 := hk1.cell d2 trivial; clear d0; clear d1; clear d2; have HK1 := Lib.hid (HK.out.trans (hk1.mono fun _ _ _ => trivial))) | (go_at_call 35; (with_reducible refine (tryXor2 w1 hG1 (Nat.le_trans Hba.out HK1.out.size) x y Hn.out HQ.out HII.out _ _ _ e0 e1 e2).mono ?_); rintro _ w3 ⟨rfl, hr⟩) | go_values | go_skip | go_guarded | go_step | go_upon | go_back | (dsimp only)))
    go_ret
    exact (show Int1 X base gb w1 _ _ w3 from ⟨rfl, hr⟩).from HK1.out

theorem ifC_any {X : Nat → Prop} {base gb : Nat} {g : G} {fr : List Int} {s : Nat → Bool} (w : World) (hG : GR X base w gb g) (hba : base ≤ w.heap.size) (c x y : Int) (hn : g.n + 3 ≤ 1048576) (hL : ∀ z ∈ ([c, x, y] : List Int), isL g.n z) (hI : GI g fr s) (r : G × Int) (hr : Hid (choice g c x y = r))
    (b0 b1 b2 b3 : Nat) (c0 : w.cell? ⟨b0, 0, none⟩ = some (.pointer (some ⟨gb, 0, none⟩))) (c1 : w.cell? ⟨b1, 0, none⟩ = some (.int .i64 c)) (c2 : w.cell? ⟨b2, 0, none⟩ = some (.int .i64 x)) (c3 : w.cell? ⟨b3, 0, none⟩ = some (.int .i64 y)) :
    Calls Try.prog 78 #[.pointer (some ⟨b0, 0, none⟩), .pointer (some ⟨b1, 0, none⟩), .pointer (some ⟨b2, 0, none⟩), .pointer (some ⟨b3, 0, none⟩)] w (Int1 X base gb w r) := by
  have H := Lib.hid (choice_any w hG (Lib.hid hn) hba c x y (Lib.hid (hL c (by simp))) (Lib.hid (hL x (by simp))) (Lib.hid (hL y (by simp))) (Lib.hid hI) r hr)
  clear hG hba hn hL hI hr
  go_enter Try.func78, Try.ntmps78
  (repeat (first | (with_reducible first | refine xA ?_ | refine xB ?_ | refine xC ?_ | refine xD ?_ | refine xH ?_ | refine xI rfl ?_ | refine xE ?_ | refine xF ?_ | refine xG ?_) | go_skip | go_guarded | (go_at_call 75; (with_reducible refine (H.out).mono ?_); rintro _ w1 ⟨rfl, hG, hK⟩) | go_values | go_skip | go_guarded | go_step | go_upon | go_back | (dsimp only)))
  go_ret
  exact ⟨rfl, hG, hK⟩

set_option maxRecDepth 100000 in
theorem tryIf_any {X : Nat → Prop} {base gb : Nat} (w : World) (b0 b1 b2 b3 : Nat) (r : G × Int) (hX : ∀ k, X k → k < w.heap.size)
    (hC : Calls Try.prog 78 #[.pointer (some ⟨b0, 0, none⟩), .pointer (some ⟨b1, 0, none⟩), .pointer (some ⟨b2, 0, none⟩), .pointer (some ⟨b3, 0, none⟩)] (w.alloc (.cells #[.int .i64 0] 3)) (Int1 (fun k => X k ∨ k = w.heap.size) base gb (w.alloc (.cells #[.int .i64 0] 3)) r)) :
    Calls Try.prog 35 #[.func (Fn.func 78) #[] #[.pointer (some ⟨b0, 0, none⟩), .pointer (some ⟨b1, 0, none⟩), .pointer (some ⟨b2, 0, none⟩), .pointer (some ⟨b3, 0, none⟩)]] w (Int1 X base gb w r) := by
  have hmf : ∀ (fn : Fn) (first cap : Array Value) (w : World), (Instr.makeFunc fn first cap).run Try.prog w = .ok (.func fn first cap) w := fun _ _ _ _ => rfl
  have HC := Lib.hid hC
  have HX := Lib.hid hX
  clear hC hX
  go_enter_defers Try.func35, Try.ntmps35
  (repeat (first | (with_reducible first | refine xA ?_ | refine xB ?_ | refine xC ?_ | refine xD ?_ | refine xH ?_ | refine xI rfl ?_ | refine xE ?_ | refine xF ?_ | refine xG ?_) | go_skip | go_guarded | (go_at_call 78; (with_reducible refine (HC.out).mono ?_); rintro _ w1 ⟨rfl, hG, hK⟩; have hh := hK.at (heap_alloc_new w _) (.inr rfl); have hc0 := cell_of_row w1 w.heap.size 0 _ _ _ hh; have hz0 := frozen_of_row w1 w.heap.size 0 _ _ hh; simp at hc0) | go_values | go_skip | go_guarded | go_step | go_upon | go_back | (dsimp only)))
  refine door_i (q := w.heap.size) (x := r.2) rfl (by simp [World.cell?, heap_setCell_same _ _ _ _ _ _ hh]) ?_
  exact int1_box hG hK HX.out ⟨rfl, rfl, rfl, by simp, fun k hk hn => heap_setCell_other _ _ k _ (fun e => hn (by rw [e]))⟩

/-- the deferring call, from where the boxes stand -/
theorem tryIf2 {X : Nat → Prop} {base gb : Nat} {g : G} {fr : List Int} {s : Nat → Bool} (w : World) (hG : GR X base w gb g) (hba : base ≤ w.heap.size) (c x y : Int) (hn : g.n + 3 ≤ 1048576) (hq : allL g.n [c, x, y] = true) (hI : GI g fr s) (b0 b1 b2 b3 : Nat) (c0 : w.cell? ⟨b0, 0, none⟩ = some (.pointer (some ⟨gb, 0, none⟩))) (c1 : w.cell? ⟨b1, 0, none⟩ = some (.int .i64 c)) (c2 : w.cell? ⟨b2, 0, none⟩ = some (.int .i64 x)) (c3 : w.cell? ⟨b3, 0, none⟩ = some (.int .i64 y)) :
    Calls Try.prog 35 #[.func (Fn.func 78) #[] #[.pointer (some ⟨b0, 0, none⟩), .pointer (some ⟨b1, 0, none⟩), .pointer (some ⟨b2, 0, none⟩), .pointer (some ⟨b3, 0, none⟩)]] w (Int1 X base gb w (choice g c x y)) :=
  tryIf_any w b0 b1 b2 b3 _ hG.xb (ifC_any (fr := fr) (s := s) _ (hG.owned (w' := w.alloc (.cells #[.int .i64 0] 3)) ⟨rfl, rfl, rfl, by simp, fun k hk _ => Below.heap_alloc w _ k hk⟩ (Nat.le_refl _) (by simp)) (by simp; omega) c x y hn (allL_mem hq) hI _ (Lib.hid rfl) b0 b1 b2 b3 (cell_al _ _ c0) (cell_al _ _ c1) (cell_al _ _ c2) (cell_al _ _ c3))

set_option maxRecDepth 100000 in
set_option maxHeartbeats 1000000 in
theorem If_any {X : Nat → Prop} {base gb : Nat} {g : G} {fr : List Int} {s : Nat → Bool} (w : World) (hG : GR X base w gb g) (hba : base ≤ w.heap.size) (c x y : Int) (hn : g.n + 3 ≤ 1048576) (hI : GI g fr s) (r : Option (G × Int)) (hr : Hid ((if allL g.n [c, x, y] then some (choice g c x y) else none) = r)) :
    Calls Try.prog 45 #[.pointer (some ⟨gb, 0, none⟩), .int .i64 c, .int .i64 x, .int .i64 y] w (IntR X base gb g w r) := by
  have hmf : ∀ (fn : Fn) (first cap : Array Value) (w : World), (Instr.makeFunc fn first cap).run Try.prog w = .ok (.func fn first cap) w := fun _ _ _ _ => rfl
  obtain ⟨u, hu⟩ : ∃ u, u = ((((w.alloc (.cells #[.pointer (some ⟨gb, 0, none⟩)] 24)).alloc (.cells #[.int .i64 c] 3)).alloc (.cells #[.int .i64 x] 3)).alloc (.cells #[.int .i64 y] 3)) := ⟨_, rfl⟩
  have hsu : u.heap.size = w.heap.size + 1 + 1 + 1 + 1 := by rw [hu]; simp
  have hGu : GR X base u gb g := by rw [hu]; exact ((((hG.alloc (.cells #[.pointer (some ⟨gb, 0, none⟩)] 24)).alloc (.cells #[.int .i64 c] 3)).alloc (.cells #[.int .i64 x] 3)).alloc (.cells #[.int .i64 y] 3))
  have hKu : Kept X w u := by rw [hu]; exact (((((Kept.refl X w).alloc _).alloc _).alloc _).alloc _)
  have d0 : u.cell? ⟨w.heap.size, 0, none⟩ = some (.pointer (some ⟨gb, 0, none⟩)) := by
    have h := cell_new w (.pointer (some ⟨gb, 0, none⟩)) 24
    have e : (w).heap.size = w.heap.size := by simp
    rw [e] at h
    rw [hu]; exact (cell_al _ _ (cell_al _ _ (cell_al _ _ h)))
  have d1 : u.cell? ⟨w.heap.size + 1, 0, none⟩ = some (.int .i64 c) := by
    have h := cell_new (w.alloc (.cells #[.pointer (some ⟨gb, 0, none⟩)] 24)) (.int .i64 c) 3
    have e : ((w.alloc (.cells #[.pointer (some ⟨gb, 0, none⟩)] 24))).heap.size = w.heap.size + 1 := by simp
    rw [e] at h
    rw [hu]; exact (cell_al _ _ (cell_al _ _ h))
  have d2 : u.cell? ⟨w.heap.size + 1 + 1, 0, none⟩ = some (.int .i64 x) := by
    have h := cell_new ((w.alloc (.cells #[.pointer (some ⟨gb, 0, none⟩)] 24)).alloc (.cells #[.int .i64 c] 3)) (.int .i64 x) 3
    have e : (((w.alloc (.cells #[.pointer (some ⟨gb, 0, none⟩)] 24)).alloc (.cells #[.int .i64 c] 3))).heap.size = w.heap.size + 1 + 1 := by simp
    rw [e] at h
    rw [hu]; exact (cell_al _ _ h)
  have d3 : u.cell? ⟨w.heap.size + 1 + 1 + 1, 0, none⟩ = some (.int .i64 y) := by
    have h := cell_new (((w.alloc (.cells #[.pointer (some ⟨gb, 0, none⟩)] 24)).alloc (.cells #[.int .i64 c] 3)).alloc (.cells #[.int .i64 x] 3)) (.int .i64 y) 3
    have e : ((((w.alloc (.cells #[.pointer (some ⟨gb, 0, none⟩)] 24)).alloc (.cells #[.int .i64 c] 3)).alloc (.cells #[.int .i64 x] 3))).heap.size = w.heap.size + 1 + 1 + 1 := by simp
    rw [e] at h
    rw [hu]; exact h
  have dW0 := d0
  rw [hu] at dW0
  have dW1 := d1
  rw [hu] at dW1
  have dW2 := d2
  rw [hu] at dW2
  have dW3 := d3
  rw [hu] at dW3
  obtain ⟨q, hq⟩ : ∃ q, Hid (allL g.n [c, x, y] = q) := ⟨_, Lib.hid rfl⟩
  have HI := Lib.hid (is_any (Y := fun _ => True) (.slice (some ⟨u.heap.size, 0, none⟩) 3 3) [c, x, y] (u.alloc (.cells #[.int .i64 c, .int .i64 x, .int .i64 y] 3)) (hGu.alloc _) (slx_lit u [c, x, y]) (by simp) q hq)
  have HII := Lib.hid hI
  have Hba := Lib.hid hba
  have Hn := Lib.hid hn
  have HK := Lib.hid hKu
  have HU := Lib.hid hu
  have HE := Lib.hid hsu.symm
  clear hG hI hba hn hKu hu hsu hGu
  cases q
  · obtain rfl : r = none := by rw [← hr.out, hq.out]; rfl
    go_enter Try.func45, Try.ntmps45
    (repeat (first | (with_reducible first | refine xA ?_ | refine xB ?_ | refine xC ?_ | refine xD ?_ | refine xH ?_ | refine xI rfl ?_ | refine xE ?_ | refine xF ?_ | refine xG ?_) | go_skip | go_guarded | (go_at_call 37; (rw [← HU.out, HE.out]); (with_reducible refine (HI.out).mono ?_); rintro _ w1 ⟨rfl, hG1, hb1⟩; clear dW0; clear dW1; clear dW2; clear dW3) | go_values | go_skip | go_guarded | go_step | go_upon | go_back | (dsimp only)))
    go_ret
    exact ⟨rfl, hG1, HK.out.trans (((Kept.refl X u).alloc _).trans (Kept.ofBelow hb1))⟩
  · obtain rfl : r = some (choice g c x y) := by rw [← hr.out, hq.out]; rfl
    have HQ := Lib.hid hq.out
    go_enter Try.func45, Try.ntmps45
    (repeat (first | (with_reducible first | refine xA ?_ | refine xB ?_ | refine xC ?_ | refine xD ?_ | refine xH ?_ | refine xI rfl ?_ | refine xE ?_ | refine xF ?_ | refine xG ?_) | go_skip | go_guarded | (go_at_call 37; (rw [← HU.out, HE.out]); (with_reducible refine (HI.out).mono ?_); rintro _ w1 ⟨rfl, hG1, hb1⟩; clear dW0; clear dW1; clear dW2; clear dW3; have hk1 : Kept (fun _ => True) u w1 := ((Kept.refl _ u).alloc _).trans (Kept.ofBelow hb1); have e0 := hk1.cell d0 trivial; have e1 := hk1.cell d1 trivial; have e2 := hk1.cell d2 trivial; have e3 := hk1.cell d3 trivial; clear d0; clear d1; clear d2; clear d3; have HK1 := Lib.hid (HK.out.trans (hk1.mono fun _ _ _ => trivial))) | (go_at_call 35; (with_reducible refine (tryIf2 w1 hG1 (Nat.le_trans Hba.out HK1.out.size) c x y Hn.out HQ.out HII.out _ _ _ _ e0 e1 e2 e3).mono ?_); rintro _ w3 ⟨rfl, hr⟩) | go_values | go_skip | go_guarded | go_step | go_upon | go_back | (dsimp only)))
    go_ret
    exact (show Int1 X base gb w1 _ _ w3 from ⟨rfl, hr⟩).from HK1.out

end Go.Proofs.Ytmaogkgjiplckaa
