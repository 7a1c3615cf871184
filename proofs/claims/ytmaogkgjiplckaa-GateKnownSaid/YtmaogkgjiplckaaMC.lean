import Derived.Test.YtmaogkgjiplckaaMB
set_option linter.unusedSimpArgs false
set_option linter.unusedVariables false
namespace Go.Proofs.Ytmaogkgjiplckaa
open Go.RowKit
theorem isL_ok {n : Nat} {x : Int} (h : isL n x) (hn : n ≤ 1048576) : okL x := ⟨h.1, by have := h.2.2; omega, by have := h.2.1; omega⟩
theorem GI.ne {g : G} {fr : List Int} {s : Nat → Bool} (h : GI g fr s) : ∀ c ∈ g.cl, c ≠ [] := by
  rintro c hc rfl
  obtain ⟨x, hx, _⟩ := h.sat [] hc
  cases hx
theorem GI.der1 {g : G} {fr : List Int} {s : Nat → Bool} (h : GI g fr s) : ∃ x, Der g.cl fr x := ⟨_, h.det 1 (Nat.le_refl _) h.pos⟩
/-- what spreads over a Gates value's clauses from literals that go with its ground -/
theorem spread_q {X Y Z : Nat → Prop} {base gb : Nat} {g : G} {fr : List Int} {s : Nat → Bool} (q : Nat) (w1 : World) (hG : GR X base w1 gb g) (hI : GI g fr s) {vs : List Value} (hO : OwnW w1 q g.cl.length vs) (hS : SlsX Z w1 vs g.cl) {vf : Value} (hF : SlX Y w1 vf fr) (hfl : fr.length ≤ 1000000) :
    Calls Try.prog 34 #[.slice (some ⟨q, 0, none⟩) g.cl.length g.cl.length, vf] w1 fun e w' => ∃ v, e = .returned (.tuple #[v, .bool true]) ∧ (∃ a c, v = .slice a g.n c) ∧ w'.ownsRow w1.heap.size 3 1 v g.n ((toldL g.n s).map (Value.int .i64)) ∧ GR X base w' gb g ∧ Below w1.heap.size w1 w' := by
  have hn := hG.n1
  obtain ⟨_, _, _, _, _, hm, _⟩ := hG.clauses
  have hc := hm
  refine (Spread_any (Y := fun _ => True) w1 q g.cl.length vs g.cl vf fr hO.rows hO.lt (hS.mono fun _ _ _ => trivial) rfl (hF.mono fun _ _ _ => trivial) (fun c hc x hx => isL_ok (hI.rng c hc x hx) hn) (fun x hx => isL_ok (hI.frm x hx).1 hn) (by omega) (fun c hc => by have := hI.len c hc; omega) hfl hI.der1).mono ?_
  rintro e w' (⟨hcf, _⟩ | ⟨v, out, is, rfl, hO2, hi, hcons, hnod, hp, hs, _, hb⟩)
  · exact absurd hcf (no_conflict hI)
  · have ht := told_of hI hi hcons hnod hp hs
    subst ht
    rw [toldL_len] at hO2
    refine ⟨v, rfl, ?_, hO2, hG.below hb, hb⟩
    rcases hO2.2 with ⟨rfl, h0⟩ | ⟨q, cap, cur, rfl, _⟩
    · exact ⟨none, 0, by rw [h0]⟩
    · exact ⟨_, _, rfl⟩

set_option maxRecDepth 100000 in
set_option maxHeartbeats 1000000 in
theorem told_any {X Y : Nat → Prop} {base gb : Nat} {g : G} {fr : List Int} {s : Nat → Bool} (w : World) (hG : GR X base w gb g) (hI : GI g fr s) (vf : Value) (hF : SlX Y w vf fr) (hfl : fr.length ≤ 1000000) :
    Calls Try.prog 14 #[.pointer (some ⟨gb, 0, none⟩), vf] w fun e w' => ∃ v, e = .returned (.tuple #[v, .bool true]) ∧ (∃ a c, v = .slice a g.n c) ∧ w'.ownsRow w.heap.size 3 1 v g.n ((toldL g.n s).map (Value.int .i64)) ∧ GR X base w' gb g ∧ Below w.heap.size w w' := by
  have HCL := Lib.hid (Clauses_any w hG hI.ne (fun c hc => by have := hI.len c hc; omega))
  have HI := Lib.hid hI
  have HF := Lib.hid hF
  have HFL := Lib.hid hfl
  have hnn := hG.n1
  have hnI : (g.n : Int) ≤ 1048576 := by omega
  obtain ⟨af, cf, rfl⟩ := hF.shape
  clear hG hI hF hfl hnn
  go_enter Try.func14, Try.ntmps14
  (repeat (first | (with_reducible first | refine xA ?_ | refine xB ?_ | refine xC ?_ | refine xD ?_ | refine xH ?_ | refine xI rfl ?_ | refine xE ?_ | refine xF ?_ | refine xG ?_) | go_skip | go_guarded | (go_at_call 28; (with_reducible refine (HCL.out).mono ?_); rintro _ w1 ⟨rfl, ⟨vs, hO1, hS1⟩, hG1, hb1⟩; have HSP := Lib.hid (spread_q w.heap.size w1 hG1 HI.out hO1 hS1 (HF.out.kept (Kept.ofBelow hb1)) HFL.out); clear hO1 hS1) | (go_at_call 34; (with_reducible refine (HSP.out).mono ?_); rintro _ w2 ⟨v, rfl, hv, hO2, hG2, hb2⟩; obtain ⟨av, cv, rfl⟩ := hv) | (go_at_call 18; (with_reducible refine (Vars_any _ hG2).mono ?_); rintro _ w3 ⟨rfl, rfl⟩) | go_values | go_skip | go_guarded | go_step | go_upon | go_back | ((with_reducible show Oper.upon _ _ _ _ _ _); go_simp) | (dsimp only)))
  go_ret2
  exact ⟨_, rfl, ⟨_, _, rfl⟩, owns_base hO2 hb1.size, hG2, hb1.trans (hb2.mono hb1.size)⟩

end Go.Proofs.Ytmaogkgjiplckaa

set_option linter.unusedSimpArgs false
set_option linter.unusedVariables false
namespace Go.Proofs.Ytmaogkgjiplckaa
open Go.RowKit
set_option maxRecDepth 100000 in
theorem Is_any {Y : Nat → Prop} (w : World) (va : Value) (n : Nat) (s : Nat → Bool) (ha : SlX Y w va (toldL n s)) (x : Int) (hx : isL n x) (hn : n ≤ 1048576) (r : Bool) (hr : Hid (lit s x = r)) :
    Calls Try.prog 23 #[va, .int .i64 x] w fun e w' => e = .returned (.tuple #[.bool r, .bool true]) ∧ w' = w := by
  obtain ⟨ao, c, rfl⟩ := ha.shape
  obtain ⟨h0, h1, h2⟩ := hx
  have hl := toldL_len n s
  have hp : 0 < (toldL n s).length := by omega
  obtain ⟨b, o, rfl, _, _, _, hR⟩ := ha.row hp
  rw [hl]
  obtain ⟨V, hV⟩ : ∃ V : Int, absI x = V := ⟨_, rfl⟩
  have hV1 : 1 ≤ V ∧ V ≤ n := by unfold absI at hV; split at hV <;> omega
  have hg := toldL_get n s (V - 1).toNat (by omega)
  have hc' := hR (V - 1).toNat _ hg
  rw [show (V - 1).toNat + 1 = V.toNat by omega, show ((V - 1).toNat : Int) + 1 = V by omega, show (V - 1).toNat = V.toNat - 1 by omega] at hc'
  have i1 : ¬ V < 1 := by omega
  have i2 : ¬ V > (n : Int) := by omega
  have i3 : (0 : Int) ≤ V - 1 := by omega
  have i4 : V - 1 < (n : Int) := by omega
  have i6 : V ≤ 1048576 := by omega
  clear hg hR ha
  by_cases hx0 : x < 0
  · have ex : x = -V := by unfold absI at hV; rw [if_pos hx0] at hV; omega
    subst ex
    have hr' : r = !s V.toNat := by rw [← hr.out]; unfold lit; rw [if_neg (by omega), Int.neg_neg]
    have e0 : -(-V) = V := by omega
    cases hs : s V.toNat
    · rw [hs] at hc' hr'
      subst hr'
      simp only [Bool.false_eq_true, if_false] at hc'
      have t1 : (-V != V) = true := by simp; omega
      have t2 : (-V != -V) = false := by simp
      have t3 : (-V == -V) = true := by simp
      go_enter Try.func23, Try.ntmps23
      (repeat (first | (with_reducible first | refine xA ?_ | refine xB ?_ | refine xC ?_ | refine xD ?_ | refine xH ?_ | refine xI rfl ?_ | refine xE ?_ | refine xF ?_ | refine xG ?_) | go_values | go_skip | go_guarded | go_step | go_upon | go_back | ((with_reducible show Oper.upon _ _ _ _ _ _); go_simp) | (dsimp only)))
      go_ret2
      exact ⟨rfl, rfl⟩
    · rw [hs] at hc' hr'
      subst hr'
      simp only [if_true] at hc'
      have t1 : (V != V) = false := by simp
      have t3 : (V == -V) = false := by simp; omega
      go_enter Try.func23, Try.ntmps23
      (repeat (first | (with_reducible first | refine xA ?_ | refine xB ?_ | refine xC ?_ | refine xD ?_ | refine xH ?_ | refine xI rfl ?_ | refine xE ?_ | refine xF ?_ | refine xG ?_) | go_values | go_skip | go_guarded | go_step | go_upon | go_back | ((with_reducible show Oper.upon _ _ _ _ _ _); go_simp) | (dsimp only)))
      go_ret2
      exact ⟨rfl, rfl⟩
  · have ex : V = x := by unfold absI at hV; rw [if_neg hx0] at hV; omega
    subst ex
    have hr' : r = s V.toNat := by rw [← hr.out]; unfold lit; rw [if_pos (by omega)]
    cases hs : s V.toNat
    · rw [hs] at hc' hr'
      subst hr'
      simp only [Bool.false_eq_true, if_false] at hc'
      have t1 : (-V != V) = true := by simp; omega
      have t2 : (-V != -V) = false := by simp
      have t3 : (-V == V) = false := by simp; omega
      go_enter Try.func23, Try.ntmps23
      (repeat (first | (with_reducible first | refine xA ?_ | refine xB ?_ | refine xC ?_ | refine xD ?_ | refine xH ?_ | refine xI rfl ?_ | refine xE ?_ | refine xF ?_ | refine xG ?_) | go_values | go_skip | go_guarded | go_step | go_upon | go_back | ((with_reducible show Oper.upon _ _ _ _ _ _); go_simp) | (dsimp only)))
      go_ret2
      exact ⟨rfl, rfl⟩
    · rw [hs] at hc' hr'
      subst hr'
      simp only [if_true] at hc'
      have t1 : (V != V) = false := by simp
      have t3 : (V == V) = true := by simp
      go_enter Try.func23, Try.ntmps23
      (repeat (first | (with_reducible first | refine xA ?_ | refine xB ?_ | refine xC ?_ | refine xD ?_ | refine xH ?_ | refine xI rfl ?_ | refine xE ?_ | refine xF ?_ | refine xG ?_) | go_values | go_skip | go_guarded | go_step | go_upon | go_back | ((with_reducible show Oper.upon _ _ _ _ _ _); go_simp) | (dsimp only)))
      go_ret2
      exact ⟨rfl, rfl⟩

theorem bv_drop {l : List Int} {s : Nat → Bool} {i : Nat} {x : Int} (h : l[i]? = some x) : bv ((l.drop i).map (lit s)) = (if lit s x then 1 else 0) + 2 * bv ((l.drop (i + 1)).map (lit s)) := by
  rw [drop_at h, List.map_cons, bv]
set_option maxRecDepth 100000 in
set_option maxHeartbeats 1000000 in
theorem Word_any {Y Z : Nat → Prop} (w : World) (va vl : Value) (n : Nat) (s : Nat → Bool) (ha : SlX Y w va (toldL n s)) (l : List Int) (hl : SlX Z w vl l) (hx : ∀ x ∈ l, isL n x) (hn : n ≤ 1048576) (h64 : l.length ≤ 64) (r : Nat) (hr : Hid (bv (l.map (lit s)) = r)) :
    Calls Try.prog 15 #[va, vl] w fun e w' => e = .returned (.tuple #[.int .u64 r, .bool true]) ∧ w' = w := by
  obtain ⟨ao, c, rfl⟩ := ha.shape
  obtain ⟨al, cl, rfl⟩ := hl.shape
  have HA := Lib.hid ha
  have HL := Lib.hid hl
  have HX := Lib.hid hx
  have H64 := Lib.hid h64
  have h64I : (l.length : Int) ≤ 64 := by omega
  have h64N : ¬ (l.length : Int) > 64 := by omega
  clear ha hl hx h64
  go_enter Try.func15, Try.ntmps15
  (repeat (first | (with_reducible first | refine xA ?_ | refine xB ?_ | refine xC ?_ | refine xD ?_ | refine xH ?_ | refine xI rfl ?_ | refine xE ?_ | refine xF ?_ | refine xG ?_) | go_values | go_skip | go_guarded | go_step | go_upon | go_back | ((with_reducible show Oper.upon _ _ _ _ _ _); go_simp) | (dsimp only)))
  go_loopw [6, 7, 8, 9] (fun u i _ _ wr => ∃ (k a : Nat), k ≤ l.length ∧ i = .int .i64 ((k : Int) - 1) ∧ u = .int .u64 a ∧ Hid (bv ((l.drop k).map (lit s)) = a) ∧ wr = w) (fun _ i _ _ _ => ((intOf i) + 1).toNat)
  case atStart => exact ⟨l.length, 0, Nat.le_refl _, rfl, rfl, Lib.hid (by rw [List.drop_eq_nil_of_le (Nat.le_refl _)]; rfl), rfl⟩
  case round =>
    obtain ⟨k, a, hk, rfl, rfl, HB, rfl⟩ := hrel
    rcases Nat.eq_zero_or_pos k with rfl | hp
    · have hz : (((0 : Nat) : Int) - 1 ≥ 0) = False := by simp
      have ea : a = r := by rw [← hr.out, ← HB.out]; rfl
      subst ea
      (repeat (first | (with_reducible first | refine xA ?_ | refine xB ?_ | refine xC ?_ | refine xD ?_ | refine xH ?_ | refine xI rfl ?_ | refine xE ?_ | refine xF ?_ | refine xG ?_) | go_values | go_skip | go_guarded | go_step | go_upon | go_back | ((with_reducible show Oper.upon _ _ _ _ _ _); go_simp) | (dsimp only)))
      go_ret2
      exact ⟨rfl, rfl⟩
    · obtain ⟨i, rfl⟩ : ∃ i, k = i + 1 := ⟨k - 1, by omega⟩
      have e1 : ((i + 1 : Nat) : Int) - 1 = i := by omega
      rw [e1]
      obtain ⟨b, o, rfl, _, _, _, hR⟩ := HL.out.row (by omega)
      obtain ⟨x, hx⟩ : ∃ y, l[i]? = some y := ⟨_, List.getElem?_eq_getElem (by omega)⟩
      have hcx := hR i x hx
      have hI := HX.out x (List.mem_of_getElem? hx)
      obtain ⟨q, hq⟩ : ∃ q, Hid (lit s x = q) := ⟨_, Lib.hid rfl⟩
      have HI := Lib.hid (Is_any wr _ n s HA.out x hI hn q hq)
      have hlt := bv_lt ((l.drop (i + 1)).map (lit s))
      rw [HB.out, List.length_map, List.length_drop] at hlt
      have hpw : 2 ^ (l.length - (i + 1)) ≤ 9223372036854775808 := Nat.le_trans (Nat.pow_le_pow_right (by decide) (show l.length - (i + 1) ≤ 63 by have := H64.out; omega)) (by decide)
      have haI : (a : Int) < 9223372036854775808 := by omega
      have HD := Lib.hid (bv_drop (s := s) hx)
      rw [hq.out, HB.out] at HD
      have hi0 : (0 : Int) ≤ i := by omega
      have hi1 : (i : Int) < l.length := by omega
      have hge : ((i : Int) ≥ 0) := by omega
      clear hR hx hI hlt hpw e1 hp
      cases q
      · (repeat (first | (with_reducible first | refine xA ?_ | refine xB ?_ | refine xC ?_ | refine xD ?_ | refine xH ?_ | refine xI rfl ?_ | refine xE ?_ | refine xF ?_ | refine xG ?_) | go_skip | go_guarded | (go_at_call 23; (with_reducible refine (HI.out).mono ?_); rintro _ w1 ⟨rfl, rfl⟩) | go_values | go_skip | go_guarded | go_step | go_upon | go_back | ((with_reducible show Oper.upon _ _ _ _ _ _); go_simp) | (dsimp only)))
        exact ⟨⟨i, 2 * a, by omega, by go_num, by go_num, Lib.hid (HD.out.trans (by simp)), rfl⟩, by simp [intOf] <;> omega⟩
      · (repeat (first | (with_reducible first | refine xA ?_ | refine xB ?_ | refine xC ?_ | refine xD ?_ | refine xH ?_ | refine xI rfl ?_ | refine xE ?_ | refine xF ?_ | refine xG ?_) | go_skip | go_guarded | (go_at_call 23; (with_reducible refine (HI.out).mono ?_); rintro _ w1 ⟨rfl, rfl⟩) | go_values | go_skip | go_guarded | go_step | go_upon | go_back | ((with_reducible show Oper.upon _ _ _ _ _ _); go_simp) | (dsimp only)))
        exact ⟨⟨i, 1 + 2 * a, by omega, by go_num, by go_num, Lib.hid (HD.out.trans (by simp)), rfl⟩, by simp [intOf] <;> omega⟩

end Go.Proofs.Ytmaogkgjiplckaa

set_option linter.unusedSimpArgs false
set_option linter.unusedVariables false
namespace Go.Proofs.Ytmaogkgjiplckaa
open Go.RowKit
/-- one literal's answer -/
def Int1 (X : Nat → Prop) (base gb : Nat) (w : World) (r : G × Int) (e : Ending) (w' : World) : Prop := e = .returned (.int .i64 r.2) ∧ GR X base w' gb r.1 ∧ Kept X w w'
def IntR (X : Nat → Prop) (base gb : Nat) (g : G) (w : World) : Option (G × Int) → Ending → World → Prop
  | none, e, w' => e = .returned (.int .i64 0) ∧ GR X base w' gb g ∧ Kept X w w'
  | some r, e, w' => Int1 X base gb w r e w'
theorem int1_box {X : Nat → Prop} {base gb : Nat} {w w1 w2 : World} {r : G × Int} (hG : GR (fun k => X k ∨ k = w.heap.size) base w1 gb r.1) (hK : Kept (fun k => X k ∨ k = w.heap.size) (w.alloc (.cells #[.int .i64 0] 3)) w1) (hX : ∀ k, X k → k < w.heap.size)
    (hg : w1.grownBy w2 (some w.heap.size)) : Int1 X base gb w r (.returned (.int .i64 r.2)) w2 := by
  refine ⟨rfl, (hG.other hg (.inr rfl)).less (fun k hk => .inl hk), ?_⟩
  refine (((Kept.refl X w).alloc (.cells #[.int .i64 0] 3)).trans (hK.mono fun k _ h => .inl h)).grown hg ?_
  intro g e h1 h2
  injection e with e
  omega
theorem Int1.from {X : Nat → Prop} {base gb : Nat} {w w2 w' : World} {r : G × Int} {e : Ending} (h : Int1 X base gb w2 r e w') (hk : Kept X w w2) : Int1 X base gb w r e w' := ⟨h.1, h.2.1, hk.trans h.2.2⟩

theorem andC_any {X : Nat → Prop} {base gb : Nat} {g : G} {fr : List Int} {s : Nat → Bool} (w : World) (hG : GR X base w gb g) (hba : base ≤ w.heap.size) (x y : Int) (hn : g.n + 3 ≤ 1048576) (hL : ∀ z ∈ ([x, y] : List Int), isL g.n z) (hI : GI g fr s) (r : G × Int) (hr : Hid (both g x y = r))
    (b0 b1 b2 : Nat) (c0 : w.cell? ⟨b0, 0, none⟩ = some (.pointer (some ⟨gb, 0, none⟩))) (c1 : w.cell? ⟨b1, 0, none⟩ = some (.int .i64 x)) (c2 : w.cell? ⟨b2, 0, none⟩ = some (.int .i64 y)) :
    Calls Try.prog 63 #[.pointer (some ⟨b0, 0, none⟩), .pointer (some ⟨b1, 0, none⟩), .pointer (some ⟨b2, 0, none⟩)] w (Int1 X base gb w r) := by
  have H := Lib.hid (both_any w hG (Lib.hid (by omega)) hba x y (Lib.hid (hL x (by simp))) (Lib.hid (hL y (by simp))) r hr)
  clear hG hba hn hL hI hr
  go_enter Try.func63, Try.ntmps63
  (repeat (first | (with_reducible first | refine xA ?_ | refine xB ?_ | refine xC ?_ | refine xD ?_ | refine xH ?_ | refine xI rfl ?_ | refine xE ?_ | refine xF ?_ | refine xG ?_) | go_skip | go_guarded | (go_at_call 64; (with_reducible refine (H.out).mono ?_); rintro _ w1 ⟨rfl, hG, hK⟩) | go_values | go_skip | go_guarded | go_step | go_upon | go_back | ((with_reducible show Oper.upon _ _ _ _ _ _); go_simp) | (dsimp only)))
  go_ret
  exact ⟨rfl, hG, hK⟩

set_option maxRecDepth 100000 in
theorem tryAnd_any {X : Nat → Prop} {base gb : Nat} (w : World) (b0 b1 b2 : Nat) (r : G × Int) (hX : ∀ k, X k → k < w.heap.size)
    (hC : Calls Try.prog 63 #[.pointer (some ⟨b0, 0, none⟩), .pointer (some ⟨b1, 0, none⟩), .pointer (some ⟨b2, 0, none⟩)] (w.alloc (.cells #[.int .i64 0] 3)) (Int1 (fun k => X k ∨ k = w.heap.size) base gb (w.alloc (.cells #[.int .i64 0] 3)) r)) :
    Calls Try.prog 35 #[.func (Fn.func 63) #[] #[.pointer (some ⟨b0, 0, none⟩), .pointer (some ⟨b1, 0, none⟩), .pointer (some ⟨b2, 0, none⟩)]] w (Int1 X base gb w r) := by
  have hmf : ∀ (fn : Fn) (first cap : Array Value) (w : World), (Instr.makeFunc fn first cap).run Try.prog w = .ok (.func fn first cap) w := fun _ _ _ _ => rfl
  have HC := Lib.hid hC
  have HX := Lib.hid hX
  clear hC hX
  go_enter_defers Try.func35, Try.ntmps35
  (repeat (first | (with_reducible first | refine xA ?_ | refine xB ?_ | refine xC ?_ | refine xD ?_ | refine xH ?_ | refine xI rfl ?_ | refine xE ?_ | refine xF ?_ | refine xG ?_) | go_skip | go_guarded | (go_at_call 63; (with_reducible refine (HC.out).mono ?_); rintro _ w1 ⟨rfl, hG, hK⟩; have hh := hK.at (heap_alloc_new w _) (.inr rfl); have hc0 := cell_of_row w1 w.heap.size 0 _ _ _ hh; have hz0 := frozen_of_row w1 w.heap.size 0 _ _ hh; simp at hc0) | go_values | go_skip | go_guarded | go_step | go_upon | go_back | ((with_reducible show Oper.upon _ _ _ _ _ _); go_simp) | (dsimp only)))
  refine door_i (q := w.heap.size) (x := r.2) rfl (by simp [World.cell?, heap_setCell_same _ _ _ _ _ _ hh]) ?_
  exact int1_box hG hK HX.out ⟨rfl, rfl, rfl, by simp, fun k hk hn => heap_setCell_other _ _ k _ (fun e => hn (by rw [e]))⟩

/-- the deferring call, from where the boxes stand -/
theorem tryAnd2 {X : Nat → Prop} {base gb : Nat} {g : G} {fr : List Int} {s : Nat → Bool} (w : World) (hG : GR X base w gb g) (hba : base ≤ w.heap.size) (x y : Int) (hn : g.n + 3 ≤ 1048576) (hq : allL g.n [x, y] = true) (hI : GI g fr s) (b0 b1 b2 : Nat) (c0 : w.cell? ⟨b0, 0, none⟩ = some (.pointer (some ⟨gb, 0, none⟩))) (c1 : w.cell? ⟨b1, 0, none⟩ = some (.int .i64 x)) (c2 : w.cell? ⟨b2, 0, none⟩ = some (.int .i64 y)) :
    Calls Try.prog 35 #[.func (Fn.func 63) #[] #[.pointer (some ⟨b0, 0, none⟩), .pointer (some ⟨b1, 0, none⟩), .pointer (some ⟨b2, 0, none⟩)]] w (Int1 X base gb w (both g x y)) :=
  tryAnd_any w b0 b1 b2 _ hG.xb (andC_any (fr := fr) (s := s) _ (hG.owned (w' := w.alloc (.cells #[.int .i64 0] 3)) ⟨rfl, rfl, rfl, by simp, fun k hk _ => Below.heap_alloc w _ k hk⟩ (Nat.le_refl _) (by simp)) (by simp; omega) x y hn (allL_mem hq) hI _ (Lib.hid rfl) b0 b1 b2 (cell_al _ _ c0) (cell_al _ _ c1) (cell_al _ _ c2))

set_option maxRecDepth 100000 in
set_option maxHeartbeats 1000000 in
theorem And_any {X : Nat → Prop} {base gb : Nat} {g : G} {fr : List Int} {s : Nat → Bool} (w : World) (hG : GR X base w gb g) (hba : base ≤ w.heap.size) (x y : Int) (hn : g.n + 3 ≤ 1048576) (hI : GI g fr s) (r : Option (G × Int)) (hr : Hid ((if allL g.n [x, y] then some (both g x y) else none) = r)) :
    Calls Try.prog 33 #[.pointer (some ⟨gb, 0, none⟩), .int .i64 x, .int .i64 y] w (IntR X base gb g w r) := by
  have hmf : ∀ (fn : Fn) (first cap : Array Value) (w : World), (Instr.makeFunc fn first cap).run Try.prog w = .ok (.func fn first cap) w := fun _ _ _ _ => rfl
  obtain ⟨u, hu⟩ : ∃ u, u = (((w.alloc (.cells #[.pointer (some ⟨gb, 0, none⟩)] 24)).alloc (.cells #[.int .i64 x] 3)).alloc (.cells #[.int .i64 y] 3)) := ⟨_, rfl⟩
  have hsu : u.heap.size = w.heap.size + 1 + 1 + 1 := by rw [hu]; simp
  have hGu : GR X base u gb g := by rw [hu]; exact (((hG.alloc (.cells #[.pointer (some ⟨gb, 0, none⟩)] 24)).alloc (.cells #[.int .i64 x] 3)).alloc (.cells #[.int .i64 y] 3))
  have hKu : Kept X w u := by rw [hu]; exact ((((Kept.refl X w).alloc _).alloc _).alloc _)
  have d0 : u.cell? ⟨w.heap.size, 0, none⟩ = some (.pointer (some ⟨gb, 0, none⟩)) := by
    have h := cell_new w (.pointer (some ⟨gb, 0, none⟩)) 24
    have e : (w).heap.size = w.heap.size := by simp
    rw [e] at h
    rw [hu]; exact (cell_al _ _ (cell_al _ _ h))
  have d1 : u.cell? ⟨w.heap.size + 1, 0, none⟩ = some (.int .i64 x) := by
    have h := cell_new (w.alloc (.cells #[.pointer (some ⟨gb, 0, none⟩)] 24)) (.int .i64 x) 3
    have e : ((w.alloc (.cells #[.pointer (some ⟨gb, 0, none⟩)] 24))).heap.size = w.heap.size + 1 := by simp
    rw [e] at h
    rw [hu]; exact (cell_al _ _ h)
  have d2 : u.cell? ⟨w.heap.size + 1 + 1, 0, none⟩ = some (.int .i64 y) := by
    have h := cell_new ((w.alloc (.cells #[.pointer (some ⟨gb, 0, none⟩)] 24)).alloc (.cells #[.int .i64 x] 3)) (.int .i64 y) 3
    have e : (((w.alloc (.cells #[.pointer (some ⟨gb, 0, none⟩)] 24)).alloc (.cells #[.int .i64 x] 3))).heap.size = w.heap.size + 1 + 1 := by simp
    rw [e] at h
    rw [hu]; exact h
  have dW0 := d0
  rw [hu] at dW0
  have dW1 := d1
  rw [hu] at dW1
  have dW2 := d2
  rw [hu] at dW2
  obtain ⟨q, hq⟩ : ∃ q, Hid (allL g.n [x, y] = q) := ⟨_, Lib.hid rfl⟩
  have HI := Lib.hid (is_any (Y := fun _ => True) (.slice (some ⟨u.heap.size, 0, none⟩) 2 2) [x, y] (u.alloc (.cells #[.int .i64 x, .int .i64 y] 3)) (hGu.alloc _) (slx_lit u [x, y]) (by simp) q hq)
  have HII := Lib.hid hI
  have Hba := Lib.hid hba
  have Hn := Lib.hid hn
  have HK := Lib.hid hKu
  have HU := Lib.hid hu
  have HE := Lib.hid hsu.symm
  clear hG hI hba hn hKu hu hsu hGu
  cases q
  · obtain rfl : r = none := by rw [← hr.out, hq.out]; rfl
    go_enter Try.func33, Try.ntmps33
    (repeat (first | (with_reducible first | refine xA ?_ | refine xB ?_ | refine xC ?_ | refine xD ?_ | refine xH ?_ | refine xI rfl ?_ | refine xE ?_ | refine xF ?_ | refine xG ?_) | go_skip | go_guarded | (go_at_call 37; (rw [← HU.out, HE.out]); (with_reducible refine (HI.out).mono ?_); rintro _ w1 ⟨rfl, hG1, hb1⟩; clear dW0; clear dW1; clear dW2) | go_values | go_skip | go_guarded | go_step | go_upon | go_back | ((with_reducible show Oper.upon _ _ _ _ _ _); go_simp) | (dsimp only)))
    go_ret
    exact ⟨rfl, hG1, HK.out.trans (((Kept.refl X u).alloc _).trans (Kept.ofBelow hb1))⟩
  · obtain rfl : r = some (both g x y) := by rw [← hr.out, hq.out]; rfl
    have HQ := Lib.hid hq.out
    go_enter Try.func33, Try.ntmps33
    (repeat (first | (with_reducible first | refine xA ?_ | refine xB ?_ | refine xC ?_ | refine xD ?_ | refine xH ?_ | refine xI rfl ?_ | refine xE ?_ | refine xF ?_ | refine xG ?_) | go_skip | go_guarded | (go_at_call 37; (rw [← HU.out, HE.out]); (with_reducible refine (HI.out).mono ?_); rintro _ w1 ⟨rfl, hG1, hb1⟩; clear dW0; clear dW1; clear dW2; have hk1 : Kept (fun _ => True) u w1 := ((Kept.refl _ u).alloc _).trans (Kept.ofBelow hb1); have e0 := hk1.cell d0 trivial; have e1 := hk1.cell d1 trivial; have e2 := hk1.cell d2 trivial; clear d0; clear d1; clear d2; have HK1 := Lib.hid (HK.out.trans (hk1.mono fun _ _ _ => trivial))) | (go_at_call 35; (with_reducible refine (tryAnd2 w1 hG1 (Nat.le_trans Hba.out HK1.out.size) x y Hn.out HQ.out HII.out _ _ _ e0 e1 e2).mono ?_); rintro _ w3 ⟨rfl, hr⟩) | go_values | go_skip | go_guarded | go_step | go_upon | go_back | ((with_reducible show Oper.upon _ _ _ _ _ _); go_simp) | (dsimp only)))
    go_ret
    exact (show Int1 X base gb w1 _ _ w3 from ⟨rfl, hr⟩).from HK1.out

theorem xorC_any {X : Nat → Prop} {base gb : Nat} {g : G} {fr : List Int} {s : Nat → Bool} (w : World) (hG : GR X base w gb g) (hba : base ≤ w.heap.size) (x y : Int) (hn : g.n + 3 ≤ 1048576) (hL : ∀ z ∈ ([x, y] : List Int), isL g.n z) (hI : GI g fr s) (r : G × Int) (hr : Hid (odd g x y = r))
    (b0 b1 b2 : Nat) (c0 : w.cell? ⟨b0, 0, none⟩ = some (.pointer (some ⟨gb, 0, none⟩))) (c1 : w.cell? ⟨b1, 0, none⟩ = some (.int .i64 x)) (c2 : w.cell? ⟨b2, 0, none⟩ = some (.int .i64 y)) :
    Calls Try.prog 76 #[.pointer (some ⟨b0, 0, none⟩), .pointer (some ⟨b1, 0, none⟩), .pointer (some ⟨b2, 0, none⟩)] w (Int1 X base gb w r) := by
  have H := Lib.hid (odd_any w hG (Lib.hid (by omega)) hba x y (Lib.hid (hL x (by simp))) (Lib.hid (hL y (by simp))) (Lib.hid fun e he => (hI.xo e he).2.2.1) r hr)
  clear hG hba hn hL hI hr
  go_enter Try.func76, Try.ntmps76
  (repeat (first | (with_reducible first | refine xA ?_ | refine xB ?_ | refine xC ?_ | refine xD ?_ | refine xH ?_ | refine xI rfl ?_ | refine xE ?_ | refine xF ?_ | refine xG ?_) | go_skip | go_guarded | (go_at_call 77; (with_reducible refine (H.out).mono ?_); rintro _ w1 ⟨rfl, hG, hK⟩) | go_values | go_skip | go_guarded | go_step | go_upon | go_back | ((with_reducible show Oper.upon _ _ _ _ _ _); go_simp) | (dsimp only)))
  go_ret
  exact ⟨rfl, hG, hK⟩

set_option maxRecDepth 100000 in
theorem tryXor_any {X : Nat → Prop} {base gb : Nat} (w : World) (b0 b1 b2 : Nat) (r : G × Int) (hX : ∀ k, X k → k < w.heap.size)
    (hC : Calls Try.prog 76 #[.pointer (some ⟨b0, 0, none⟩), .pointer (some ⟨b1, 0, none⟩), .pointer (some ⟨b2, 0, none⟩)] (w.alloc (.cells #[.int .i64 0] 3)) (Int1 (fun k => X k ∨ k = w.heap.size) base gb (w.alloc (.cells #[.int .i64 0] 3)) r)) :
    Calls Try.prog 35 #[.func (Fn.func 76) #[] #[.pointer (some ⟨b0, 0, none⟩), .pointer (some ⟨b1, 0, none⟩), .pointer (some ⟨b2, 0, none⟩)]] w (Int1 X base gb w r) := by
  have hmf : ∀ (fn : Fn) (first cap : Array Value) (w : World), (Instr.makeFunc fn first cap).run Try.prog w = .ok (.func fn first cap) w := fun _ _ _ _ => rfl
  have HC := Lib.hid hC
  have HX := Lib.hid hX
  clear hC hX
  go_enter_defers Try.func35, Try.ntmps35
  (repeat (first | (with_reducible first | refine xA ?_ | refine xB ?_ | refine xC ?_ | refine xD ?_ | refine xH ?_ | refine xI rfl ?_ | refine xE ?_ | refine xF ?_ | refine xG ?_) | go_skip | go_guarded | (go_at_call 76; (with_reducible refine (HC.out).mono ?_); rintro _ w1 ⟨rfl, hG, hK⟩; have hh := hK.at (heap_alloc_new w _) (.inr rfl); have hc0 := cell_of_row w1 w.heap.size 0 _ _ _ hh; have hz0 := frozen_of_row w1 w.heap.size 0 _ _ hh; simp at hc0) | go_values | go_skip | go_guarded | go_step | go_upon | go_back | ((with_reducible show Oper.upon _ _ _ _ _ _); go_simp) | (dsimp only)))
  refine door_i (q := w.heap.size) (x := r.2) rfl (by simp [World.cell?, heap_setCell_same _ _ _ _ _ _ hh]) ?_
  exact int1_box hG hK HX.out ⟨rfl, rfl, rfl, by simp, fun k hk hn => heap_setCell_other _ _ k _ (fun e => hn (by rw [e]))⟩

/-- the deferring call, from where the boxes stand -/
theorem tryXor2 {X : Nat → Prop} {base gb : Nat} {g : G} {fr : List Int} {s : Nat → Bool} (w : World) (hG : GR X base w gb g) (hba : base ≤ w.heap.size) (x y : Int) (hn : g.n + 3 ≤ 1048576) (hq : allL g.n [x, y] = true) (hI : GI g fr s) (b0 b1 b2 : Nat) (c0 : w.cell? ⟨b0, 0, none⟩ = some (.pointer (some ⟨gb, 0, none⟩))) (c1 : w.cell? ⟨b1, 0, none⟩ = some (.int .i64 x)) (c2 : w.cell? ⟨b2, 0, none⟩ = some (.int .i64 y)) :
    Calls Try.prog 35 #[.func (Fn.func 76) #[] #[.pointer (some ⟨b0, 0, none⟩), .pointer (some ⟨b1, 0, none⟩), .pointer (some ⟨b2, 0, none⟩)]] w (Int1 X base gb w (odd g x y)) :=
  tryXor_any w b0 b1 b2 _ hG.xb (xorC_any (fr := fr) (s := s) _ (hG.owned (w' := w.alloc (.cells #[.int .i64 0] 3)) ⟨rfl, rfl, rfl, by simp, fun k hk _ => Below.heap_alloc w _ k hk⟩ (Nat.le_refl _) (by simp)) (by simp; omega) x y hn (allL_mem hq) hI _ (Lib.hid rfl) b0 b1 b2 (cell_al _ _ c0) (cell_al _ _ c1) (cell_al _ _ c2))

set_option maxRecDepth 100000 in
set_option maxHeartbeats 1000000 in
theorem Xor_any {X : Nat → Prop} {base gb : Nat} {g : G} {fr : List Int} {s : Nat → Bool} (w : World) (hG : GR X base w gb g) (hba : base ≤ w.heap.size) (x y : Int) (hn : g.n + 3 ≤ 1048576) (hI : GI g fr s) (r : Option (G × Int)) (hr : Hid ((if allL g.n [x, y] then some (odd g x y) else none) = r)) :
    Calls Try.prog 44 #[.pointer (some ⟨gb, 0, none⟩), .int .i64 x, .int .i64 y] w (IntR X base gb g w r) := by
  have hmf : ∀ (fn : Fn) (first cap : Array Value) (w : World), (Instr.makeFunc fn first cap).run Try.prog w = .ok (.func fn first cap) w := fun _ _ _ _ => rfl
  obtain ⟨u, hu⟩ : ∃ u, u = (((w.alloc (.cells #[.pointer (some ⟨gb, 0, none⟩)] 24)).alloc (.cells #[.int .i64 x] 3)).alloc (.cells #[.int .i64 y] 3)) := ⟨_, rfl⟩
  have hsu : u.heap.size = w.heap.size + 1 + 1 + 1 := by rw [hu]; simp
  have hGu : GR X base u gb g := by rw [hu]; exact (((hG.alloc (.cells #[.pointer (some ⟨gb, 0, none⟩)] 24)).alloc (.cells #[.int .i64 x] 3)).alloc (.cells #[.int .i64 y] 3))
  have hKu : Kept X w u := by rw [hu]; exact ((((Kept.refl X w).alloc _).alloc _).alloc _)
  have d0 : u.cell? ⟨w.heap.size, 0, none⟩ = some (.pointer (some ⟨gb, 0, none⟩)) := by
    have h := cell_new w (.pointer (some ⟨gb, 0, none⟩)) 24
    have e : (w).heap.size = w.heap.size := by simp
    rw [e] at h
    rw [hu]; exact (cell_al _ _ (cell_al _ _ h))
  have d1 : u.cell? ⟨w.heap.size + 1, 0, none⟩ = some (.int .i64 x) := by
    have h := cell_new (w.alloc (.cells #[.pointer (some ⟨gb, 0, none⟩)] 24)) (.int .i64 x) 3
    have e : ((w.alloc (.cells #[.pointer (some ⟨gb, 0, none⟩)] 24))).heap.size = w.heap.size + 1 := by simp
    rw [e] at h
    rw [hu]; exact (cell_al _ _ h)
  have d2 : u.cell? ⟨w.heap.size + 1 + 1, 0, none⟩ = some (.int .i64 y) := by
    have h := cell_new ((w.alloc (.cells #[.pointer (some ⟨gb, 0, none⟩)] 24)).alloc (.cells #[.int .i64 x] 3)) (.int .i64 y) 3
    have e : (((w.alloc (.cells #[.pointer (some ⟨gb, 0, none⟩)] 24)).alloc (.cells #[.int .i64 x] 3))).heap.size = w.heap.size + 1 + 1 := by simp
    rw [e] at h
    rw [hu]; exact h
  have dW0 := d0
  rw [hu] at dW0
  have dW1 := d1
  rw [hu] at dW1
  have dW2 := d2
  rw [hu] at dW2
  obtain ⟨q, hq⟩ : ∃ q, Hid (allL g.n [x, y] = q) := ⟨_, Lib.hid rfl⟩
  have HI := Lib.hid (is_any (Y := fun _ => True) (.slice (some ⟨u.heap.size, 0, none⟩) 2 2) [x, y] (u.alloc (.cells #[.int .i64 x, .int .i64 y] 3)) (hGu.alloc _) (slx_lit u [x, y]) (by simp) q hq)
  have HII := Lib.hid hI
  have Hba := Lib.hid hba
  have Hn := Lib.hid hn
  have HK := Lib.hid hKu
  have HU := Lib.hid hu
  have HE := Lib.hid hsu.symm
  clear hG hI hba hn hKu hu hsu hGu
  cases q
  · obtain rfl : r = none := by rw [← hr.out, hq.out]; rfl
    go_enter Try.func44, Try.ntmps44
    (repeat (first | (with_reducible first | refine xA ?_ | refine xB ?_ | refine xC ?_ | refine xD ?_ | refine xH ?_ | refine xI rfl ?_ | refine xE ?_ | refine xF ?_ | refine xG ?_) | go_skip | go_guarded | (go_at_call 37; (rw [← HU.out, HE.out]); (with_reducible refine (HI.out).mono ?_); rintro _ w1 ⟨rfl, hG1, hb1⟩; clear dW0; clear dW1; clear dW2) | go_values | go_skip | go_guarded | go_step | go_upon | go_back | ((with_reducible show Oper.upon _ _ _ _ _ _); go_simp) | (dsimp only)))
    go_ret
    exact ⟨rfl, hG1, HK.out.trans (((Kept.refl X u).alloc _).trans (Kept.ofBelow hb1))⟩
  · obtain rfl : r = some (odd g x y) := by rw [← hr.out, hq.out]; rfl
    have HQ := Lib.hid hq.out
    go_enter Try.func44, Try.ntmps44
    (repeat (first | (with_reducible first | refine xA ?_ | refine xB ?_ | refine xC ?_ | refine xD ?_ | refine xH ?_ | refine xI rfl ?_ | refine xE ?_ | refine xF ?_ | refine xG ?_) | go_skip | go_guarded | (go_at_call 37; (rw [← HU.out, HE.out]); (with_reducible refine (HI.out).mono ?_); rintro _ w1 ⟨rfl, hG1, hb1⟩; clear dW0; clear dW1; clear dW2; have hk1 : Kept (fun _ => True) u w1 := ((Kept.refl _ u).alloc _).trans (Kept.ofBelow hb1); have e0 := hk1.cell d0 trivial; have e1 := hk1.cell d1 trivial; have e2 := hk1.cell d2 trivial; clear d0; clear d1; clear d2; have HK1 := Lib.hid (HK.out.trans (hk1.mono fun _ _ _ => trivial))) | (go_at_call 35; (with_reducible refine (tryXor2 w1 hG1 (Nat.le_trans Hba.out HK1.out.size) x y Hn.out HQ.out HII.out _ _ _ e0 e1 e2).mono ?_); rintro _ w3 ⟨rfl, hr⟩) | go_values | go_skip | go_guarded | go_step | go_upon | go_back | ((with_reducible show Oper.upon _ _ _ _ _ _); go_simp) | (dsimp only)))
    go_ret
    exact (show Int1 X base gb w1 _ _ w3 from ⟨rfl, hr⟩).from HK1.out

theorem ifC_any {X : Nat → Prop} {base gb : Nat} {g : G} {fr : List Int} {s : Nat → Bool} (w : World) (hG : GR X base w gb g) (hba : base ≤ w.heap.size) (c x y : Int) (hn : g.n + 3 ≤ 1048576) (hL : ∀ z ∈ ([c, x, y] : List Int), isL g.n z) (hI : GI g fr s) (r : G × Int) (hr : Hid (choice g c x y = r))
    (b0 b1 b2 b3 : Nat) (c0 : w.cell? ⟨b0, 0, none⟩ = some (.pointer (some ⟨gb, 0, none⟩))) (c1 : w.cell? ⟨b1, 0, none⟩ = some (.int .i64 c)) (c2 : w.cell? ⟨b2, 0, none⟩ = some (.int .i64 x)) (c3 : w.cell? ⟨b3, 0, none⟩ = some (.int .i64 y)) :
    Calls Try.prog 78 #[.pointer (some ⟨b0, 0, none⟩), .pointer (some ⟨b1, 0, none⟩), .pointer (some ⟨b2, 0, none⟩), .pointer (some ⟨b3, 0, none⟩)] w (Int1 X base gb w r) := by
  have H := Lib.hid (choice_any w hG (Lib.hid hn) hba c x y (Lib.hid (hL c (by simp))) (Lib.hid (hL x (by simp))) (Lib.hid (hL y (by simp))) (Lib.hid hI) r hr)
  clear hG hba hn hL hI hr
  go_enter Try.func78, Try.ntmps78
  (repeat (first | (with_reducible first | refine xA ?_ | refine xB ?_ | refine xC ?_ | refine xD ?_ | refine xH ?_ | refine xI rfl ?_ | refine xE ?_ | refine xF ?_ | refine xG ?_) | go_skip | go_guarded | (go_at_call 75; (with_reducible refine (H.out).mono ?_); rintro _ w1 ⟨rfl, hG, hK⟩) | go_values | go_skip | go_guarded | go_step | go_upon | go_back | ((with_reducible show Oper.upon _ _ _ _ _ _); go_simp) | (dsimp only)))
  go_ret
  exact ⟨rfl, hG, hK⟩

set_option maxRecDepth 100000 in
theorem tryIf_any {X : Nat → Prop} {base gb : Nat} (w : World) (b0 b1 b2 b3 : Nat) (r : G × Int) (hX : ∀ k, X k → k < w.heap.size)
    (hC : Calls Try.prog 78 #[.pointer (some ⟨b0, 0, none⟩), .pointer (some ⟨b1, 0, none⟩), .pointer (some ⟨b2, 0, none⟩), .pointer (some ⟨b3, 0, none⟩)] (w.alloc (.cells #[.int .i64 0] 3)) (Int1 (fun k => X k ∨ k = w.heap.size) base gb (w.alloc (.cells #[.int .i64 0] 3)) r)) :
    Calls Try.prog 35 #[.func (Fn.func 78) #[] #[.pointer (some ⟨b0, 0, none⟩), .pointer (some ⟨b1, 0, none⟩), .pointer (some ⟨b2, 0, none⟩), .pointer (some ⟨b3, 0, none⟩)]] w (Int1 X base gb w r) := by
  have hmf : ∀ (fn : Fn) (first cap : Array Value) (w : World), (Instr.makeFunc fn first cap).run Try.prog w = .ok (.func fn first cap) w := fun _ _ _ _ => rfl
  have HC := Lib.hid hC
  have HX := Lib.hid hX
  clear hC hX
  go_enter_defers Try.func35, Try.ntmps35
  (repeat (first | (with_reducible first | refine xA ?_ | refine xB ?_ | refine xC ?_ | refine xD ?_ | refine xH ?_ | refine xI rfl ?_ | refine xE ?_ | refine xF ?_ | refine xG ?_) | go_skip | go_guarded | (go_at_call 78; (with_reducible refine (HC.out).mono ?_); rintro _ w1 ⟨rfl, hG, hK⟩; have hh := hK.at (heap_alloc_new w _) (.inr rfl); have hc0 := cell_of_row w1 w.heap.size 0 _ _ _ hh; have hz0 := frozen_of_row w1 w.heap.size 0 _ _ hh; simp at hc0) | go_values | go_skip | go_guarded | go_step | go_upon | go_back | ((with_reducible show Oper.upon _ _ _ _ _ _); go_simp) | (dsimp only)))
  refine door_i (q := w.heap.size) (x := r.2) rfl (by simp [World.cell?, heap_setCell_same _ _ _ _ _ _ hh]) ?_
  exact int1_box hG hK HX.out ⟨rfl, rfl, rfl, by simp, fun k hk hn => heap_setCell_other _ _ k _ (fun e => hn (by rw [e]))⟩

/-- the deferring call, from where the boxes stand -/
theorem tryIf2 {X : Nat → Prop} {base gb : Nat} {g : G} {fr : List Int} {s : Nat → Bool} (w : World) (hG : GR X base w gb g) (hba : base ≤ w.heap.size) (c x y : Int) (hn : g.n + 3 ≤ 1048576) (hq : allL g.n [c, x, y] = true) (hI : GI g fr s) (b0 b1 b2 b3 : Nat) (c0 : w.cell? ⟨b0, 0, none⟩ = some (.pointer (some ⟨gb, 0, none⟩))) (c1 : w.cell? ⟨b1, 0, none⟩ = some (.int .i64 c)) (c2 : w.cell? ⟨b2, 0, none⟩ = some (.int .i64 x)) (c3 : w.cell? ⟨b3, 0, none⟩ = some (.int .i64 y)) :
    Calls Try.prog 35 #[.func (Fn.func 78) #[] #[.pointer (some ⟨b0, 0, none⟩), .pointer (some ⟨b1, 0, none⟩), .pointer (some ⟨b2, 0, none⟩), .pointer (some ⟨b3, 0, none⟩)]] w (Int1 X base gb w (choice g c x y)) :=
  tryIf_any w b0 b1 b2 b3 _ hG.xb (ifC_any (fr := fr) (s := s) _ (hG.owned (w' := w.alloc (.cells #[.int .i64 0] 3)) ⟨rfl, rfl, rfl, by simp, fun k hk _ => Below.heap_alloc w _ k hk⟩ (Nat.le_refl _) (by simp)) (by simp; omega) c x y hn (allL_mem hq) hI _ (Lib.hid rfl) b0 b1 b2 b3 (cell_al _ _ c0) (cell_al _ _ c1) (cell_al _ _ c2) (cell_al _ _ c3))

set_option maxRecDepth 100000 in
set_option maxHeartbeats 1000000 in
theorem If_any {X : Nat → Prop} {base gb : Nat} {g : G} {fr : List Int} {s : Nat → Bool} (w : World) (hG : GR X base w gb g) (hba : base ≤ w.heap.size) (c x y : Int) (hn : g.n + 3 ≤ 1048576) (hI : GI g fr s) (r : Option (G × Int)) (hr : Hid ((if allL g.n [c, x, y] then some (choice g c x y) else none) = r)) :
    Calls Try.prog 45 #[.pointer (some ⟨gb, 0, none⟩), .int .i64 c, .int .i64 x, .int .i64 y] w (IntR X base gb g w r) := by
  have hmf : ∀ (fn : Fn) (first cap : Array Value) (w : World), (Instr.makeFunc fn first cap).run Try.prog w = .ok (.func fn first cap) w := fun _ _ _ _ => rfl
  obtain ⟨u, hu⟩ : ∃ u, u = ((((w.alloc (.cells #[.pointer (some ⟨gb, 0, none⟩)] 24)).alloc (.cells #[.int .i64 c] 3)).alloc (.cells #[.int .i64 x] 3)).alloc (.cells #[.int .i64 y] 3)) := ⟨_, rfl⟩
  have hsu : u.heap.size = w.heap.size + 1 + 1 + 1 + 1 := by rw [hu]; simp
  have hGu : GR X base u gb g := by rw [hu]; exact ((((hG.alloc (.cells #[.pointer (some ⟨gb, 0, none⟩)] 24)).alloc (.cells #[.int .i64 c] 3)).alloc (.cells #[.int .i64 x] 3)).alloc (.cells #[.int .i64 y] 3))
  have hKu : Kept X w u := by rw [hu]; exact (((((Kept.refl X w).alloc _).alloc _).alloc _).alloc _)
  have d0 : u.cell? ⟨w.heap.size, 0, none⟩ = some (.pointer (some ⟨gb, 0, none⟩)) := by
    have h := cell_new w (.pointer (some ⟨gb, 0, none⟩)) 24
    have e : (w).heap.size = w.heap.size := by simp
    rw [e] at h
    rw [hu]; exact (cell_al _ _ (cell_al _ _ (cell_al _ _ h)))
  have d1 : u.cell? ⟨w.heap.size + 1, 0, none⟩ = some (.int .i64 c) := by
    have h := cell_new (w.alloc (.cells #[.pointer (some ⟨gb, 0, none⟩)] 24)) (.int .i64 c) 3
    have e : ((w.alloc (.cells #[.pointer (some ⟨gb, 0, none⟩)] 24))).heap.size = w.heap.size + 1 := by simp
    rw [e] at h
    rw [hu]; exact (cell_al _ _ (cell_al _ _ h))
  have d2 : u.cell? ⟨w.heap.size + 1 + 1, 0, none⟩ = some (.int .i64 x) := by
    have h := cell_new ((w.alloc (.cells #[.pointer (some ⟨gb, 0, none⟩)] 24)).alloc (.cells #[.int .i64 c] 3)) (.int .i64 x) 3
    have e : (((w.alloc (.cells #[.pointer (some ⟨gb, 0, none⟩)] 24)).alloc (.cells #[.int .i64 c] 3))).heap.size = w.heap.size + 1 + 1 := by simp
    rw [e] at h
    rw [hu]; exact (cell_al _ _ h)
  have d3 : u.cell? ⟨w.heap.size + 1 + 1 + 1, 0, none⟩ = some (.int .i64 y) := by
    have h := cell_new (((w.alloc (.cells #[.pointer (some ⟨gb, 0, none⟩)] 24)).alloc (.cells #[.int .i64 c] 3)).alloc (.cells #[.int .i64 x] 3)) (.int .i64 y) 3
    have e : ((((w.alloc (.cells #[.pointer (some ⟨gb, 0, none⟩)] 24)).alloc (.cells #[.int .i64 c] 3)).alloc (.cells #[.int .i64 x] 3))).heap.size = w.heap.size + 1 + 1 + 1 := by simp
    rw [e] at h
    rw [hu]; exact h
  have dW0 := d0
  rw [hu] at dW0
  have dW1 := d1
  rw [hu] at dW1
  have dW2 := d2
  rw [hu] at dW2
  have dW3 := d3
  rw [hu] at dW3
  obtain ⟨q, hq⟩ : ∃ q, Hid (allL g.n [c, x, y] = q) := ⟨_, Lib.hid rfl⟩
  have HI := Lib.hid (is_any (Y := fun _ => True) (.slice (some ⟨u.heap.size, 0, none⟩) 3 3) [c, x, y] (u.alloc (.cells #[.int .i64 c, .int .i64 x, .int .i64 y] 3)) (hGu.alloc _) (slx_lit u [c, x, y]) (by simp) q hq)
  have HII := Lib.hid hI
  have Hba := Lib.hid hba
  have Hn := Lib.hid hn
  have HK := Lib.hid hKu
  have HU := Lib.hid hu
  have HE := Lib.hid hsu.symm
  clear hG hI hba hn hKu hu hsu hGu
  cases q
  · obtain rfl : r = none := by rw [← hr.out, hq.out]; rfl
    go_enter Try.func45, Try.ntmps45
    (repeat (first | (with_reducible first | refine xA ?_ | refine xB ?_ | refine xC ?_ | refine xD ?_ | refine xH ?_ | refine xI rfl ?_ | refine xE ?_ | refine xF ?_ | refine xG ?_) | go_skip | go_guarded | (go_at_call 37; (rw [← HU.out, HE.out]); (with_reducible refine (HI.out).mono ?_); rintro _ w1 ⟨rfl, hG1, hb1⟩; clear dW0; clear dW1; clear dW2; clear dW3) | go_values | go_skip | go_guarded | go_step | go_upon | go_back | ((with_reducible show Oper.upon _ _ _ _ _ _); go_simp) | (dsimp only)))
    go_ret
    exact ⟨rfl, hG1, HK.out.trans (((Kept.refl X u).alloc _).trans (Kept.ofBelow hb1))⟩
  · obtain rfl : r = some (choice g c x y) := by rw [← hr.out, hq.out]; rfl
    have HQ := Lib.hid hq.out
    go_enter Try.func45, Try.ntmps45
    (repeat (first | (with_reducible first | refine xA ?_ | refine xB ?_ | refine xC ?_ | refine xD ?_ | refine xH ?_ | refine xI rfl ?_ | refine xE ?_ | refine xF ?_ | refine xG ?_) | go_skip | go_guarded | (go_at_call 37; (rw [← HU.out, HE.out]); (with_reducible refine (HI.out).mono ?_); rintro _ w1 ⟨rfl, hG1, hb1⟩; clear dW0; clear dW1; clear dW2; clear dW3; have hk1 : Kept (fun _ => True) u w1 := ((Kept.refl _ u).alloc _).trans (Kept.ofBelow hb1); have e0 := hk1.cell d0 trivial; have e1 := hk1.cell d1 trivial; have e2 := hk1.cell d2 trivial; have e3 := hk1.cell d3 trivial; clear d0; clear d1; clear d2; clear d3; have HK1 := Lib.hid (HK.out.trans (hk1.mono fun _ _ _ => trivial))) | (go_at_call 35; (with_reducible refine (tryIf2 w1 hG1 (Nat.le_trans Hba.out HK1.out.size) c x y Hn.out HQ.out HII.out _ _ _ _ e0 e1 e2 e3).mono ?_); rintro _ w3 ⟨rfl, hr⟩) | go_values | go_skip | go_guarded | go_step | go_upon | go_back | ((with_reducible show Oper.upon _ _ _ _ _ _); go_simp) | (dsimp only)))
    go_ret
    exact (show Int1 X base gb w1 _ _ w3 from ⟨rfl, hr⟩).from HK1.out

end Go.Proofs.Ytmaogkgjiplckaa

set_option linter.unusedSimpArgs false
set_option linter.unusedVariables false
namespace Go.Proofs.Ytmaogkgjiplckaa
open Go.RowKit
theorem told_sl {w : World} {B n : Nat} {v : Value} {s : Nat → Bool} (h : w.ownsRow B 3 1 v n ((toldL n s).map (Value.int .i64))) : SlX (fun _ => True) w v (toldL n s) := by
  refine SlX.ofOwns (base := B) (T := 3) ?_ (fun _ _ _ => trivial)
  rw [toldL_len]; exact h
theorem Free_at {X : Nat → Prop} {base gb : Nat} {g : G} (w : World) (z : Int) (hG : GR X base w gb g) (hn : g.n < 1048576) (hz : (g.n : Int) + 1 = z) :
    Calls Try.prog 12 #[.pointer (some ⟨gb, 0, none⟩)] w fun e w' => e = .returned (.int .i64 z) ∧ GR X base w' gb ⟨g.n + 1, g.cl, g.an, g.xo⟩ ∧ Kept X w w' := by
  subst hz; exact Free_any w hG hn
def g3A : G := ⟨4, [[1], [-4, 2], [-4, 3], [4, -2, -3]], [((2, 3), 4)], []⟩
theorem and_at (x : Nat) : ∃ s, GI g3A (fromL 1 2 x) s ∧ lit s 4 = (x.testBit 0 && x.testBit 1) := by
  obtain ⟨s1, h1, h2, h3⟩ := free_many newG_ok x 2
  rw [List.nil_append] at h1
  obtain ⟨s2, h4, h5, h6, h7, h8⟩ := both_ok h1 (x := 2) (y := 3) (by unfold isL addV newG; decide) (by unfold isL addV newG; decide)
  have e : both (addV newG 2) 2 3 = (g3A, 4) := rfl
  rw [e] at h4 h8
  refine ⟨s2, h4, h8.trans ?_⟩
  have a := h3 0 (by decide)
  have b := h3 1 (by decide)
  show (s1 2 && s1 3) = _
  rw [← a, ← b]; rfl
theorem and_awake {X : Nat → Prop} {base gb : Nat} (w : World) (hG : GR X base w gb ⟨newG.n + 1 + 1, newG.cl, newG.an, newG.xo⟩) (hba : base ≤ w.heap.size) :
    Calls Try.prog 33 #[.pointer (some ⟨gb, 0, none⟩), .int .i64 2, .int .i64 3] w fun e w' => e = .returned (.int .i64 4) ∧ GR X base w' gb g3A ∧ Kept X w w' := by
  obtain ⟨s1, h1, _, _⟩ := free_many newG_ok 0 2
  exact And_any (g := ⟨newG.n + 1 + 1, newG.cl, newG.an, newG.xo⟩) (fr := [] ++ fromL newG.n 2 0) (s := s1) w hG hba 2 3 (by decide) h1 (some (g3A, 4)) (Lib.hid rfl)
theorem clauses_awake {X : Nat → Prop} {base gb : Nat} (w : World) (hG : GR X base w gb g3A) :
    Calls Try.prog 28 #[.pointer (some ⟨gb, 0, none⟩)] w fun e w' => e = .returned (.slice (some ⟨w.heap.size, 0, none⟩) 4 4) ∧ (∃ vs, OwnW w' w.heap.size 4 vs ∧ SlsX (fun k => w.heap.size < k) w' vs g3A.cl) ∧ GR X base w' gb g3A ∧ Below w.heap.size w w' :=
  Clauses_any w hG (by decide) (by decide)
theorem spread_awake {X Z : Nat → Prop} {base gb : Nat} {a b : Int} {s : Nat → Bool} (q : Nat) (w : World) (hG : GR X base w gb g3A) {vs : List Value} (hO : OwnW w q 4 vs) (hS : SlsX Z w vs g3A.cl) (hI : GI g3A [a, b] s) :
    Calls Try.prog 34 #[.slice (some ⟨q, 0, none⟩) 4 4, .slice (some ⟨w.heap.size, 0, none⟩) 2 2] (w.alloc (.cells #[.int .i64 a, .int .i64 b] 3)) fun e w' => ∃ v, e = .returned (.tuple #[v, .bool true]) ∧ (∃ a c, v = .slice a 4 c) ∧ w'.ownsRow (w.alloc (.cells #[.int .i64 a, .int .i64 b] 3)).heap.size 3 1 v 4 ((toldL 4 s).map (Value.int .i64)) ∧ GR X base w' gb g3A ∧ Below (w.alloc (.cells #[.int .i64 a, .int .i64 b] 3)).heap.size (w.alloc (.cells #[.int .i64 a, .int .i64 b] 3)) w' := by
  have al : Kept (fun _ => True) w (w.alloc (.cells #[.int .i64 a, .int .i64 b] 3)) := (Kept.refl _ w).alloc _
  exact spread_q (Y := fun _ => True) q _ (hG.alloc _) hI (hO.kept al trivial) (hS.kept (al.mono fun _ _ _ => trivial)) (slx_lit w [a, b]) (by simp)

set_option maxRecDepth 100000 in
set_option maxHeartbeats 2000000 in
theorem awake_any (w : World) : Calls Try.prog 9 #[] w fun e w' => e = .returned (.bool true) ∧ Below w.heap.size w w' := by
  obtain ⟨s1, ha1, hl1⟩ := and_at 3
  obtain ⟨s2, ha2, hl2⟩ := and_at 1
  have HA1 := Lib.hid (show GI g3A [2, 3] s1 from ha1)
  have HA2 := Lib.hid (show GI g3A [2, -3] s2 from ha2)
  have HL1 := Lib.hid (show lit s1 4 = true from hl1)
  have HL2 := Lib.hid (show lit s2 4 = false from hl2)
  clear ha1 ha2 hl1 hl2
  go_enter Try.func9, Try.ntmps9
  (repeat (first | (with_reducible first | refine xA ?_ | refine xB ?_ | refine xC ?_ | refine xD ?_ | refine xH ?_ | refine xI rfl ?_ | refine xE ?_ | refine xF ?_ | refine xG ?_) | go_skip | go_guarded | (go_at_call 10; (with_reducible refine (New_any (X := fun k => k < w.heap.size) _ (fun _ h => h)).mono ?_); rintro _ w1 ⟨gb, rfl, hG, hb1⟩; have HB : Kept (fun k => k < w.heap.size) w w1 := Kept.ofBelow hb1) | (go_at_call 18; (with_reducible refine (Vars_any _ hG).mono ?_); rintro _ w2 ⟨rfl, rfl⟩; (rw [show ((newG.n : Nat) : Int) = 1 from rfl])) | (go_at_call 12; (with_reducible refine (Free_at _ 2 hG (by decide) rfl).mono ?_); rintro _ w3 ⟨rfl, hG3, hk3⟩; replace HB := HB.trans hk3) | (go_at_call 12; (with_reducible refine (Free_at _ 3 hG3 (by decide) rfl).mono ?_); rintro _ w4 ⟨rfl, hG4, hk4⟩; replace HB := HB.trans hk4) | (go_at_call 33; (with_reducible refine (and_awake _ hG4 HB.size).mono ?_); rintro _ w5 ⟨rfl, hG5, hk5⟩; replace HB := HB.trans hk5; clear hG hG3 hG4 hk3 hk4 hk5 hb1; have HCL := Lib.hid (clauses_awake w5 hG5)) | (go_at_call 28; (with_reducible refine (HCL.out).mono ?_); rintro _ w6 ⟨rfl, ⟨vs, hO6, hS6⟩, hG6, hb6⟩; replace HB := HB.trans (Kept.ofBelow hb6); have HSP := Lib.hid (spread_awake w5.heap.size w6 hG6 hO6 hS6 HA1.out); clear hO6 hS6 hG6 hb6) | (go_at_call 28; (with_reducible refine (HCL.out).mono ?_); rintro _ w8 ⟨rfl, ⟨us, hO8, hS8⟩, hG8, hb8⟩; replace HB := HB.trans (Kept.ofBelow hb8); replace HT1 := Lib.hid (HT1.out.kept (Kept.ofBelow hb8)); have HSP := Lib.hid (spread_awake w7.heap.size w8 hG8 hO8 hS8 HA2.out); clear hO8 hS8 hG8 hb8) | (go_at_call 34; (with_reducible refine (HSP.out).mono ?_); rintro _ w7 ⟨v, rfl, hv, hO7, hG7, hb7⟩; replace HB := (HB.alloc (.cells #[.int .i64 2, .int .i64 3] 3)).trans (Kept.ofBelow hb7); obtain ⟨av, cv, rfl⟩ := hv; clear HSP HCL; have HT1 := Lib.hid (told_sl hO7); have HCL := Lib.hid (clauses_awake w7 hG7); have e7 := hb7.size; clear hO7 hG7 hb7) | (go_at_call 34; (with_reducible refine (HSP.out).mono ?_); rintro _ w9 ⟨v2, rfl, hv2, hO9, hG9, hb9⟩; replace HB := (HB.alloc (.cells #[.int .i64 2, .int .i64 (-3)] 3)).trans (Kept.ofBelow hb9); replace HT1 := Lib.hid ((HT1.out.kept ((Kept.refl _ w8).alloc (.cells #[.int .i64 2, .int .i64 (-3)] 3))).kept (Kept.ofBelow hb9)); obtain ⟨av2, cv2, rfl⟩ := hv2; clear HSP HCL; have HT2 := Lib.hid (told_sl hO9); clear hO9 hG9 hb9) | (go_at_call 23; (with_reducible refine (Is_any _ _ 4 s1 HT1.out 4 (by unfold isL; decide) (by decide) true (Lib.hid HL1.out)).mono ?_); rintro _ wa ⟨rfl, rfl⟩) | (go_at_call 23; (with_reducible refine (Is_any _ _ 4 s2 HT2.out 4 (by unfold isL; decide) (by decide) false (Lib.hid HL2.out)).mono ?_); rintro _ wa ⟨rfl, rfl⟩) | go_values | go_skip | go_guarded | go_step | go_upon | go_back | ((with_reducible show Oper.upon _ _ _ _ _ _); go_simp) | (dsimp only)))
  go_ret
  exact ⟨rfl, HB.toBelow (Nat.le_refl _) fun _ h => h⟩

end Go.Proofs.Ytmaogkgjiplckaa

set_option linter.unusedSimpArgs false
set_option linter.unusedVariables false
namespace Go.Proofs.Ytmaogkgjiplckaa
open Go.RowKit
theorem chooseG_ok {g : G} {fr : List Int} {s : Nat → Bool} (hI : GI g fr s) {c : Int} (hc : isL g.n c) {xs ys : List Int} (hx : ∀ x ∈ xs, isL g.n x) (hy : ∀ y ∈ ys, isL g.n y) (hl : xs.length = ys.length) :
    WAns g fr s (3 * xs.length) (chooseG g c xs ys) (if lit s c then xs.map (lit s) else ys.map (lit s)) := by
  have h := zip_ok (f := fun g x y => choice g c x y) (k := 3) (b := fun p _ => p) (c := c) fr (fun g s x y a b d e => choice_ok a b d e) xs ys g s hI hc hx hy hl
  have e : (((xs.map (lit s)).zip (ys.map (lit s))).map fun p => if lit s c then p.1 else p.2) = if lit s c then xs.map (lit s) else ys.map (lit s) := by
    cases lit s c
    · simp only [Bool.false_eq_true, if_false]
      exact List.map_snd_zip (by simp; omega)
    · simp only [if_true]
      exact List.map_fst_zip (by simp; omega)
  rw [e] at h
  exact h
theorem wordB_ok {n N : Nat} {l : List Int} (h1 : 1 ≤ N) (h2 : N ≤ 64) (hl : l.length = N) (h : ∀ x ∈ l, isL n x) : wordB n N l = true := by
  unfold wordB
  rw [decide_eq_true ⟨by omega, by omega, by omega⟩, allL_iff.2 h]; rfl
theorem choose_law {X : Nat → Prop} {base gb : Nat} {g : G} {fr : List Int} {s : Nat → Bool} (w : World) (hG : GR X base w gb g) (hba : base ≤ w.heap.size) (c : Int) (N : Nat) (a1 a2 : Option Addr) (c1 c2 : Nat) (xs ys : List Int) (hxl : xs.length = N) (hyl : ys.length = N) (hX : SlX X w (.slice a1 N c1) xs) (hY : SlX X w (.slice a2 N c2) ys)
    (h1 : 1 ≤ N) (h64 : N ≤ 64) (hn : g.n + 192 ≤ 1048576) (hI : GI g fr s) (hc : isL g.n c) (hx : ∀ x ∈ xs, isL g.n x) (hy : ∀ y ∈ ys, isL g.n y) (r : G × List Int) (hr : Hid (chooseG g c xs ys = r)) :
    Calls Try.prog 13 #[.pointer (some ⟨gb, 0, none⟩), .int .i64 c, .slice a1 N c1, .slice a2 N c2] w fun e w' => ∃ q, e = .returned (.slice (some ⟨q, 0, none⟩) N N) ∧ OwnI w' q N r.2 ∧ w.heap.size ≤ q ∧ GR (fun k => X k ∨ k = q) base w' gb r.1 ∧ Kept X w w' := by
  have h := Choose_any w hG hba c _ _ xs ys hX hY (by omega) (by omega) hn hI (some r) (Lib.hid (by
    unfold ChooseR
    rw [allL_iff.2 (by intro x hx; rw [List.mem_singleton] at hx; subst hx; exact hc), List.all_cons, List.all_cons, List.all_nil, hxl, wordB_ok h1 h64 hxl hx, wordB_ok h1 h64 hyl hy, hr.out]
    rfl))
  rw [hxl] at h
  exact h
theorem free_law {X : Nat → Prop} {base gb : Nat} {g : G} (w : World) (hG : GR X base w gb g) (N : Nat) (x : Int) (hx0 : 0 ≤ x) (hx1 : x < 18446744073709551616) (hN : N ≤ 100) (hn : g.n + N ≤ 1048576) :
    Calls Try.prog 11 #[.pointer (some ⟨gb, 0, none⟩), .int .i64 N, .int .u64 x] w fun e w' => ∃ (a1 a2 : Option Addr) (c1 c2 : Nat) (S : Nat → Prop), e = .returned (.tuple #[.slice a1 N c1, .slice a2 N c2]) ∧ GR (fun k => X k ∨ S k) base w' gb (addV g N) ∧
      SlX (fun k => X k ∨ S k) w' (.slice a1 N c1) (freeL g.n N) ∧ w'.ownsRow w.heap.size 3 1 (.slice a2 N c2) N ((fromL g.n N x.toNat).map (Value.int .i64)) ∧ (∀ k, (Value.slice a2 N c2).ownBlock = some k → S k) ∧ Kept X w w' := by
  refine (free_any w hG N x hx0 hx1 hN hn).mono ?_
  rintro e w' ⟨v, u, rfl, ⟨o1, o2, _, S, hG, h8, h9⟩, hk⟩
  have s1 := SlX.ofOwns (X := fun k => X k ∨ S k) o1 (fun k _ e => .inr (h8 k e.symm))
  obtain ⟨a1, c1, rfl⟩ := s1.shape
  rw [fromL_len] at o2
  rw [freeL_len] at s1
  have hu : ∃ a c, u = .slice a N c := by
    rcases o2.2 with ⟨rfl, h0⟩ | ⟨q, cap, cur, rfl, _⟩
    · exact ⟨none, 0, by rw [h0]⟩
    · exact ⟨_, _, rfl⟩
  obtain ⟨a2, c2, rfl⟩ := hu
  rw [freeL_len]
  exact ⟨a1, a2, c1, c2, S, rfl, hG, s1, o2, h9, hk⟩
theorem OwnI.slx {w : World} {q n : Nat} {l : List Int} (h : OwnI w q n l) : SlX (fun k => k = q) w (.slice (some ⟨q, 0, none⟩) n n) l := by
  obtain ⟨rfl, h⟩ := h
  exact SlX.ofOwns h (fun g _ e => by injection e)

section
variable {ops : Array Oper} {rest : List Oper} {o : Oper} {a : Act} {w : World} {Q : Exit → Act → World → Prop}
/-- a row of ints, appended to one of one's own -/
theorem wl_appendI (hgd : o.guard = none) (s x : Operand) (ho : o.op = .call { callee := .builtin .append, args := #[s, x], argTypes := #[26, 26] }) (base : Nat) (v : Value) (n : Nat) (l : List Int) (hs : a.eval s = v) (hown : w.ownsRow base 3 1 v n (l.map (Value.int .i64))) (b oo m c : Nat) (us : List Int) (hx : a.eval x = .slice (some ⟨b, oo, none⟩) m c) (hm : us.length = m) (hb : RowI w b oo us) (hn : n + m ≤ 1000000000) (hbase : base ≤ w.heap.size)
    (h : ∀ v' w', w'.ownsRow base 3 1 v' (n + m) ((l ++ us).map (Value.int .i64)) → w.grownBy w' v.ownBlock → (v'.ownBlock = v.ownBlock ∨ v'.ownBlock = some w.heap.size) → wpList Try.prog ops Q rest (a.put o.dst v') w') : wpList Try.prog ops Q (o :: rest) a w := by
  obtain ⟨i0, hi0, hz0, hz1, hz2⟩ := info_parts info3
  refine wpList_append_own_at _ hgd s x 26 ho base 3 i0 (.int .i64 0) 1 8 Try.underlying26 hi0 hz0 hz1 hz2 rfl (by decide) v n _ hs hown ⟨b, oo, none⟩ m c (us.map (Value.int .i64)) hx (by simp [hm]) ?_ (by intro u hu; obtain ⟨i, _, rfl⟩ := List.mem_map.1 hu; rfl) (by simp only [maxLen]; omega) (by omega) hbase ?_
  · intro j y hj
    rw [List.getElem?_map] at hj
    rcases hu : us[j]? with _ | i
    · rw [hu] at hj; cases hj
    · rw [hu] at hj
      simp only [Option.map_some, Option.some.injEq] at hj
      subst hj
      have h := hb j i hu
      rcases j with _ | j
      · simpa [Addr.add] using h
      · simpa [Addr.add] using h
  · intro v' w' h1 h2 _ h4
    exact h v' w' (by rw [List.map_append]; exact h1) h2 h4
end

end Go.Proofs.Ytmaogkgjiplckaa

set_option linter.unusedSimpArgs false
set_option linter.unusedVariables false
namespace Go.Proofs.Ytmaogkgjiplckaa
open Go.RowKit
/-- two words of free variables, and a variable more -/
def gTwo (N : Nat) : G := addV (addV newG N) N
def gThree (N : Nat) : G := ⟨(gTwo N).n + 1, (gTwo N).cl, (gTwo N).an, (gTwo N).xo⟩
theorem two_plain (N X Y : Nat) : ∃ s, GI (gTwo N) (fromL newG.n N X ++ fromL (addV newG N).n N Y) s ∧ (∀ a ∈ freeL newG.n N, isL (gTwo N).n a) ∧ (∀ b ∈ freeL (addV newG N).n N, isL (gTwo N).n b) ∧ (freeL newG.n N).map (lit s) = (List.range N).map X.testBit ∧ (freeL (addV newG N).n N).map (lit s) = (List.range N).map Y.testBit := by
  obtain ⟨s1, h1, h2, h3⟩ := free_many newG_ok X N
  rw [List.nil_append] at h1
  obtain ⟨s2, h4, h5, h6⟩ := free_many h1 Y N
  have ia : ∀ a ∈ freeL newG.n N, isL (addV newG N).n a := freeL_isL _ _ _ (Nat.le_refl _)
  have ib : ∀ b ∈ freeL (addV newG N).n N, isL (gTwo N).n b := freeL_isL _ _ _ (Nat.le_refl _)
  refine ⟨s2, h4, fun a ha => h5.isL (ia a ha), ib, ?_, freeL_lit _ _ _ h6⟩
  rw [step_map h5 ia]
  exact freeL_lit _ _ _ h3
theorem chooses_plain (N X Y : Nat) (c : Bool) (z : Int) (hz : ((gTwo N).n : Int) + 1 = z) : ∃ s, GI (gThree N) (fromL newG.n N X ++ fromL (addV newG N).n N Y ++ [if c then z else -z]) s ∧ isL (gThree N).n z ∧ lit s z = c ∧ (∀ a ∈ freeL newG.n N, isL (gThree N).n a) ∧ (∀ b ∈ freeL (addV newG N).n N, isL (gThree N).n b) ∧ (freeL newG.n N).map (lit s) = (List.range N).map X.testBit ∧ (freeL (addV newG N).n N).map (lit s) = (List.range N).map Y.testBit := by
  obtain ⟨s1, h1, ia, ib, e1, e2⟩ := two_plain N X Y
  obtain ⟨s2, h4, h5, h6, h7, h8⟩ := free_ok h1 c
  rw [hz] at h4
  have ez : (free (gTwo N)).2 = z := hz
  rw [ez] at h7 h8
  exact ⟨s2, h4, h7, h8, fun a ha => h5.isL (ia a ha), fun b hb => h5.isL (ib b hb), by rw [step_map h5 ia]; exact e1, by rw [step_map h5 ib]; exact e2⟩
theorem choose_two {N X Y : Nat} {g : G} {fr : List Int} {s : Nat → Bool} {z : Int} {xs ys : List Int} (hI : GI g fr s) (hz : isL g.n z) (hx : ∀ a ∈ xs, isL g.n a) (hy : ∀ b ∈ ys, isL g.n b) (hxl : xs.length = N) (hyl : ys.length = N) (ex : xs.map (lit s) = (List.range N).map X.testBit) (ey : ys.map (lit s) = (List.range N).map Y.testBit) {r1 r2 : G × List Int} (h1 : chooseG g z xs ys = r1) (h2 : chooseG r1.1 (-z) xs ys = r2) :
    ∃ s4 s5, GI r1.1 fr s4 ∧ GI r2.1 fr s5 ∧ g.n ≤ r1.1.n ∧ r1.1.n ≤ g.n + 3 * N ∧ r1.1.n ≤ r2.1.n ∧ r2.1.n ≤ r1.1.n + 3 * N ∧ (∀ a ∈ r1.2, isL r2.1.n a) ∧ (∀ a ∈ r2.2, isL r2.1.n a) ∧ bv (r1.2.map (lit s5)) = (if lit s z then X else Y) % 2 ^ N ∧ bv (r2.2.map (lit s5)) = (if lit s z then Y else X) % 2 ^ N := by
  obtain ⟨s4, a1, a2, a3, a4, a5⟩ := chooseG_ok hI hz hx hy (by omega)
  rw [h1] at a1 a2 a3 a4 a5
  obtain ⟨s5, b1, b2, b3, b4, b5⟩ := chooseG_ok a1 (c := -z) (a2.isL hz.neg) (fun a h => a2.isL (hx a h)) (fun a h => a2.isL (hy a h)) (by omega)
  rw [h2] at b1 b2 b3 b4 b5
  refine ⟨s4, s5, a1, b1, a2.le, by rw [hxl] at a3; exact a3, b2.le, by rw [hxl] at b3; exact b3, fun a h => b2.isL (a4 a h), b4, ?_, ?_⟩
  · rw [step_map b2 a4, a5, ex, ey]
    cases lit s z <;> simp [bv_bits]
  · rw [b5, a2.lit hz.neg, lit_neg hz.1, step_map a2 hx, step_map a2 hy, ex, ey]
    cases lit s z <;> simp [bv_bits]

end Go.Proofs.Ytmaogkgjiplckaa

