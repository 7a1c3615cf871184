import Derived.Test.YtcffgbmgjdhkjaaAB
set_option linter.unusedSimpArgs false
set_option linter.unusedVariables false
namespace Go.Proofs.Ytcffgbmgjdhkjaa
open Go.RowKit

theorem PrT.same {w w' : World} {t : Trip} {p : Pr} (h : PrT w t p) (hs : ∀ (k : Nat) (cur : Array Value) (T : TypeId) (fr : Nat × Nat), (T = 3 ∨ T = 49 ∨ T = 5) → w.heap[k]? = some (Obj.cells cur T fr) → w'.heap[k]? = w.heap[k]?) : PrT w' t p :=
  ⟨h.1.same fun k cur fr hk => hs k cur 3 fr (.inl rfl) hk, h.2.1.same fun k cur fr hk => hs k cur 49 fr (.inr (.inl rfl)) hk, h.2.2.same fun k cur fr hk => hs k cur 5 fr (.inr (.inr rfl)) hk⟩

def PresT (w : World) (ts : List Trip) (xs : List Pr) : Prop := ts.length = xs.length ∧ ∀ (i : Nat) (t : Trip) (p : Pr), ts[i]? = some t → xs[i]? = some p → PrT w t p
theorem PresT.same {w w' : World} {ts : List Trip} {xs : List Pr} (h : PresT w ts xs) (hs : ∀ (k : Nat) (cur : Array Value) (T : TypeId) (fr : Nat × Nat), (T = 3 ∨ T = 49 ∨ T = 5) → w.heap[k]? = some (Obj.cells cur T fr) → w'.heap[k]? = w.heap[k]?) : PresT w' ts xs :=
  ⟨h.1, fun i t p a b => (h.2 i t p a b).same hs⟩
theorem PresT.snoc {w : World} {ts : List Trip} {xs : List Pr} (h : PresT w ts xs) {t : Trip} {p : Pr} (h1 : PrT w t p) : PresT w (ts ++ [t]) (xs ++ [p]) := by
  refine ⟨by simp [h.1], fun i t' p' a b => ?_⟩
  rw [List.getElem?_append] at a b
  rw [h.1] at a
  split at a
  · rename_i hlt
    rw [if_pos hlt] at b
    exact h.2 i t' p' a b
  · rename_i hlt
    rw [if_neg hlt] at b
    generalize i - xs.length = j at a b
    rcases j with _ | j
    · simp at a b
      subst a; subst b
      exact h1
    · simp at a

theorem preP_n {b : List Int} {p p' : Int} {x : Pr} (hb : ByteL b) (h : preP b p = .ok x p') (h0 : 0 ≤ p) (h1 : p ≤ b.length) : 0 ≤ p' ∧ p' ≤ b.length := by
  unfold preP at h
  split at h
  · cases h
  rename_i n p0 e0
  have k0 := numP_n hb e0 h0 (by decide)
  split at h
  · cases h
  rename_i path p1 e1
  have k1 := manyP_n (L := b.length) (fun p x q h h0 => by have := numP_n hb h h0 (by decide); omega) _ _ _ _ e1 k0.1 k0.2.1
  split at h
  · cases h
  rename_i m p2 e2
  have k2 := numP_n hb e2 k1.2.1 (by decide)
  split at h
  · cases h
  rename_i term p3 e3
  have k3 := manyP_n (L := b.length) (fun p x q h h0 => nodeP_n hb h h0) _ _ _ _ e3 k2.1 k2.2.1
  split at h
  · cases h
  split at h
  · cases h
  rename_i l p4 e4
  have k4 := numP_n hb e4 k3.2.1 (by decide)
  split at h
  · cases h
  injection h with h2 h3
  omega

theorem rpre_ok (w0 : World) (vb : Value) (b : List Int) (Rb : Nat) (at' : Int) (w : World) (hI : RIn w0 vb b Rb w) (hR : RD w Rb vb at') (h0 : 0 ≤ at') (h1 : at' ≤ b.length) (x : Pr) (p : Int) (hr : Hid (preP b at' = .ok x p)) :
    Calls Try.prog 39 #[.pointer (some ⟨Rb, 0, none⟩)] w fun e w' => ∃ a1 n1 c1 a2 n2 c2 a3 n3 c3, e = .returned (.agg #[.slice a1 n1 c1, .slice a2 n2 c2, .slice a3 n3 c3]) ∧ PrT w' (.slice a1 n1 c1, .slice a2 n2 c2, .slice a3 n3 c3) x ∧ w.grownBy w' (some Rb) ∧ RD w' Rb vb p := by
  have := rpre_any w0 vb b Rb at' w hI hR h0 h1
  rw [hr.out] at this
  refine this.mono ?_
  rintro e w' ⟨hg, t1, t2, t3, rfl, hT, hR2⟩
  obtain ⟨a1, c1, rfl⟩ : ∃ a c, t1 = _ := hT.1.sl.shape
  obtain ⟨a2, c2, rfl⟩ : ∃ a c, t2 = _ := hT.2.1.sl.shape
  obtain ⟨a3, c3, rfl⟩ : ∃ a c, t3 = _ := hT.2.2.sl.shape
  exact ⟨_, _, _, _, _, _, _, _, _, rfl, hT, hg, hR2⟩
theorem rpre_err (w0 : World) (vb : Value) (b : List Int) (Rb : Nat) (at' : Int) (w : World) (hI : RIn w0 vb b Rb w) (hR : RD w Rb vb at') (h0 : 0 ≤ at') (h1 : at' ≤ b.length) (E p : Int) (hr : Hid (preP b at' = .err E p)) :
    Calls Try.prog 39 #[.pointer (some ⟨Rb, 0, none⟩)] w fun e w' => e = stopped E p ∧ w.grownBy w' (some Rb) := by
  have := rpre_any w0 vb b Rb at' w hI hR h0 h1
  rw [hr.out] at this
  exact this.mono fun e w' h => ⟨h.2, h.1⟩

def PsDone (w : World) (Rb : Nat) (vb : Value) (r : PR (List Pr)) (e : Ending) (w' : World) : Prop :=
  w.grownBy w' (some Rb) ∧ match r with
    | .ok xs p => ∃ v ts, e = .returned v ∧ SlT 43 3 tripc w' v ts ∧ PresT w' ts xs ∧ RD w' Rb vb p
    | .err E p => e = stopped E p

set_option maxRecDepth 100000 in
set_option maxHeartbeats 2000000 in
theorem listpre_any (w0 : World) (vb : Value) (b : List Int) (Rb : Nat) (at0 : Int) (N : Nat) (hN : N ≤ 65536) (w : World) (hI : RIn w0 vb b Rb w) (hR : RD w Rb vb at0) (h0 : 0 ≤ at0) (h1 : at0 ≤ b.length) :
    Calls Try.prog 38 #[.int .u64 N, .func (Fn.func 39) #[.pointer (some ⟨Rb, 0, none⟩)] #[]] w (PsDone w Rb vb (manyP (preP b) N at0)) := by
  have hlt := lt_of_block hR
  obtain ⟨i0, hi0, hz0, hz1, hz2⟩ := info_parts info43'
  go_enter Try.func38, Try.ntmps38
  (repeat (first | with_reducible refine xThenN ?_ | with_reducible refine xThenE ?_ | with_reducible refine xThenR ?_ | with_reducible refine xThenP ?_ | with_reducible refine xBlockEq ?_ | with_reducible refine xBlockNe rfl ?_ | with_reducible refine xBlockN ?_ | with_reducible refine xBlockR ?_ | with_reducible refine xBlockP ?_ | go_values | go_skip | go_guarded | go_step | go_upon | go_back | (dsimp only)))
  obtain ⟨M, hM⟩ : ∃ M, Hid (manyP (preP b) N at0 = M) := ⟨_, Lib.hid rfl⟩
  rw [hM.out]
  go_loopw [5, 7] (fun v i wr => ∃ (k : Nat) (ts : List Trip) (xs : List Pr) (p : Int), k ≤ N ∧ i = .int .u64 k ∧ ts.length ≤ k ∧ wr.ownsRow w.heap.size 43 3 v ts.length (ts.flatMap tripc) ∧ PresT wr ts xs ∧ Hid (M = resume xs (manyP (preP b) (N - k) p)) ∧ 0 ≤ p ∧ p ≤ b.length ∧ RD wr Rb vb p ∧ RIn w0 vb b Rb wr ∧ w.grownBy wr (some Rb)) (fun _ i _ => N - (intOf i).toNat)
  case atStart => exact ⟨0, [], [], at0, by omega, rfl, by simp, World.ownsRow_nil _ _ _ _, ⟨rfl, by simp⟩, Lib.hid (by rw [resume_nil]; exact hM.out.symm), h0, h1, hR, hI, grown_refl _ _⟩
  case round =>
    clear h0 h1 hR hI
    obtain ⟨k, ts, xs, p, hk, rfl, hxk, hO, hPT, hM2, h0, h1, hR, hI, HG⟩ := hrel
    have hsz := HG.size
    have hob2 : u5.ownBlock ≠ some Rb := by
      intro e
      have := (hO.lt Rb e).1
      omega
    have hob := Or.inr (a := u5.ownBlock = none) hob2
    have HPT := Lib.hid hPT
    clear hPT
    rcases Nat.lt_or_ge k N with hlt1 | hge
    · obtain ⟨r, hr⟩ : ∃ r, Hid (preP b p = r) := ⟨_, Lib.hid rfl⟩
      have eN : N - k = (N - (k + 1)) + 1 := by omega
      rw [eN] at hM2
      clear eN
      rcases r with ⟨x, q⟩ | ⟨E, q⟩
      · have hM3 := hM2.out
        rw [many_ok xs (one := preP b) (p := p) hr.out] at hM3
        have HM3 := Lib.hid hM3
        clear hM3 hM2
        obtain ⟨h0', h1'⟩ := preP_n hI.byte hr.out h0 h1
        (repeat (first | with_reducible refine xThenN ?_ | with_reducible refine xThenE ?_ | with_reducible refine xThenR ?_ | with_reducible refine xThenP ?_ | with_reducible refine xBlockEq ?_ | with_reducible refine xBlockNe rfl ?_ | with_reducible refine xBlockN ?_ | with_reducible refine xBlockR ?_ | with_reducible refine xBlockP ?_ | (go_at_call 39; (with_reducible refine (rpre_ok w0 vb b Rb p _ hI hR h0 h1 x q hr).mono ?_); rintro e w1 ⟨a1, n1, c1, a2, n2, c2, a3, n3, c3, rfl, hT1, hg1, hR1⟩) | (at_builtin; refine wl_append_lit rfl _ _ 23 rfl w.heap.size 43 i0 _ 3 72 Try.underlying23 hi0 hz0 hz1 hz2 rfl (by decide) u5 _ _ w1 (by rfl) (hO.kept hg1 hob) [.slice a1 n1 c1, .slice a2 n2 c2, .slice a3 n3 c3] (by rfl) rfl (by intro u hu; simp at hu; rcases hu with rfl | rfl | rfl <;> rfl) (by omega) (by decide) (by have := hg1.size; omega) ?_; intro v2 w2 hO2 hg2; (try simp only [Act.put, List.setIfInBounds_toArray, List.set_cons_succ, List.set_cons_zero])) | go_values | go_skip | go_guarded | go_step | go_upon | go_back | (dsimp only)))
        have HG2 := grown_row (grown_trans HG hg1) hg2 (fun g hg => (hO.lt g hg).1)
        have hP1 : PresT w1 ts xs := HPT.out.same fun k cur T fr hT hk => hg1.block k (lt_of_block hk) (fun e => by injection e with e; subst e; rw [hR] at hk; rcases hT with rfl | rfl | rfl <;> simp at hk)
        have hP2 := hP1.snoc hT1
        have hO1 := hO.kept hg1 hob
        refine ⟨⟨k + 1, _, xs ++ [x], q, by omega, by go_num, ?_, ?_, hP2.same ?_, HM3, h0', h1', ?_, ?_, HG2⟩, by simp [intOf]; omega⟩
        · simp; omega
        · rw [List.flatMap_append, List.length_append]
          exact hO2
        · intro k cur T fr hT hk
          refine hg2.block k (lt_of_block hk) (fun e => ?_)
          rcases hO1.2 with ⟨h3, _⟩ | ⟨g, c, cu, h3, _, hh, _⟩
          · rw [h3] at e; cases e
          · rw [h3] at e
            simp only [Value.ownBlock, Option.some.injEq] at e
            subst e
            rw [hh] at hk
            rcases hT with rfl | rfl | rfl <;> simp at hk
        · exact keep_at hg2 hR1 (fun e => hob2 e.symm)
        · exact ⟨hI.sl, hI.rb, Below.grown (hI.grown hg1).below hg2 (hI.grown hg1).below.size (fun g hg => by have := (hO.lt g hg).1; have := hI.rb; omega), hI.byte, hI.pos, hI.len⟩
      · obtain rfl : M = .err E q := by rw [hM2.out]; exact many_err xs hr.out
        (repeat (first | with_reducible refine xThenN ?_ | with_reducible refine xThenE ?_ | with_reducible refine xThenR ?_ | with_reducible refine xThenP ?_ | with_reducible refine xBlockEq ?_ | with_reducible refine xBlockNe rfl ?_ | with_reducible refine xBlockN ?_ | with_reducible refine xBlockR ?_ | with_reducible refine xBlockP ?_ | (go_at_call 39; (with_reducible refine (rpre_err w0 vb b Rb p _ hI hR h0 h1 E q hr).mono ?_); rintro e w1 ⟨rfl, hg1⟩) | go_values | go_skip | go_guarded | go_step | go_upon | go_back | (dsimp only)))
        exact ⟨rfl, grown_trans HG hg1, rfl⟩
    · have hkk : N - k = 0 := by omega
      obtain rfl : M = .ok xs p := by rw [hM2.out, hkk]; simp [manyP, resume]
      (repeat (first | with_reducible refine xThenN ?_ | with_reducible refine xThenE ?_ | with_reducible refine xThenR ?_ | with_reducible refine xThenP ?_ | with_reducible refine xBlockEq ?_ | with_reducible refine xBlockNe rfl ?_ | with_reducible refine xBlockN ?_ | with_reducible refine xBlockR ?_ | with_reducible refine xBlockP ?_ | go_values | go_skip | go_guarded | go_step | go_upon | go_back | (dsimp only)))
      go_ret
      rw [hM.out]
      exact ⟨HG, _, ts, rfl, SlT.ofOwns (fun _ => rfl) hO, HPT.out, hR⟩

end Go.Proofs.Ytcffgbmgjdhkjaa
