import Derived.Test.YtmaogkgjiplckaaGreatQR4
import Derived.Test.YtmaogkgjiplckaaGreatQR3
import Derived.StillTail
import Derived.KernelRfl
import Derived.OrdersHeld
set_option linter.unusedVariables false
set_option linter.unusedSimpArgs false
namespace Go.Proofs.YtmaogkgjiplckaaGreat
open Go.RowKit
theorem list_drop {α : Type} {l : List α} {k : Nat} {x : α} (h : l[k]? = some x) : l.drop k = x :: l.drop (k + 1) := by
  obtain ⟨h1, h2⟩ := List.getElem?_eq_some_iff.1 h
  subst h2
  exact List.drop_eq_getElem_cons h1
structure SH1 (g : G) (fr : List Int) (s : Nat → Bool) (x ys : List Int) (i : Int) (n k : Nat) (gk : G) (xk : List Int) (far : Int) (sk : Nat → Bool) : Prop where
  eq : shiftG g x ys 0 (-1) i = shiftG gk xk (ys.drop k) k far i
  len : xk.length = n
  gi : GI gk fr sk
  st : Step g s gk sk
  le : gk.n ≤ g.n + (3 * n + 1) * k
  lx : ∀ a ∈ xk, isL gk.n a
  lf : isL gk.n far
theorem shift_walk_up {g : G} {fr : List Int} {s : Nat → Bool} {x ys : List Int} {i : Int} {n k : Nat} {gk : G} {xk : List Int} {far : Int} {sk : Nat → Bool} (h : SH1 g fr s x ys i n k gk xk far sk) {c : Int} (hc : ys[k]? = some c) (hcL : isL g.n c) (hi : isL g.n i) (hk : k < 7 ∧ 2 ^ k < n) :
    ∃ s', SH1 g fr s x ys i n (k + 1) (chooseG gk c (upL xk (2 ^ k) i) xk).1 (chooseG gk c (upL xk (2 ^ k) i) xk).2 far s' := by
  have hlu : (upL xk (2 ^ k) i).length = xk.length := upL_len _ _ _
  have hul : ∀ a ∈ upL xk (2 ^ k) i, isL gk.n a := upL_isL h.lx (h.st.isL hi)
  obtain ⟨s', h1, h2, h3, h4, h5⟩ := chooseG_ok h.gi (h.st.isL hcL) hul h.lx hlu
  refine ⟨s', ⟨?_, ?_, h1, h.st.trans h2, ?_, h4, h2.isL h.lf⟩⟩
  · rw [h.eq, list_drop hc]
    simp only [shiftG]
    rw [if_pos (by rw [h.len]; exact hk)]
  · unfold chooseG; rw [zipG_len _ _ _ _ hlu, hlu, h.len]
  · have := h.le; have h6 := h.len; rw [hlu, h6] at h3; rw [Nat.mul_add]; omega
theorem shift_walk_far {g : G} {fr : List Int} {s : Nat → Bool} {x ys : List Int} {i : Int} {n k : Nat} {gk : G} {xk : List Int} {far : Int} {sk : Nat → Bool} (h : SH1 g fr s x ys i n k gk xk far sk) {c : Int} (hc : ys[k]? = some c) (hcL : isL g.n c) (hk : ¬ (k < 7 ∧ 2 ^ k < n)) :
    ∃ s', SH1 g fr s x ys i n (k + 1) (either gk far c).1 xk (either gk far c).2 s' := by
  obtain ⟨s', h1, h2, h3, h4, _⟩ := either_ok h.gi h.lf (h.st.isL hcL)
  refine ⟨s', ⟨?_, h.len, h1, h.st.trans h2, ?_, fun a ha => h2.isL (h.lx a ha), h4⟩⟩
  · rw [h.eq, list_drop hc]
    simp only [shiftG]
    rw [if_neg (by rw [h.len]; exact hk)]
  · have := h.le; rw [Nat.mul_add]; omega
theorem choose_n {X : Nat → Prop} {base gb : Nat} {g : G} {fr : List Int} {s : Nat → Bool} (n : Nat) (w : World) (hG : GR X base w gb g) (hba : base ≤ w.heap.size) (c : Int) (vx vy : Value) (xs ys : List Int) (hX : SlX X w vx xs) (hY : SlX X w vy ys) (hxl : xs.length = n) (hyl : ys.length = n) (hn : g.n + 3 * n ≤ 1048576) (hn1 : n ≤ 1000000) (hc : isL g.n c) (hx : ∀ x ∈ xs, isL g.n x) (hy : ∀ y ∈ ys, isL g.n y) (hI : GI g fr s) (r : G × List Int) (hr : chooseG g c xs ys = r) :
    Calls Tryz.prog 83 #[.pointer (some ⟨gb, 0, none⟩), .int .i64 c, vx, vy] w (Word1 X base gb n w r) := by
  subst hxl
  exact choose_any w hG hba c vx vy xs ys hX hY hyl hn hn1 hc hx hy hI r hr
theorem up_n {X : Nat → Prop} (n : Nat) (w : World) (v : Value) (l : List Int) (hl : SlX X w v l) (hll : l.length = n) (hn : n ≤ 1000000) (j : Nat) (hj : j ≤ 1000000) (i : Int) :
    Calls Tryz.prog 132 #[v, .int .i64 j, .int .i64 i] w fun e w' => e = .returned (.slice (some ⟨w.heap.size, 0, none⟩) n n) ∧ OwnI w' w.heap.size n (upL l j i) ∧ Below w.heap.size w w' := by
  subst hll
  exact upG_any w v l hl hn j hj i
theorem shl_wrap {k m : Nat} (hm : 2 ^ k = m) (hk : k < 7) : wrap64 ((2 : Int) ^ k) = (m : Int) := by
  have h1 : (2 : Int) ^ k = (m : Int) := by rw [← hm]; simp
  have h2 : m ≤ 64 := by rw [← hm]; exact Nat.pow_le_pow_right (n := 2) (by decide) (show k ≤ 6 by omega)
  rw [h1, ← IntWalk.i64_left]
  exact IntWalk.i64_in _ ⟨by omega, by omega⟩
set_option maxRecDepth 100000 in
set_option maxHeartbeats 1000000 in
theorem shift_any {X : Nat → Prop} {base gb : Nat} {g : G} {fr : List Int} {s : Nat → Bool} (w : World) (hG : GR X base w gb g) (hba : base ≤ w.heap.size) (vx vy : Value) (xs ys : List Int) (i : Int) (hX : SlX X w vx xs) (hY : SlX X w vy ys) (hxn : xs.length ≤ 64) (hyn : ys.length ≤ 64) (hn : g.n + (3 * xs.length + 1) * ys.length + 3 * xs.length ≤ 1048576) (hi : isL g.n i) (hx : ∀ x ∈ xs, isL g.n x) (hy : ∀ y ∈ ys, isL g.n y) (hI : GI g fr s) (r : G × List Int) (hr : shiftG g xs ys 0 (-1) i = r) :
    Calls Tryz.prog 115 #[.pointer (some ⟨gb, 0, none⟩), vx, vy, .int .i64 i] w (Word1 X base gb xs.length w r) := by
  obtain ⟨ay, cy, rfl⟩ := hY.shape
  obtain ⟨n, hnx⟩ : ∃ n, xs.length = n := ⟨_, rfl⟩
  obtain ⟨L, hL⟩ : ∃ L, ys.length = L := ⟨_, rfl⟩
  rw [hnx] at hn hxn
  rw [hL] at hn hyn
  have HX := Lib.hid hX
  have HY := Lib.hid hY
  have Hn := Lib.hid hn
  have Hi := Lib.hid hi
  have Hx := Lib.hid hx
  have Hy := Lib.hid hy
  have HI := Lib.hid hI
  have Hr := Lib.hid hr
  have HBA := Lib.hid hba
  have HG := Lib.hid hG
  have HNX := Lib.hid hnx
  have HL := Lib.hid hL
  have hL64 : (L : Int) ≤ 64 := by omega
  have hn64 : (n : Int) ≤ 64 := by omega
  rw [hnx, hL]
  clear hX hY hn hi hx hy hI hr hba hG hnx hL
  go_enter Tryz.func115, Tryz.ntmps115
  (repeat (first | (with_reducible first | refine xA ?_ | refine xB ?_ | refine xC ?_ | refine xD ?_ | refine xH ?_ | refine xI rfl ?_ | refine xE ?_ | refine xF ?_ | refine xG ?_) | go_values | go_skip | go_guarded | go_step | go_upon | go_back | ((with_reducible show Oper.upon _ _ _ _ _ _); go_simp) | (dsimp only)))
  go_loopw [1, 9, 14] (fun xv cv iv wr => ∃ (k : Nat) (gk : G) (xk : List Int) (far : Int) (sk : Nat → Bool), k ≤ L ∧ iv = .int .i64 k ∧ cv = .int .i64 far ∧ Hid (SH1 g fr s xs ys i n k gk xk far sk) ∧ Hid (∃ Y : Nat → Prop, (∀ q, X q → Y q) ∧ SlX Y wr xv xk ∧ GR Y base wr gb gk) ∧ Kept X w wr) (fun _ _ iv _ => L - (intOf iv).toNat)
  case atStart => exact ⟨0, g, xs, -1, s, Nat.zero_le _, rfl, rfl, Lib.hid ⟨by simp, HNX.out, HI.out, Step.refl _ _, Nat.le_refl _, Hx.out, (isL_one HI.out).neg⟩, Lib.hid ⟨X, fun _ h => h, HX.out, HG.out⟩, Kept.refl _ _⟩
  case round =>
    obtain ⟨k, gk, xk, far, sk, hk, rfl, rfl, hZ, hYX, hK⟩ := hrel
    obtain ⟨Y, hXY, hSX, hGY⟩ := hYX.out
    obtain ⟨ax, cx, rfl⟩ := hSX.shape
    have hlen : xk.length = n := hZ.out.len
    have HLEN := Lib.hid hlen
    rw [hlen] at hSX
    rw [hlen]
    have HXY := Lib.hid hXY
    have HSX := Lib.hid hSX
    have HGY := Lib.hid hGY
    clear hYX hXY hSX hGY hlen
    rcases Nat.lt_or_ge k L with hlt | hge
    · obtain ⟨by', oy, rfl, xby, lby, cby, HRy⟩ := HY.out.row (by rw [HL.out]; omega)
      obtain ⟨c, hc⟩ : ∃ c, ys[k]? = some c := ⟨_, List.getElem?_eq_getElem (by rw [HL.out]; omega)⟩
      have hcc := hK.cell (HRy k c hc) xby
      have HCL := Lib.hid (Hy.out c (List.mem_of_getElem? hc))
      have HC := Lib.hid hc
      have i0 : (0 : Int) ≤ (k : Int) := by omega
      have i1 : (k : Int) < (L : Int) := by omega
      clear hc HRy
      have hZo := hZ.out
      have hgk : gk.n + 3 * n + 1 ≤ 1048576 := by
        have h1 := hZo.le
        have h2 := Hn.out
        have h3 : (3 * n + 1) * k ≤ (3 * n + 1) * L := Nat.mul_le_mul_left _ hk
        have h4 : (3 * n + 1) * (k + 1) ≤ (3 * n + 1) * L := Nat.mul_le_mul_left _ hlt
        rw [Nat.mul_add] at h4
        omega
      have HA := Lib.hid (show gk.n + 3 * n ≤ 1048576 by omega)
      have HB := Lib.hid (show gk.n < 1048576 by omega)
      have HCn := Lib.hid (show n ≤ 1000000 by omega)
      clear hgk
      obtain ⟨m, hm⟩ : ∃ m, 2 ^ k = m := ⟨_, rfl⟩
      have hba1 : base ≤ wr.heap.size := Nat.le_trans HBA.out hK.size
      by_cases hk7 : k < 7
      · have hsh := shl_wrap hm hk7
        have hm64 : m ≤ 64 := by rw [← hm]; exact Nat.pow_le_pow_right (n := 2) (by decide) (show k ≤ 6 by omega)
        have hk7' : (k : Int) < 7 := by omega
        obtain ⟨rc, hrc⟩ : ∃ rc, chooseG gk c (upL xk m i) xk = rc := ⟨_, rfl⟩
        obtain ⟨re, hre⟩ : ∃ re, either gk far c = re := ⟨_, rfl⟩
        have HUP := Lib.hid (up_n (X := Y) n wr (.slice ax n cx) xk HSX.out HLEN.out HCn.out m (Nat.le_trans hm64 (by decide)) i)
        have HCH := Lib.hid (fun (w1 : World) (hb1 : Below wr.heap.size wr w1) (hO1 : OwnI w1 wr.heap.size n (upL xk m i)) => choose_n (X := fun q => Y q ∨ q = wr.heap.size) n w1 (HGY.out.owned (below_own hb1) (Nat.le_refl _) hO1.lt) (Nat.le_trans hba1 hb1.size) c _ (.slice ax n cx) (upL xk m i) xk (hO1.slX (.inr rfl)) ((HSX.out.kept (Kept.ofBelow hb1)).mono fun _ _ h => .inl h) (by rw [upL_len]; exact HLEN.out) HLEN.out HA.out HCn.out (hZo.st.isL HCL.out) (upL_isL hZo.lx (hZo.st.isL Hi.out)) hZo.lx hZo.gi rc hrc)
        have HEI := Lib.hid (either_any wr HGY.out HB hba1 far c (Lib.hid hZo.lf) (Lib.hid (hZo.st.isL HCL.out)) (Lib.hid hZo.gi) re (Lib.hid hre))
        have HZU := Lib.hid (fun hup : m < n => by
          have h := shift_walk_up hZo HC.out HCL.out Hi.out ⟨hk7, by rw [hm]; exact hup⟩
          rw [hm, hrc] at h; exact h)
        have HZE := Lib.hid (fun hup : ¬ m < n => by
          have h := shift_walk_far hZo HC.out HCL.out (by rw [hm]; exact fun h => hup h.2)
          rw [hre] at h; exact h)
        clear hZo hrc hre hm hm64
        (repeat (first | (with_reducible first | refine xA ?_ | refine xB ?_ | refine xC ?_ | refine xD ?_ | refine xH ?_ | refine xI rfl ?_ | refine xE ?_ | refine xF ?_ | refine xG ?_) | (go_at_call 132; (with_reducible refine (HUP.out).mono ?_); rintro _ w1 ⟨rfl, hO1, hb1⟩) | (go_at_call 83; (with_reducible refine (HCH.out w1 hb1 hO1).mono ?_); rintro _ w2 ⟨q2, rfl, hO2, hq2, hG2, hk2⟩) | go_values | go_skip | go_guarded | go_step | go_upon | go_back | ((with_reducible show Oper.upon _ _ _ _ _ _); go_simp) | (dsimp only)))
        · obtain ⟨s', hZ'⟩ := HZU.out (by assumption)
          exact ⟨⟨k + 1, rc.1, rc.2, far, s', by omega, by go_num, rfl, Lib.hid hZ', Lib.hid ⟨_, fun q h => .inl (.inl (HXY.out q h)), hO2.slX (.inr rfl), hG2⟩, (hK.trans (Kept.ofBelow hb1)).trans (hk2.mono fun q _ h => .inl (HXY.out q h))⟩, by simp [intOf]; omega⟩
        · have hup : ¬ m < n := by assumption
          (repeat (first | (with_reducible first | refine xA ?_ | refine xB ?_ | refine xC ?_ | refine xD ?_ | refine xH ?_ | refine xI rfl ?_ | refine xE ?_ | refine xF ?_ | refine xG ?_) | go_skip | go_guarded | (go_at_call 113; (with_reducible refine (HEI.out).mono ?_); rintro _ w1 ⟨rfl, hG1, hk1⟩) | go_values | go_skip | go_guarded | go_step | go_upon | go_back | ((with_reducible show Oper.upon _ _ _ _ _ _); go_simp) | (dsimp only)))
          obtain ⟨s', hZ'⟩ := HZE.out hup
          exact ⟨⟨k + 1, re.1, xk, re.2, s', by omega, by go_num, rfl, Lib.hid hZ', Lib.hid ⟨Y, HXY.out, HSX.out.kept hk1, hG1⟩, hK.trans (hk1.mono fun q _ h => HXY.out q h)⟩, by simp [intOf]; omega⟩
      · have hk7' : ¬ (k : Int) < 7 := by omega
        obtain ⟨rc, hrc⟩ : ∃ rc, either gk far c = rc := ⟨_, rfl⟩
        obtain ⟨s', hZ'⟩ := shift_walk_far hZo HC.out HCL.out (fun h => hk7 h.1)
        rw [hrc] at hZ'
        have HZ' := Lib.hid hZ'
        have HEI := Lib.hid (either_any wr HGY.out HB hba1 far c (Lib.hid hZo.lf) (Lib.hid (hZo.st.isL HCL.out)) (Lib.hid hZo.gi) rc (Lib.hid hrc))
        clear hZ' hZo hrc hm
        (repeat (first | (with_reducible first | refine xA ?_ | refine xB ?_ | refine xC ?_ | refine xD ?_ | refine xH ?_ | refine xI rfl ?_ | refine xE ?_ | refine xF ?_ | refine xG ?_) | go_skip | go_guarded | (go_at_call 113; (with_reducible refine (HEI.out).mono ?_); rintro _ w1 ⟨rfl, hG1, hk1⟩) | go_values | go_skip | go_guarded | go_step | go_upon | go_back | ((with_reducible show Oper.upon _ _ _ _ _ _); go_simp) | (dsimp only)))
        exact ⟨⟨k + 1, rc.1, xk, rc.2, s', by omega, by go_num, rfl, HZ', Lib.hid ⟨Y, HXY.out, HSX.out.kept hk1, hG1⟩, hK.trans (hk1.mono fun q _ h => HXY.out q h)⟩, by simp [intOf]; omega⟩
    · obtain rfl : k = L := by omega
      have hZo := hZ.out
      have he := hZo.eq
      rw [List.drop_of_length_le (by rw [HL.out]; exact Nat.le_refl _)] at he
      simp only [shiftG] at he
      rw [hZo.len] at he
      obtain ⟨rc, hrc⟩ : ∃ rc, chooseG gk far (upL xk n i) xk = rc := ⟨_, rfl⟩
      have hR : Hid (r = rc) := Lib.hid (by rw [← Hr.out, he, hrc])
      have hba1 : base ≤ wr.heap.size := Nat.le_trans HBA.out hK.size
      have hgk : gk.n + 3 * n ≤ 1048576 := by have := hZo.le; have := Hn.out; omega
      have HUP := Lib.hid (up_n (X := Y) n wr (.slice ax n cx) xk HSX.out HLEN.out (by omega) n (by omega) i)
      have HCH := Lib.hid (fun (w1 : World) (hb1 : Below wr.heap.size wr w1) (hO1 : OwnI w1 wr.heap.size n (upL xk n i)) => choose_n (X := fun q => Y q ∨ q = wr.heap.size) n w1 (HGY.out.owned (below_own hb1) (Nat.le_refl _) hO1.lt) (Nat.le_trans hba1 hb1.size) far _ (.slice ax n cx) (upL xk n i) xk (hO1.slX (.inr rfl)) ((HSX.out.kept (Kept.ofBelow hb1)).mono fun _ _ h => .inl h) (by rw [upL_len]; exact HLEN.out) HLEN.out hgk (by omega) hZo.lf (upL_isL hZo.lx (hZo.st.isL Hi.out)) hZo.lx hZo.gi rc hrc)
      clear hZo he hrc hgk
      (repeat (first | (with_reducible first | refine xA ?_ | refine xB ?_ | refine xC ?_ | refine xD ?_ | refine xH ?_ | refine xI rfl ?_ | refine xE ?_ | refine xF ?_ | refine xG ?_) | go_skip | go_guarded | (go_at_call 132; (with_reducible refine (HUP.out).mono ?_); rintro _ w1 ⟨rfl, hO1, hb1⟩) | (go_at_call 83; (with_reducible refine (HCH.out w1 hb1 hO1).mono ?_); rintro _ w2 ⟨q2, rfl, hO2, hq2, hG2, hk2⟩) | go_values | go_skip | go_guarded | go_step | go_upon | go_back | ((with_reducible show Oper.upon _ _ _ _ _ _); go_simp) | (dsimp only)))
      go_ret
      rw [hR.out]
      exact ⟨q2, rfl, hO2, Nat.le_trans hK.size (Nat.le_trans hb1.size hq2), hG2.less fun q h => h.elim (fun h => .inl (.inl (HXY.out q h))) .inr, (hK.trans (Kept.ofBelow hb1)).trans (hk2.mono fun q _ h => .inl (HXY.out q h))⟩
end Go.Proofs.YtmaogkgjiplckaaGreat
namespace Go.Proofs.YtmaogkgjiplckaaGreat
open Go.RowKit
structure PR1 (g : G) (fr : List Int) (s : Nat → Bool) (xs ys o0 : List Int) (n k : Nat) (gk : G) (out : List Int) (sk : Nat → Bool) : Prop where
  eq : prodG g o0 xs 0 ys = prodG gk out xs k (ys.drop k)
  len : out.length = n
  gi : GI gk fr sk
  st : Step g s gk sk
  le : gk.n ≤ g.n + 6 * n * k
  lo : ∀ a ∈ out, isL gk.n a
structure PR2 (g : G) (fr : List Int) (s : Nat → Bool) (xs ys o0 : List Int) (n k : Nat) (gk : G) (out : List Int) (sk : Nat → Bool) (p : G × List Int) (t : G × List Int × Int) : Prop where
  ep : zipG (fun g x _ => both g x (ys.getD k 0)) gk (upL xs k (-1)) (upL xs k (-1)) = p
  et : sumG p.1 out p.2 (-1) = t
  lp : p.2.length = n
  lpi : ∀ a ∈ p.2, isL p.1.n a
  lpo : ∀ a ∈ out, isL p.1.n a
  pn : p.1.n ≤ gk.n + n
  gi : ∃ s1, GI p.1 fr s1
  fin : ∃ s2, PR1 g fr s xs ys o0 n (k + 1) t.1 t.2.1 s2
theorem PR1.next {g : G} {fr : List Int} {s : Nat → Bool} {xs ys o0 : List Int} {n k : Nat} {gk : G} {out : List Int} {sk : Nat → Bool} (h : PR1 g fr s xs ys o0 n k gk out sk) {c : Int} (hc : ys[k]? = some c) (hcL : isL g.n c) (hx : ∀ a ∈ xs, isL g.n a) (hxn : xs.length = n) : ∃ p t, PR2 g fr s xs ys o0 n k gk out sk p t := by
  have e0 : ys.getD k 0 = c := by rw [List.getD_eq_getElem?_getD, hc]; rfl
  have hu : ∀ a ∈ upL xs k (-1), isL gk.n a := upL_isL (fun a ha => h.st.isL (hx a ha)) (isL_one h.gi).neg
  obtain ⟨s1, i1, t1, n1, l1, ln1, _⟩ := withN_ok h.gi hu (h.st.isL hcL)
  rw [upL_len, hxn] at n1 ln1
  obtain ⟨p, hp⟩ : ∃ p, zipG (fun g x _ => both g x c) gk (upL xs k (-1)) (upL xs k (-1)) = p := ⟨_, rfl⟩
  rw [hp] at i1 t1 n1 l1 ln1
  have ho : ∀ a ∈ out, isL p.1.n a := fun a ha => t1.isL (h.lo a ha)
  obtain ⟨s2, i2, t2, n2, l2, _, ln2, _⟩ := sum_ok out p.2 p.1 s1 (-1) i1 (isL_one i1).neg ho l1 (by rw [h.len, ln1])
  obtain ⟨t, ht⟩ : ∃ t, sumG p.1 out p.2 (-1) = t := ⟨_, rfl⟩
  rw [ht] at i2 t2 n2 l2 ln2
  refine ⟨p, t, by rw [e0]; exact hp, ht, ln1, l1, ho, n1, ⟨s1, i1⟩, s2, ?_, by rw [ln2, h.len], i2, (h.st.trans t1).trans t2, ?_, l2⟩
  · rw [h.eq, list_drop hc]
    simp only [prodG]
    rw [hp, ht]
  · have := h.le; have h5 := h.len; rw [h5] at n2; rw [Nat.mul_add]; omega
theorem row_set {outs P : List Int} {j : Nat} (h : outs.length = j) (hj : j < P.length) (v : Int) : (outs ++ P.drop j).set j v = (outs ++ [v]) ++ P.drop (j + 1) := by
  subst h
  rw [List.set_append_right _ _ (Nat.le_refl _), Nat.sub_self, List.drop_eq_getElem_cons hj, List.set_cons_zero, List.append_assoc]
  rfl
theorem row_at {outs P : List Int} {j : Nat} {x : Int} (h : outs.length = j) (hx : P[j]? = some x) : (outs ++ P.drop j)[j]? = some x := by
  subst h
  rw [List.getElem?_append_right (Nat.le_refl _), Nat.sub_self, List.getElem?_drop]
  simpa using hx
set_option maxRecDepth 100000 in
set_option maxHeartbeats 2000000 in
theorem product_any {X : Nat → Prop} {base gb : Nat} {g : G} {fr : List Int} {s : Nat → Bool} (w : World) (hG : GR X base w gb g) (hba : base ≤ w.heap.size) (vx vy : Value) (xs ys : List Int) (hX : SlX X w vx xs) (hY : SlX X w vy ys) (n : Nat) (hxn : xs.length = n) (hyn : ys.length = n) (hn1 : 1 ≤ n) (hn2 : n ≤ 64) (hn : g.n + 6 * n * n ≤ 1048576) (hx : ∀ x ∈ xs, isL g.n x) (hy : ∀ y ∈ ys, isL g.n y) (hI : GI g fr s) (r : G × List Int) (hr : prodG g (constL n 0) xs 0 ys = r) :
    Calls Tryz.prog 109 #[.pointer (some ⟨gb, 0, none⟩), vx, vy] w (Word1 X base gb n w r) := by
  obtain ⟨ax, cx, rfl⟩ := hX.shape
  obtain ⟨ay, cy, rfl⟩ := hY.shape
  have HWC := Lib.hid (WordC_any w gb (n : Int) 0 (by decide) (by decide) n (by omega))
  rw [hxn] at hX ⊢
  rw [hyn] at hY ⊢
  have HX := Lib.hid hX
  have HY := Lib.hid hY
  have Hn := Lib.hid hn
  have Hx := Lib.hid hx
  have Hy := Lib.hid hy
  have HI := Lib.hid hI
  have Hr := Lib.hid hr
  have HBA := Lib.hid hba
  have HG := Lib.hid hG
  have HXN := Lib.hid hxn
  have HYN := Lib.hid hyn
  have hn64 : (n : Int) ≤ 64 := by omega
  clear hX hY hn hx hy hI hr hba hG hxn hyn
  go_enter Tryz.func109, Tryz.ntmps109
  (repeat (first | (with_reducible first | refine xA ?_ | refine xB ?_ | refine xC ?_ | refine xD ?_ | refine xH ?_ | refine xI rfl ?_ | refine xE ?_ | refine xF ?_ | refine xG ?_) | go_skip | go_guarded | (go_at_call 61; (with_reducible refine (HWC.out).mono ?_); rintro _ w1 ⟨rfl, hO1, hb1⟩) | go_values | go_skip | go_guarded | go_step | go_upon | go_back | ((with_reducible show Oper.upon _ _ _ _ _ _); go_simp) | (dsimp only)))
  have hG1 := HG.out.owned (below_own hb1) (Nat.le_refl _) hO1.lt
  have hK1 : Kept X w w1 := Kept.ofBelow hb1
  have hC0 : ∀ a ∈ constL n (0 : Int).toNat, isL g.n a := constL_isL HI.out.pos
  go_loopw [7, 18] (fun ov iv wr => ∃ (k : Nat) (gk : G) (out : List Int) (sk : Nat → Bool) (q : Nat), k ≤ n ∧ iv = .int .i64 k ∧ ov = .slice (some ⟨q, 0, none⟩) n n ∧ Hid (PR1 g fr s xs ys (constL n 0) n k gk out sk) ∧ OwnI wr q n out ∧ Hid (w.heap.size ≤ q) ∧ Hid (∃ Y : Nat → Prop, (∀ q, X q → Y q) ∧ Y q ∧ GR Y base wr gb gk) ∧ Kept X w wr) (fun _ iv _ => n - (intOf iv).toNat)
  case atStart => exact ⟨0, g, _, s, w.heap.size, Nat.zero_le _, rfl, rfl, Lib.hid ⟨by simp, constL_len _ _, HI.out, Step.refl _ _, Nat.le_refl _, hC0⟩, hO1, Lib.hid (Nat.le_refl _), Lib.hid ⟨_, fun q h => .inl h, .inr rfl, hG1⟩, hK1⟩
  case round =>
    clear hO1 hb1 hG1 hK1 hC0 HWC
    obtain ⟨k, gk, out, sk, q, hk, rfl, rfl, hZ, hO, HQ, hYX, hK⟩ := hrel
    obtain ⟨wo, rfl⟩ : ∃ wo, wo = wr := ⟨_, rfl⟩
    obtain ⟨Y, hXY, hYq, hGY⟩ := hYX.out
    have HXY := Lib.hid hXY
    have HYQ := Lib.hid hYq
    have HGY := Lib.hid hGY
    have HO := Lib.hid hO
    clear hYX hXY hYq hGY hO
    rcases Nat.lt_or_ge k n with hlt | hge
    · obtain ⟨by', oy, rfl, xby, lby, cby, HRy⟩ := HY.out.row (by rw [HYN.out]; omega)
      obtain ⟨c, hc⟩ : ∃ c, ys[k]? = some c := ⟨_, List.getElem?_eq_getElem (by rw [HYN.out]; omega)⟩
      have hcc := hK.cell (HRy k c hc) xby
      have HCL := Lib.hid (Hy.out c (List.mem_of_getElem? hc))
      have HC := Lib.hid hc
      have i0 : (0 : Int) ≤ (k : Int) := by omega
      have i1 : (k : Int) < (n : Int) := by omega
      have hZo := hZ.out
      obtain ⟨p, t, hP2⟩ := hZo.next hc HCL.out Hx.out HXN.out
      have HP2 := Lib.hid hP2
      have hgk : gk.n + 6 * n ≤ 1048576 := by
        have h1 := hZo.le
        have h2 := Hn.out
        have h4 : 6 * n * (k + 1) ≤ 6 * n * n := Nat.mul_le_mul_left _ hlt
        rw [Nat.mul_add] at h4
        omega
      have HGK := Lib.hid hgk
      have hba1 : base ≤ wo.heap.size := Nat.le_trans HBA.out hK.size
      have HUP := Lib.hid (up_n (X := X) n wo (.slice ax n cx) xs (HX.out.kept hK) HXN.out (by omega) k (by omega) (-1))
      obtain ⟨P, hP⟩ : ∃ P, upL xs k (-1) = P := ⟨_, rfl⟩
      have hPl : P.length = n := by rw [← hP, upL_len]; exact HXN.out
      have hPL : ∀ a ∈ P, isL gk.n a := by rw [← hP]; exact upL_isL (fun a ha => hZo.st.isL (Hx.out a ha)) (isL_one hZo.gi).neg
      have e0 : ys.getD k 0 = c := by rw [List.getD_eq_getElem?_getD, hc]; rfl
      rw [hP] at HUP
      have HPL := Lib.hid hPl
      have HPI := Lib.hid hPL
      have HEP := Lib.hid (show zipG (fun g x _ => both g x c) gk P P = p by rw [← hP, ← e0]; exact hP2.ep)
      clear hc HRy hZo hP2 hgk hP hPl hPL e0
      (repeat (first | (with_reducible first | refine xA ?_ | refine xB ?_ | refine xC ?_ | refine xD ?_ | refine xH ?_ | refine xI rfl ?_ | refine xE ?_ | refine xF ?_ | refine xG ?_) | go_skip | go_guarded | (go_at_call 132; (with_reducible refine (HUP.out).mono ?_); rintro _ w2 ⟨rfl, hO2, hb2⟩) | go_values | go_skip | go_guarded | go_step | go_upon | go_back | ((with_reducible show Oper.upon _ _ _ _ _ _); go_simp) | (dsimp only)))
      obtain ⟨pb, hpb⟩ : ∃ pb, wo.heap.size = pb := ⟨_, rfl⟩
      have hG2 := HGY.out.owned (below_own hb2) (Nat.le_refl _) hO2.lt
      rw [hpb] at hO2 hG2
      rw [hpb]
      have HPB := Lib.hid hpb
      have HB2 := Lib.hid hb2
      have hO2' : OwnI w2 pb n ([] ++ P.drop 0) := by simpa using hO2
      clear hpb hb2 hO2
      go_loopw [28] (fun jv wj => ∃ (j : Nat) (gj : G) (outs : List Int) (sj : Nat → Bool), j ≤ n ∧ jv = .int .i64 j ∧ Hid (ZS (fun g x _ => both g x c) 1 gk fr sk P P j gj outs sj) ∧ OwnI wj pb n (outs ++ P.drop j) ∧ GR (fun k => Y k ∨ k = pb) base wj gb gj ∧ Kept Y w2 wj) (fun jv _ => n - (intOf jv).toNat)
      case atStart => exact ⟨0, gk, [], sk, Nat.zero_le _, rfl, Lib.hid (ZS.start hZ.out.gi), hO2', hG2, Kept.refl _ _⟩
      case round =>
        clear hO2' hG2
        obtain ⟨j, gj, outs, sj, hj, rfl, hZj, hOj, hGj, hKj⟩ := hrel
        rcases Nat.lt_or_ge j n with hjt | hje
        · obtain ⟨x, hx⟩ : ∃ x, P[j]? = some x := ⟨_, List.getElem?_eq_getElem (by rw [HPL.out]; exact hjt)⟩
          have hcx := hOj.row j x (row_at hZj.out.len hx)
          rw [Nat.zero_add] at hcx
          have j0 : (0 : Int) ≤ (j : Int) := by omega
          have j1 : (j : Int) < (n : Int) := by omega
          obtain ⟨rk, hrk⟩ : ∃ rk, both gj x c = rk := ⟨_, rfl⟩
          have hst := hZj.out.st
          have hcj := hst.isL (hZ.out.st.isL HCL.out)
          have hxj := hst.isL (HPI.out x (List.mem_of_getElem? hx))
          have hnj : gj.n < 1048576 := by have := hZj.out.le; have := HGK.out; omega
          obtain ⟨s2, hZ2⟩ := hZj.out.next HPI.out HPI.out hx hx hrk (fun a _ => by
            obtain ⟨s', q1, q2, q3, _⟩ := both_ok hZj.out.gi a hcj
            rw [hrk] at q1 q2 q3
            exact ⟨s', q1, q2, q3⟩)
          have HZ2 := Lib.hid hZ2
          have HBO := Lib.hid (both_any wr hGj (Lib.hid hnj) (Nat.le_trans hba1 (Nat.le_trans HB2.out.size hKj.size)) x c (Lib.hid hxj) (Lib.hid hcj) rk (Lib.hid hrk))
          have HZL := Lib.hid hZj.out.len
          have HPJ := Lib.hid (show j < P.length by rw [HPL.out]; exact hjt)
          clear hx hst hcj hxj hnj hZ2 hrk hGj
          (repeat (first | (with_reducible first | refine xA ?_ | refine xB ?_ | refine xC ?_ | refine xD ?_ | refine xH ?_ | refine xI rfl ?_ | refine xE ?_ | refine xF ?_ | refine xG ?_) | go_skip | go_guarded | (go_at_call 112; (with_reducible refine (HBO.out).mono ?_); rintro _ w3 ⟨rfl, hG3, hk3⟩; have hO3 := hOj.kept hk3 (.inr rfl)) | ((with_reducible refine wl_id ?_); refine wl_store_own rfl _ _ rfl pb n _ j rfl rk.2 rfl hO3 hjt ?_; intro w4 hO4 hg4; (rw [row_set HZL.out HPJ.out] at hO4); (try simp only [Act.put, qz4, qz5, qz6])) | go_values | go_skip | go_guarded | go_step | go_upon | go_back | ((with_reducible show Oper.upon _ _ _ _ _ _); go_simp) | (dsimp only)))
          exact ⟨⟨j + 1, rk.1, outs ++ [rk.2], s2, by omega, by go_num, HZ2, hO4, hG3.other hg4 (.inr rfl), (hKj.trans (hk3.mono fun _ _ h => .inl h)).grown hg4 (fun q e hl hY => by injection e with e; subst e; have := HGY.out.xb _ hY; have := HPB.out; omega)⟩, by simp [intOf]; omega⟩
        · obtain rfl : n = j := by omega
          have hz := hZj.out.eq
          rw [List.take_of_length_le (Nat.le_of_eq HPL.out)] at hz
          have hp1 : p = (gj, outs) := by rw [← HEP.out]; exact hz
          subst hp1
          rw [List.drop_of_length_le (Nat.le_of_eq HPL.out), List.append_nil] at hOj
          obtain ⟨s1, hI1⟩ := HP2.out.gi
          obtain ⟨s2, hF2⟩ := HP2.out.fin
          have HF2 := Lib.hid hF2
          have hZl := hZ.out.len
          have hKall : Kept Y wo wr := (Kept.ofBelow HB2.out).trans hKj
          have hSo : SlX (fun k => Y k ∨ k = pb) wr (.slice (some ⟨q, 0, none⟩) n n) out := (HO.out.slX (X := fun k => Y k ∨ k = pb) (.inl HYQ.out)).kept (hKall.mono fun k hk h => h.elim id fun e => absurd hk (by have := HPB.out; omega))
          have HSU := Lib.hid (sum_any (X := fun k => Y k ∨ k = pb) wr hGj (Nat.le_trans hba1 hKall.size) _ _ out outs (-1) hSo (hOj.slX (.inr rfl)) (by rw [HP2.out.lp, hZl]) (by have h1 : gj.n ≤ gk.n + n := HP2.out.pn; have h2 := HGK.out; rw [hZl]; show gj.n + 5 * n ≤ _; omega) (by rw [hZl]; omega) (isL_one hI1).neg HP2.out.lpo HP2.out.lpi hI1 t HP2.out.et)
          rw [hZl] at HSU
          clear hz hI1 hF2 hZl hSo hGj hOj
          (repeat (first | (with_reducible first | refine xA ?_ | refine xB ?_ | refine xC ?_ | refine xD ?_ | refine xH ?_ | refine xI rfl ?_ | refine xE ?_ | refine xF ?_ | refine xG ?_) | go_skip | go_guarded | (go_at_call 108; (with_reducible refine (HSU.out).mono ?_); rintro _ w5 ⟨q5, rfl, hO5, hq5, hG5, hk5⟩) | go_values | go_skip | go_guarded | go_step | go_upon | go_back | ((with_reducible show Oper.upon _ _ _ _ _ _); go_simp) | (dsimp only)))
          have hfin : Kept Y wo w5 := hKall.trans (hk5.mono fun _ _ h => .inl h)
          exact ⟨⟨k + 1, t.1, t.2.1, s2, q5, by omega, by go_num, rfl, HF2, hO5, Lib.hid (Nat.le_trans hK.size (Nat.le_trans hKall.size hq5)), Lib.hid ⟨_, fun q h => .inl (.inl (HXY.out q h)), .inr rfl, hG5⟩, hK.trans (hfin.mono fun q _ h => HXY.out q h)⟩, by simp [intOf]; omega⟩
    · obtain rfl : n = k := by omega
      have he := hZ.out.eq
      rw [List.drop_of_length_le (by rw [HYN.out]; exact Nat.le_refl _)] at he
      simp only [prodG] at he
      have hR : Hid (r = (gk, out)) := Lib.hid (by rw [← Hr.out]; exact he)
      clear he
      (repeat (first | (with_reducible first | refine xA ?_ | refine xB ?_ | refine xC ?_ | refine xD ?_ | refine xH ?_ | refine xI rfl ?_ | refine xE ?_ | refine xF ?_ | refine xG ?_) | go_values | go_skip | go_guarded | go_step | go_upon | go_back | ((with_reducible show Oper.upon _ _ _ _ _ _); go_simp) | (dsimp only)))
      go_ret
      rw [hR.out]
      exact ⟨q, rfl, HO.out, HQ.out, HGY.out.less fun k h => h.elim (HXY.out k) fun e => e ▸ HYQ.out, hK⟩
end Go.Proofs.YtmaogkgjiplckaaGreat
namespace Go.Proofs.YtmaogkgjiplckaaGreat
open Go.RowKit
theorem turn_row {Y : Nat → Prop} {base gb B n m : Nat} {T : TypeId} {w w' : World} {g : G} {v v' : Value} {l l' : List Value} (ho : w.ownsRow B T 1 v n l) (ho' : w'.ownsRow B T 1 v' m l') (hg : w.grownBy w' v.ownBlock) (hl : v'.ownBlock = v.ownBlock ∨ v'.ownBlock = some w.heap.size) (hG : GR Y base w gb g) (hY : ∀ k, v.ownBlock = some k → Y k) : GR (fun k => Y k ∨ v'.ownBlock = some k) base w' gb g := by
  have hx := hG.xb
  refine hG.turn hg hY ?_ ?_
  · rintro k (h | h)
    · exact .inl h
    · rcases hl with e | e
      · rw [e] at h; exact .inl (hY k h)
      · rw [e] at h; cases h; exact .inr (Nat.le_refl _)
  · rintro k (h | h)
    · exact Nat.lt_of_lt_of_le (hx k h) hg.size
    · exact (ho'.lt k h).2
theorem turn_new {Y : Nat → Prop} {base gb n : Nat} {w w' : World} {g : G} {v : Value} {l : List Value} (hG : GR Y base w gb g) (hb : Below w.heap.size w w') (ho : w'.ownsRow w.heap.size 3 1 v n l) : GR (fun k => Y k ∨ v.ownBlock = some k) base w' gb g := by
  have hx := hG.xb
  refine hG.turn (below_own hb) (fun q e => by cases e) ?_ ?_
  · rintro k (h | h)
    · exact .inl h
    · exact .inr (ho.lt k h).1
  · rintro k (h | h)
    · exact Nat.lt_of_lt_of_le (hx k h) hb.size
    · exact (ho.lt k h).2
theorem own_sl {X : Nat → Prop} {w : World} {B n : Nat} {v : Value} {l : List Int} (h : w.ownsRow B 3 1 v n (l.map (Value.int .i64))) (hX : ∀ k, v.ownBlock = some k → X k) : SlX X w v l := by
  have hl : l.length = n := by simpa using h.1
  subst hl
  exact SlX.ofOwns h fun g _ e => hX g e.symm
theorem SlX.cut {X : Nat → Prop} {w : World} {q n c : Nat} {l : List Int} (h : SlX X w (.slice (some ⟨q, 0, none⟩) (n + 1) c) l) (hl : l.length = n + 1) : SlX X w (.slice (some ⟨q, 0, none⟩) n c) (l.take n) := by
  obtain ⟨b, o, e, xb, lb, hc, hR⟩ := h.row (by omega)
  injection e with e
  injection e with e1 e2
  subst e1; subst e2
  refine ⟨_, c, by rw [List.length_take, hl]; simp, by simp; omega, by simp, fun _ => ⟨q, 0, rfl, xb, lb, fun i x hi => ?_⟩⟩
  rw [List.getElem?_take] at hi
  split at hi
  · exact hR i x hi
  · cases hi
structure DV1 (g : G) (fr : List Int) (s : Nat → Bool) (xs ys : List Int) (n m : Nat) (gk : G) (rk qk : List Int) (sk : Nat → Bool) : Prop where
  eq : divG g xs.reverse (constL n 0) ys [] = divG gk (xs.take (n - m)).reverse rk ys qk
  lr : rk.length = n
  lq : qk.length = m
  gi : GI gk fr sk
  st : Step g s gk sk
  le : gk.n ≤ g.n + 8 * (n + 1) * m
  ir : ∀ a ∈ rk, isL gk.n a
structure DV2 (g : G) (fr : List Int) (s : Nat → Bool) (xs ys : List Int) (n m : Nat) (gk : G) (rk qk : List Int) (sk : Nat → Bool) (d : Int) (t : G × List Int × Int) (c : G × List Int) : Prop where
  et : sumG gk (d :: rk) (notL (ys ++ [-1])) 1 = t
  ec : chooseG t.1 t.2.2 t.2.1 (d :: rk) = c
  id : ∀ a ∈ d :: rk, isL gk.n a
  iw : ∀ a ∈ notL (ys ++ [-1]), isL gk.n a
  tn : t.1.n ≤ gk.n + 5 * (n + 1)
  it : (∀ a ∈ t.2.1, isL t.1.n a) ∧ isL t.1.n t.2.2 ∧ (∀ a ∈ d :: rk, isL t.1.n a) ∧ t.2.1.length = n + 1
  gt : ∃ s1, GI t.1 fr s1
  cn : c.2.length = n + 1
  fin : ∃ s2, DV1 g fr s xs ys n (m + 1) c.1 (c.2.take n) (t.2.2 :: qk) s2
theorem DV1.next {g : G} {fr : List Int} {s : Nat → Bool} {xs ys : List Int} {n m k : Nat} {gk : G} {rk qk : List Int} {sk : Nat → Bool} (h : DV1 g fr s xs ys n m gk rk qk sk) (hk : k + m + 1 = n) {d : Int} (hd : xs[k]? = some d) (hx : ∀ a ∈ xs, isL g.n a) (hy : ∀ a ∈ ys, isL g.n a) (hyn : ys.length = n) : ∃ t c, DV2 g fr s xs ys n m gk rk qk sk d t c := by
  have hdL := h.st.isL (hx d (List.mem_of_getElem? hd))
  have h1 : ∀ a ∈ d :: rk, isL gk.n a := fun a ha => by
    rcases List.mem_cons.1 ha with rfl | ha
    · exact hdL
    · exact h.ir a ha
  have hw : ∀ a ∈ ys ++ [-1], isL gk.n a := fun a ha => by
    rcases List.mem_append.1 ha with ha | ha
    · exact h.st.isL (hy a ha)
    · rw [List.mem_singleton] at ha; subst ha; exact (isL_one h.gi).neg
  have h2 := notL_isL hw
  have hl : (d :: rk).length = (notL (ys ++ [-1])).length := by rw [notL_len]; simp [h.lr, hyn]
  obtain ⟨s1, i1, t1, n1, l1, c1, ln1, _⟩ := sum_ok (d :: rk) (notL (ys ++ [-1])) gk sk 1 h.gi (isL_one h.gi) h1 h2 hl
  obtain ⟨t, ht⟩ : ∃ t, sumG gk (d :: rk) (notL (ys ++ [-1])) 1 = t := ⟨_, rfl⟩
  rw [ht] at i1 t1 n1 l1 c1 ln1
  have hlr : (d :: rk).length = n + 1 := by simp [h.lr]
  rw [hlr] at n1 ln1
  have h3 : ∀ a ∈ d :: rk, isL t.1.n a := fun a ha => t1.isL (h1 a ha)
  obtain ⟨s2, i2, t2, n2, l2, _⟩ := chooseG_ok i1 c1 l1 h3 (by rw [ln1, hlr])
  obtain ⟨c, hc⟩ : ∃ c, chooseG t.1 t.2.2 t.2.1 (d :: rk) = c := ⟨_, rfl⟩
  have hcn : c.2.length = n + 1 := by rw [← hc]; unfold chooseG; rw [zipG_len _ _ _ _ (by rw [ln1, hlr]), ln1]
  rw [hc] at i2 t2 n2 l2
  rw [ln1] at n2
  refine ⟨t, c, ht, hc, h1, h2, n1, ⟨l1, c1, h3, ln1⟩, ⟨s1, i1⟩, hcn, s2, ?_, by rw [List.length_take, hcn]; omega, by simp [h.lq], i2, (h.st.trans t1).trans t2, by have := h.le; rw [Nat.mul_add]; omega, fun a ha => l2 a (List.mem_of_mem_take ha)⟩
  have e1 : n - m = k + 1 := by omega
  have e2 : n - (m + 1) = k := by omega
  rw [h.eq, e1, e2, list_upto hd, List.reverse_append, List.reverse_singleton, List.singleton_append]
  simp only [divG]
  rw [ht, hc, hyn]
theorem turned_n {X : Nat → Prop} (m : Nat) (w : World) (v : Value) (l : List Int) (hl : SlX X w v l) (hm : l.length = m) (hll : m ≤ 1000000) (hb : ∀ x ∈ l, -1048576 ≤ x ∧ x ≤ 1048576) :
    Calls Tryz.prog 77 #[v] w fun e w' => e = .returned (.slice (some ⟨w.heap.size, 0, none⟩) m m) ∧ OwnI w' w.heap.size m (notL l) ∧ Below w.heap.size w w' := by
  subst hm
  exact turned_any w v l hl hll hb
theorem sum_n {X : Nat → Prop} {base gb : Nat} {g : G} {fr : List Int} {s : Nat → Bool} (m : Nat) (w : World) (hG : GR X base w gb g) (hba : base ≤ w.heap.size) (vx vy : Value) (xs ys : List Int) (c : Int) (hX : SlX X w vx xs) (hY : SlX X w vy ys) (hxl : xs.length = m) (hyl : ys.length = m) (hn : g.n + 5 * m ≤ 1048576) (hn1 : m ≤ 1000000) (hc : isL g.n c) (hx : ∀ x ∈ xs, isL g.n x) (hy : ∀ y ∈ ys, isL g.n y) (hI : GI g fr s) (r : G × List Int × Int) (hr : sumG g xs ys c = r) :
    Calls Tryz.prog 108 #[.pointer (some ⟨gb, 0, none⟩), vx, vy, .int .i64 c] w (Word2 X base gb m w r) := by
  subst hxl
  exact sum_any w hG hba vx vy xs ys c hX hY hyl hn hn1 hc hx hy hI r hr
theorem row_top {k : Nat} {qk : List Int} (u : Int) : (List.replicate (k + 1) 0 ++ qk).set k u = List.replicate k 0 ++ (u :: qk) := by
  rw [List.replicate_succ', List.append_assoc, List.set_append_right _ _ (by simp), List.length_replicate, Nat.sub_self]
  rfl
def WordQ (X : Nat → Prop) (base gb n : Nat) (w : World) (r : G × List Int × List Int) (e : Ending) (w' : World) : Prop :=
  ∃ (q : Nat) (rv : Value) (Y : Nat → Prop), e = .returned (.tuple #[.slice (some ⟨q, 0, none⟩) n n, rv]) ∧ OwnI w' q n r.2.1 ∧ w.heap.size ≤ q ∧ SlX (fun k => Y k ∧ w.heap.size ≤ k) w' rv r.2.2 ∧ (∀ k, X k → Y k) ∧ Y q ∧ GR Y base w' gb r.1 ∧ Kept X w w'
set_option maxRecDepth 100000 in
set_option maxHeartbeats 4000000 in
theorem parts_any {X : Nat → Prop} {base gb : Nat} {g : G} {fr : List Int} {s : Nat → Bool} (w : World) (hG : GR X base w gb g) (hba : base ≤ w.heap.size) (vx vy : Value) (xs ys : List Int) (hX : SlX X w vx xs) (hY : SlX X w vy ys) (n : Nat) (hxn : xs.length = n) (hyn : ys.length = n) (hn1 : 1 ≤ n) (hn2 : n ≤ 64) (hn : g.n + 8 * (n + 1) * n ≤ 1048576) (hx : ∀ x ∈ xs, isL g.n x) (hy : ∀ y ∈ ys, isL g.n y) (hI : GI g fr s) (r : G × List Int × List Int) (hr : divG g xs.reverse (constL n 0) ys [] = r) :
    Calls Tryz.prog 110 #[.pointer (some ⟨gb, 0, none⟩), vx, vy] w (WordQ X base gb n w r) := by
  obtain ⟨ax, cx, rfl⟩ := hX.shape
  obtain ⟨ay, cy, rfl⟩ := hY.shape
  have HNE := Lib.hid (show ys ≠ [] by rintro rfl; simp at hyn; omega)
  have HYL := Lib.hid (show ys.length ≤ 1000000 by omega)
  rw [hxn] at hX ⊢
  rw [hyn] at hY ⊢
  have HX := Lib.hid hX
  have HY := Lib.hid hY
  have Hn := Lib.hid hn
  have Hx := Lib.hid hx
  have Hy := Lib.hid hy
  have HI := Lib.hid hI
  have Hr := Lib.hid hr
  have HBA := Lib.hid hba
  have HG := Lib.hid hG
  have HXN := Lib.hid hxn
  have HYN := Lib.hid hyn
  have Hnm := Lib.hid (show n ≤ 1000000 by omega)
  have Hmx := Lib.hid (show max 1 (min (n : Int) 64) = (n : Int) by omega)
  have hn64 : (n : Int) ≤ 64 := by omega
  clear hX hY hn hx hy hI hr hba hG hxn hyn
  go_enter Tryz.func110, Tryz.ntmps110
  (repeat (first | (with_reducible first | refine xA ?_ | refine xB ?_ | refine xC ?_ | refine xD ?_ | refine xH ?_ | refine xI rfl ?_ | refine xE ?_ | refine xF ?_ | refine xG ?_) | go_skip | go_guarded | (at_make; refine wl_make_own rfl _ _ rfl n rfl rfl Hnm.out ?_; intro w1 hO hg; (try simp only [Act.put, qz4, qz5, qz6])) | go_values | go_skip | go_guarded | go_step | go_upon | go_back | ((with_reducible show Oper.upon _ _ _ _ _ _); go_simp) | (dsimp only)))
  have hG1 := HG.out.owned hg (Nat.le_refl _) hO.lt
  have HK1 := Lib.hid (show Kept X w w1 from ⟨hg.os, hg.tape, hg.output, hg.size, fun i hi _ => hg.block i hi (by simp)⟩)
  have HG1 := Lib.hid hG1
  have HO1 := Lib.hid hO
  have HS1 := Lib.hid (show w.heap.size < w1.heap.size from hO.lt)
  clear hO hg hG1
  (repeat (first | (with_reducible first | refine xA ?_ | refine xB ?_ | refine xC ?_ | refine xD ?_ | refine xH ?_ | refine xI rfl ?_ | refine xE ?_ | refine xF ?_ | refine xG ?_) | go_skip | go_guarded | (go_at_call 61; (with_reducible refine (WordC_any w1 gb (n : Int) 0 (by decide) (by decide) n Hmx.out).mono ?_); rintro _ w2 ⟨rfl, hO2, hb2⟩; have HWY := Lib.hid (clone_any (X := X) _ ys w2 ((HY.out.kept HK1.out).kept (Kept.ofBelow hb2)) HNE.out HYL.out)) | (go_at_call 25; (with_reducible refine (HWY.out).mono ?_); rintro _ w3 ⟨v3, rfl, hO3, hb3⟩; (rw [HYN.out] at hO3)) | ((with_reducible refine wl_id ?_); refine wl_push rfl _ _ rfl w2.heap.size v3 n ys rfl (hO3.alloc _) w3.heap.size (-1) rfl (cell_new _ _ _) (by omega) (by have := hb3.size; simp; omega) ?_; intro v4 w4 hO4 hg4 hl4; (try simp only [Act.put, qz4, qz5, qz6])) | go_values | go_skip | go_guarded | go_step | go_upon | go_back | ((with_reducible show Oper.upon _ _ _ _ _ _); go_simp) | (dsimp only)))
  have hq0 : w.heap.size < w1.heap.size := HS1.out
  have hs12 := hb2.size
  have hk24 : Kept (fun k => k < w2.heap.size) w2 w4 := ((Kept.ofBelow hb3).alloc _).grown hg4 (fun q e hl _ => by have := (hO3.lt q e).1; omega)
  have hO0 : OwnI w4 w.heap.size n (List.replicate n 0) := (HO1.out.kept (Kept.ofBelow (X := fun _ => True) hb2) trivial).kept hk24 (by omega)
  have hOr : OwnI w4 w1.heap.size n (constL n (0 : Int).toNat) := hO2.kept hk24 hO2.lt
  have hGa := HG1.out.owned (below_own hb2) (Nat.le_refl _) hO2.lt
  have hGb := (turn_new hGa hb3 hO3).alloc (.cells #[.int .i64 (-1)] 3)
  have hGc := turn_row (hO3.alloc _) hO4 hg4 hl4 hGb (fun k e => .inr e)
  have hKX : Kept X w w4 := (HK1.out.trans (Kept.ofBelow hb2)).trans (hk24.mono fun k hk _ => hk)
  have HV4 := Lib.hid (fun k (e : v4.ownBlock = some k) => show k ≠ w.heap.size by have := (hO4.lt k e).1; omega)
  have hsW : SlX (fun k => v4.ownBlock = some k) w4 v4 (ys ++ [-1]) := own_sl hO4 (fun k e => e)
  have hC0 : ∀ a ∈ constL n (0 : Int).toNat, isL g.n a := constL_isL HI.out.pos
  have HWL := Lib.hid (show (ys ++ [-1]).length = n + 1 by rw [List.length_append, HYN.out]; rfl)
  have HWB := Lib.hid (show ∀ x ∈ ys ++ [-1], -1048576 ≤ x ∧ x ≤ 1048576 from fun x hx => by
    rcases List.mem_append.1 hx with h | h
    · exact rng_of (Hy.out x h) HG.out.n1
    · rw [List.mem_singleton] at h; subst h; omega)
  have HNB := Lib.hid (show n + 1 ≤ 1000000 by omega)
  go_loopw [9, 11] (fun rv kv wr => ∃ (m : Nat) (gk : G) (rk qk : List Int) (sk : Nat → Bool) (rb rc : Nat), m ≤ n ∧ kv = .int .i64 ((n : Int) - 1 - m) ∧ rv = .slice (some ⟨rb, 0, none⟩) n rc ∧ Hid (DV1 g fr s xs ys n m gk rk qk sk) ∧ Hid (OwnI wr w.heap.size n (List.replicate (n - m) 0 ++ qk)) ∧ Hid (w.heap.size < rb) ∧ Hid (∃ Y : Nat → Prop, (∀ k, X k → Y k) ∧ Y w.heap.size ∧ Y rb ∧ (∀ k, v4.ownBlock = some k → Y k) ∧ GR Y base wr gb gk) ∧ Hid (SlX (fun k => k = rb) wr (.slice (some ⟨rb, 0, none⟩) n rc) rk) ∧ Hid (SlX (fun k => v4.ownBlock = some k) wr v4 (ys ++ [-1])) ∧ Kept X w wr) (fun _ kv _ => (intOf kv + 1).toNat)
  case atStart => exact ⟨0, g, _, [], s, w1.heap.size, n, Nat.zero_le _, by simp, rfl, Lib.hid ⟨by rw [Nat.sub_zero, List.take_of_length_le (Nat.le_of_eq HXN.out)]; rfl, constL_len _ _, rfl, HI.out, Step.refl _ _, Nat.le_refl _, hC0⟩, Lib.hid (by simpa using hO0), Lib.hid (by omega), Lib.hid ⟨_, fun k h => .inl (.inl (.inl (.inl h))), .inl (.inl (.inl (.inr rfl))), .inl (.inl (.inr rfl)), fun k h => .inr h, hGc⟩, Lib.hid (hOr.slX rfl), Lib.hid hsW, hKX⟩
  case round =>
    clear hO2 hb2 hO3 hb3 hO4 hg4 hl4 hk24 hO0 hOr hGa hGb hGc hKX hsW hC0 hs12 HWY
    obtain ⟨m, gk, rk, qk, sk, rb, rc, hm, rfl, rfl, hZ, HOQ, HRB, hYX, HSR, HSW, hK⟩ := hrel
    obtain ⟨Y, hXY, hYq, hYr, hY4, hGY⟩ := hYX.out
    have HXY := Lib.hid hXY
    have HYQ := Lib.hid hYq
    have HYR := Lib.hid hYr
    have HY4 := Lib.hid hY4
    have HGY := Lib.hid hGY
    clear hYX hXY hYq hYr hY4 hGY
    rcases Nat.lt_or_ge m n with hlt | hge
    · obtain ⟨k, hkm⟩ : ∃ k, k + m + 1 = n := ⟨n - 1 - m, by omega⟩
      have ek : ((n : Int) - 1 - m) = (k : Int) := by omega
      rw [ek]
      obtain ⟨bx, ox, rfl, xbx, lbx, cbx, HRx⟩ := HX.out.row (by rw [HXN.out]; omega)
      obtain ⟨d, hd⟩ : ∃ d, xs[k]? = some d := ⟨_, List.getElem?_eq_getElem (by rw [HXN.out]; omega)⟩
      have hcd := hK.cell (HRx k d hd) xbx
      obtain ⟨t, c, hD2⟩ := hZ.out.next hkm hd Hx.out Hy.out HYN.out
      have HD2 := Lib.hid hD2
      have hba1 : base ≤ wr.heap.size := Nat.le_trans HBA.out hK.size
      have hsz : gk.n + 8 * (n + 1) ≤ 1048576 := by
        have h1 := hZ.out.le
        have h2 := Hn.out
        have h4 : 8 * (n + 1) * (m + 1) ≤ 8 * (n + 1) * n := Nat.mul_le_mul_left _ hlt
        rw [Nat.mul_add] at h4
        omega
      have HNS := Lib.hid (show gk.n + 5 * (n + 1) ≤ 1048576 by omega)
      have HNT := Lib.hid (show t.1.n + 3 * (n + 1) ≤ 1048576 by have := hD2.tn; omega)
      have HDL := Lib.hid (show (d :: rk).length = n + 1 by rw [List.length_cons, hZ.out.lr])
      have HNL := Lib.hid (show (notL (ys ++ [-1])).length = n + 1 by rw [notL_len]; exact HWL.out)
      have HONE := Lib.hid (isL_one hZ.out.gi)
      have HGI := Lib.hid hZ.out.gi
      obtain ⟨s1, hgt⟩ := hD2.gt
      have HGT := Lib.hid hgt
      obtain ⟨s2, hfin⟩ := hD2.fin
      have HFIN := Lib.hid hfin
      have HQ0 := Lib.hid (show w.heap.size < wr.heap.size from HOQ.out.lt)
      have HL1 := Lib.hid (show (wr.alloc (.cells #[.int .i64 d] 3)).ownsRow wr.heap.size 3 1 (.slice (some ⟨wr.heap.size, 0, none⟩) 1 1) 1 (([d] : List Int).map (Value.int .i64)) from World.ownsRow_lit wr #[.int .i64 d] 1 (Nat.le_refl _) (by decide) rfl)
      have HLR := Lib.hid hZ.out.lr
      obtain ⟨br, orr, er, _, _, _, HRr⟩ := HSR.out.row (by rw [HLR.out]; omega)
      injection er with er
      injection er with er1 er2
      subst er1
      subst er2
      have HRW := Lib.hid (HRr.kept ((Kept.refl (fun _ => True) wr).alloc (.cells #[.int .i64 d] 3)) trivial)
      have HN1 := Lib.hid (show 1 + n ≤ 1000000000 by omega)
      have HLE := Lib.hid (show wr.heap.size ≤ (wr.alloc (.cells #[.int .i64 d] 3)).heap.size by simp)
      have H7 := Lib.hid (fun (w7 : World) (hg : (wr.alloc (.cells #[.int .i64 d] 3)).grownBy w7 (some wr.heap.size)) => show Below wr.heap.size wr w7 from ⟨hg.os, hg.tape, hg.output, Nat.le_trans HLE.out hg.size, fun i hi => (hg.block i (Nat.lt_of_lt_of_le hi HLE.out) (fun e => by injection e with e; omega)).trans (Below.heap_alloc wr _ i hi)⟩)
      have i0 : (0 : Int) ≤ (k : Int) := by omega
      have i1 : (k : Int) < (n : Int) := by omega
      have hkn : k < n := by omega
      have HST := Lib.hid (show (List.replicate (n - m) 0 ++ qk).set k t.2.2 = List.replicate (n - (m + 1)) 0 ++ (t.2.2 :: qk) by
        have a1 : n - m = k + 1 := by omega
        have a2 : n - (m + 1) = k := by omega
        rw [a1, a2]
        exact row_top _)
      have HKM := Lib.hid hkm
      have HCN := Lib.hid hD2.cn
      clear hd HRx hD2 hsz hgt hfin HRr ek hkm
      (repeat (first | (with_reducible first | refine xA ?_ | refine xB ?_ | refine xC ?_ | refine xD ?_ | refine xH ?_ | refine xI rfl ?_ | refine xE ?_ | refine xF ?_ | refine xG ?_) | go_skip | go_guarded | ((with_reducible refine wl_id ?_); refine wl_appendI rfl _ _ rfl wr.heap.size (.slice (some ⟨wr.heap.size, 0, none⟩) 1 1) 1 [d] rfl HL1.out rb 0 n rc rk rfl HLR.out HRW.out HN1.out HLE.out ?_; intro v7 w7 hO7 hg7 hl7; have hb7 := H7.out w7 hg7; have HG7 := Lib.hid (turn_new HGY.out hb7 hO7); have HS7 := Lib.hid (own_sl (X := (fun k => v7.ownBlock = some k)) (l := d :: rk) hO7 (fun k e => e)); have HV7 := Lib.hid (fun k (e : v7.ownBlock = some k) => (hO7.lt k e).1); have HW7 := Lib.hid (HSW.out.kept (Kept.ofBelow hb7)); have HK7 := Lib.hid (Kept.ofBelow (X := Y) hb7); have HB7 := Lib.hid hb7.size; clear hO7 hg7 hl7 hb7; (try simp only [Act.put, qz4, qz5, qz6])) | (go_at_call 77; (with_reducible refine (turned_n (n + 1) w7 v4 (ys ++ [-1]) HW7.out HWL.out HNB.out HWB.out).mono ?_); rintro _ w8 ⟨rfl, hO8, hb8⟩; have HG8 := Lib.hid (HG7.out.owned (below_own hb8) (Nat.le_refl _) hO8.lt); have HS8 := Lib.hid (HS7.out.kept (Kept.ofBelow hb8)); have HW8 := Lib.hid (HW7.out.kept (Kept.ofBelow hb8)); have HT8 := Lib.hid (hO8.slX (X := (fun k => (Y k ∨ v7.ownBlock = some k) ∨ k = w7.heap.size)) (.inr rfl)); have HK8 := Lib.hid (HK7.out.trans (Kept.ofBelow hb8)); have HB8 := Lib.hid (Nat.le_trans HB7.out hb8.size); clear hO8 hb8) | (go_at_call 108; (with_reducible refine (sum_n (n + 1) w8 HG8.out (Nat.le_trans hba1 HB8.out) _ _ (d :: rk) (notL (ys ++ [-1])) 1 (HS8.out.mono fun _ _ h => .inl (.inr h)) HT8.out HDL.out HNL.out HNS.out HNB.out HONE.out HD2.out.id HD2.out.iw HGI.out t HD2.out.et).mono ?_); rintro _ w9 ⟨q9, rfl, hO9, hq9, hG9, hk9⟩; have HK9 := Lib.hid (HK8.out.trans (hk9.mono fun _ _ h => .inl (.inl h))); have HO0 := Lib.hid (HOQ.out.kept HK9.out HYQ.out); have HS9 := Lib.hid (HS8.out.kept (hk9.mono fun _ _ h => .inl (.inr h))); have HW9 := Lib.hid (HW8.out.kept (hk9.mono fun k _ h => .inl (.inl (HY4.out k h)))); have HO9 := Lib.hid hO9; have HG9 := Lib.hid hG9; have HB9 := Lib.hid (Nat.le_trans HB8.out hk9.size); have HQ9 := Lib.hid (Nat.le_trans HB8.out hq9); clear hO9 hq9 hG9 hk9) | ((with_reducible refine wl_id ?_); refine wl_store_own rfl _ _ rfl w.heap.size n _ k rfl t.2.2 rfl HO0.out hkn ?_; intro w10 hO10 hg10; have HO10 := Lib.hid hO10; have HG10 := Lib.hid (HG9.out.other hg10 (.inl (.inl (.inl HYQ.out)))); have hk10 : Kept (fun k => k ≠ w.heap.size) w9 w10 := ⟨hg10.os, hg10.tape, hg10.output, hg10.size, fun i hi hx => hg10.block i hi (fun e => hx (by injection e))⟩; have HS10 := Lib.hid (HS9.out.kept (hk10.mono fun k _ h e => by have := HV7.out k h; have := HQ0.out; omega)); have HW10 := Lib.hid (HW9.out.kept (hk10.mono fun k _ h => HV4.out k h)); have HO9b := Lib.hid (HO9.out.kept hk10 (by have := HQ9.out; have := HQ0.out; omega)); have HB10 := Lib.hid (Nat.le_trans HB9.out hk10.size); have HKX := Lib.hid ((hK.trans (HK9.out.mono fun k _ h => HXY.out k h)).grown hg10 (fun q e hl => by injection e with e; omega)); clear hO10 hg10 hk10; (try simp only [Act.put, qz4, qz5, qz6])) | (go_at_call 83; (with_reducible refine (choose_n (n + 1) w10 HG10.out (Nat.le_trans hba1 HB10.out) _ _ _ t.2.1 (d :: rk) (HO9b.out.slX (X := (fun k => ((Y k ∨ v7.ownBlock = some k) ∨ k = w7.heap.size) ∨ k = q9)) (.inr rfl)) (HS10.out.mono fun _ _ h => .inl (.inl (.inr h))) HD2.out.it.2.2.2 HDL.out HNT.out HNB.out HD2.out.it.2.1 HD2.out.it.1 HD2.out.it.2.2.1 HGT.out c HD2.out.ec).mono ?_); rintro _ w11 ⟨q11, rfl, hO11, hq11, hG11, hk11⟩) | go_values | go_skip | go_guarded | go_step | go_upon | go_back | ((with_reducible show Oper.upon _ _ _ _ _ _); go_simp) | (dsimp only)))
      have hcut := (hO11.slX (X := fun k => k = q11) rfl).cut HCN.out
      exact ⟨⟨m + 1, c.1, c.2.take n, t.2.2 :: qk, s2, q11, n + 1, by omega, by have := HKM.out; congr 1; omega, rfl, HFIN, Lib.hid (HST.out ▸ (HO10.out.kept hk11 (.inl (.inl (.inl HYQ.out))))), Lib.hid (by have := HQ0.out; have := HB10.out; omega), Lib.hid ⟨_, fun k h => .inl (.inl (.inl (.inl (HXY.out k h)))), .inl (.inl (.inl (.inl HYQ.out))), .inr rfl, fun k h => .inl (.inl (.inl (.inl (HY4.out k h)))), hG11⟩, Lib.hid hcut, Lib.hid (HW10.out.kept (hk11.mono fun k _ h => .inl (.inl (.inl (HY4.out k h))))), HKX.out.trans (hk11.mono fun k _ h => .inl (.inl (.inl (HXY.out k h))))⟩, by simp [intOf] <;> (have := HKM.out; omega)⟩
    · obtain rfl : n = m := by omega
      have he := hZ.out.eq
      rw [Nat.sub_self, List.take_zero, List.reverse_nil] at he
      simp only [divG] at he
      have hR : Hid (r = (gk, qk, rk)) := Lib.hid (by rw [← Hr.out]; exact he)
      have hOf := HOQ.out
      rw [Nat.sub_self, List.replicate_zero, List.nil_append] at hOf
      have hend : ¬ (0 : Int) ≤ (n : Int) - 1 - n := by omega
      clear he
      (repeat (first | (with_reducible first | refine xA ?_ | refine xB ?_ | refine xC ?_ | refine xD ?_ | refine xH ?_ | refine xI rfl ?_ | refine xE ?_ | refine xF ?_ | refine xG ?_) | go_values | go_skip | go_guarded | go_step | go_upon | go_back | ((with_reducible show Oper.upon _ _ _ _ _ _); go_simp) | (dsimp only)))
      go_ret2
      rw [hR.out]
      exact ⟨_, _, Y, rfl, hOf, Nat.le_refl _, HSR.out.mono fun k _ h => ⟨h ▸ HYR.out, by rw [h]; exact Nat.le_of_lt HRB.out⟩, HXY.out, HYQ.out, HGY.out, hK⟩
end Go.Proofs.YtmaogkgjiplckaaGreat
namespace Go.Proofs.YtmaogkgjiplckaaGreat
open Go.RowKit
open Go.Shelf Go.RowKit Go.Lib Go.Sort
theorem back_row {w : World} {B : Nat} {v : Value} {l : List Int} (hO : w.ownsRow B 3 1 v l.length (l.map (Value.int .i64))) (hp : 0 < l.length) (hll : l.length ≤ 1000000) : ∃ (g cap : Nat) (cur : Array Value), v = .slice (some ⟨g, 0, none⟩) l.length cap ∧
    (Calls Tryz.prog 134 #[.slice (some ⟨g, 0, none⟩) l.length cap] w fun e w' => e = .returned (.tuple #[]) ∧ ∃ n, w' = putRow (Value.int .i64) (Sort.ahead w n) g 0 l.reverse.toArray) ∧
    ∀ w' n, w' = putRow (Value.int .i64) (Sort.ahead w n) g 0 l.reverse.toArray → w'.ownsRow B 3 1 (.slice (some ⟨g, 0, none⟩) l.length cap) l.length (l.reverse.map (Value.int .i64)) ∧ w.grownBy w' (some g) := by
  rcases hO.2 with ⟨_, h0⟩ | ⟨g, cap, cur, rfl, hb, hh, hnc, hcm, hcs, htk⟩
  · omega
  · refine ⟨g, cap, cur, rfl, Tryz.slices_Reverse_int g 0 cap l w (holds_of_blockI hh (by simpa using htk)) (by omega), fun w' n e => ?_⟩
    subst e
    have h1 := ownsRow_sortedI (n := n) (os := #[]) (ts := l.reverse) (ss := l) (by simp) hb hh hnc hcm hcs
    have h2 := grownBy_sortedI (w := w) (g := g) (n := n) (os := #[]) l.reverse.toArray
    rw [grow_empty] at h1 h2
    exact ⟨h1, h2⟩
set_option maxRecDepth 100000 in
set_option maxHeartbeats 1000000 in
theorem back_any {X : Nat → Prop} (w : World) (v : Value) (l : List Int) (hl : SlX X w v l) (hne : l ≠ []) (hll : l.length ≤ 1000000) :
    Calls Tryz.prog 116 #[v] w fun e w' => ∃ v', e = .returned v' ∧ w'.ownsRow w.heap.size 3 1 v' l.length (l.reverse.map (Value.int .i64)) ∧ Below w.heap.size w w' := by
  have HC := Lib.hid (clone_any v l w hl hne hll)
  have HP := Lib.hid (List.length_pos_iff.2 hne)
  have HL := Lib.hid hll
  obtain ⟨a, c, rfl⟩ := hl.shape
  clear hl hne hll
  go_enter Tryz.func116, Tryz.ntmps116
  (repeat (first | (with_reducible first | refine xA ?_ | refine xB ?_ | refine xC ?_ | refine xD ?_ | refine xH ?_ | refine xI rfl ?_ | refine xE ?_ | refine xF ?_ | refine xG ?_) | go_skip | go_guarded | (go_at_call 25; (with_reducible refine (HC.out).mono ?_); rintro _ w1 ⟨v1, rfl, hO1, hb1⟩; obtain ⟨g, cap, cur, hv1, hRV, hfin⟩ := back_row hO1 HP.out HL.out; subst hv1) | (go_at_call 134; (with_reducible refine (hRV).mono ?_); rintro _ w2 ⟨rfl, n, hw2⟩; obtain ⟨h3, h4⟩ := hfin w2 n hw2; clear hfin hRV) | go_values | go_skip | go_guarded | go_step | go_upon | go_back | ((with_reducible show Oper.upon _ _ _ _ _ _); go_simp) | (dsimp only)))
  go_ret
  exact ⟨_, rfl, h3, Below.grown hb1 h4 hb1.size (fun q e => by injection e with e; subst e; exact (hO1.lt _ rfl).1)⟩
end Go.Proofs.YtmaogkgjiplckaaGreat
namespace Go.Proofs.YtmaogkgjiplckaaGreat
open Go.RowKit
section
variable {ops : Array Oper} {rest : List Oper} {o : Oper} {a : Act} {w : World} {Q : Exit → Act → World → Prop}
theorem wl_store_rowI (hgd : o.guard = none) (x y : Operand) (ho : o.op = .store 3 x y) (B q n c : Nat) (l : List Int) (j : Nat) (hx : a.eval x = .pointer (some ⟨q, j, none⟩)) (u : Int) (hy : a.eval y = .int .i64 u) (hO : w.ownsRow B 3 1 (.slice (some ⟨q, 0, none⟩) n c) n (l.map (Value.int .i64))) (hj : j < n)
    (h : ∀ w', w'.ownsRow B 3 1 (.slice (some ⟨q, 0, none⟩) n c) n ((l.set j u).map (Value.int .i64)) → w.grownBy w' (some q) → wpList Tryz.prog ops Q rest (a.put o.dst undef) w') : wpList Tryz.prog ops Q (o :: rest) a w :=
  wpList_plain hgd fun _ hK => by
    have hl : l.length = n := by simpa using hO.1
    have hc := hO.cellAt j (by omega)
    have hlt : j < l.length := by omega
    rw [List.getElem?_map, List.getElem?_eq_getElem hlt] at hc
    have hf := hO.frozenAt j
    have hst : (Instr.storeAt 3 (.pointer (some ⟨q, j, none⟩)) (.int .i64 u)).run Tryz.prog w = .ok () (w.setCell ⟨q, j, none⟩ (.int .i64 u)) := by
      simp only [Option.map_some] at hc
      go_simp
    obtain ⟨s1, s2⟩ := hO.stored j (.int .i64 u)
    unfold Oper.wp execOp
    simp only [ho, hx, hy, Sem.run_bind, hst, Result.andThen_ok]
    exact hK _ _ (h _ (by rw [List.map_set]; exact s1) s2)
end
end Go.Proofs.YtmaogkgjiplckaaGreat
namespace Go.Proofs.YtmaogkgjiplckaaGreat
open Go.RowKit
set_option maxRecDepth 100000 in
set_option maxHeartbeats 1000000 in
theorem signs_any {X : Nat → Prop} (w : World) (v : Value) (l : List Int) (hl : SlX X w v l) (n : Nat) (hn : l.length = n + 1) (x : Int) (hx : l[n]? = some x) (hxb : -1048576 ≤ x ∧ x ≤ 1048576) (hll : l.length ≤ 1000000) :
    Calls Tryz.prog 119 #[v] w fun e w' => ∃ v', e = .returned v' ∧ w'.ownsRow w.heap.size 3 1 v' l.length ((l.set n (-x)).map (Value.int .i64)) ∧ Below w.heap.size w w' := by
  have hne : l ≠ [] := by rintro rfl; simp at hn
  have HC := Lib.hid (clone_any v l w hl hne hll)
  have hnI : ((l.length : Nat) : Int) - 1 = n := by omega
  have hnb : (n : Int) ≤ 1000000 := by omega
  have hni : (n : Int) < (l.length : Int) := by omega
  have hn0 : (0 : Int) ≤ n := by omega
  obtain ⟨a, c, rfl⟩ := hl.shape
  have HX := Lib.hid hx
  have HN := Lib.hid hn
  clear hl hne hll hx hn
  go_enter Tryz.func119, Tryz.ntmps119
  (repeat (first | (with_reducible first | refine xA ?_ | refine xB ?_ | refine xC ?_ | refine xD ?_ | refine xH ?_ | refine xI rfl ?_ | refine xE ?_ | refine xF ?_ | refine xG ?_) | go_skip | go_guarded | (go_at_call 25; (with_reducible refine (HC.out).mono ?_); rintro _ w1 ⟨v1, rfl, hO1, hb1⟩; obtain ⟨g, cap, hv1⟩ : ∃ g cap, v1 = .slice (some ⟨g, 0, none⟩) l.length cap := (by rcases hO1.2 with ⟨_, h0⟩ | ⟨g, cap, cur, e, _⟩; (· have := HN.out; omega); (· exact ⟨g, cap, e⟩)); subst hv1; have hcx := (RowI.ofOwns hO1) n x HX.out; (rw [Nat.zero_add] at hcx)) | ((with_reducible refine wl_id ?_); refine wl_store_rowI rfl _ _ rfl w.heap.size g l.length cap l n rfl (-x) rfl hO1 (by have := HN.out; omega) ?_; intro w3 hO3 hg3; (try simp only [Act.put, qz4, qz5, qz6])) | go_values | go_skip | go_guarded | go_step | go_upon | go_back | ((with_reducible show Oper.upon _ _ _ _ _ _); go_simp) | (dsimp only)))
  go_ret
  exact ⟨_, rfl, hO3, Below.grown hb1 hg3 hb1.size (fun q e => by injection e with e; subst e; exact (hO1.lt _ rfl).1)⟩
end Go.Proofs.YtmaogkgjiplckaaGreat
namespace Go.Proofs.YtmaogkgjiplckaaGreat
open Go.RowKit
theorem bv_upB0 (l : List Bool) (j : Nat) : bv (upB l j false) = 2 ^ j * bv l % 2 ^ l.length := by unfold upB; rw [bv_take, bv_rep0]
theorem bv_skip : ∀ (l : List Bool) (j : Nat), bv (l.drop j) = bv l / 2 ^ j := by
  intro l
  induction l with
  | nil => intro j; simp [bv]
  | cons b l ih =>
    intro j
    rcases j with _ | j
    · simp
    · rw [List.drop_succ_cons, ih, bv, Nat.pow_succ, Nat.mul_comm (2 ^ j) 2, ← Nat.div_div_eq_div_mul]
      have e : ((if b = true then 1 else 0) + 2 * bv l) / 2 = bv l := by cases b <;> simp <;> omega
      rw [e]
theorem rev_upB (l : List Bool) (j : Nat) (b : Bool) : (upB l.reverse j b).reverse = l.drop j ++ List.replicate (min j l.length) b := by
  unfold upB
  rw [List.reverse_take, List.reverse_append, List.reverse_reverse, List.reverse_replicate, List.length_append, List.length_replicate, List.length_reverse, Nat.add_sub_cancel, List.drop_append, List.drop_replicate]
  congr 2
  omega
theorem bv_snoc0 : ∀ (l : List Bool) (m : Nat), bv (l ++ List.replicate m false) = bv l := by
  intro l
  induction l with
  | nil =>
    intro m
    induction m with
    | zero => rfl
    | succ m ih => rw [List.nil_append] at ih ⊢; rw [List.replicate_succ]; show (if false = true then 1 else 0) + 2 * bv (List.replicate m false) = 0; rw [ih]; rfl
  | cons b l ih => intro m; rw [List.cons_append, bv, bv, ih]
theorem bv_down (l : List Bool) (j : Nat) : bv ((upB l.reverse j false).reverse) = bv l / 2 ^ j := by rw [rev_upB, bv_snoc0, bv_skip]
end Go.Proofs.YtmaogkgjiplckaaGreat
namespace Go.Proofs.YtmaogkgjiplckaaGreat
open Go.RowKit
end Go.Proofs.YtmaogkgjiplckaaGreat
namespace Go.Proofs.YtmaogkgjiplckaaGreat
open Go.RowKit
end Go.Proofs.YtmaogkgjiplckaaGreat
namespace Go.Proofs.YtmaogkgjiplckaaGreat
open Go.RowKit
def MemL (w : World) (B : Nat) (l : List (Array Value × TypeId)) : Prop :=
  B + l.length ≤ w.heap.size ∧ ∀ i c t, l[i]? = some (c, t) → w.heap[B + i]? = some (.cells c t (0, 0))
theorem MemL.get {w : World} {B : Nat} {l : List (Array Value × TypeId)} (h : MemL w B l) (i : Nat) {c : Array Value} {t : TypeId} (hi : l[i]? = some (c, t)) : w.heap[B + i]? = some (.cells c t (0, 0)) := h.2 i c t hi
theorem MemL.size {w : World} {B : Nat} {l : List (Array Value × TypeId)} (h : MemL w B l) : B + l.length ≤ w.heap.size := h.1
theorem MemL.below {w w' : World} {B : Nat} {l : List (Array Value × TypeId)} (h : MemL w B l) (hb : Below w.heap.size w w') : MemL w' B l :=
  ⟨Nat.le_trans h.1 hb.size, fun i c t hi => by
    have hl : i < l.length := by
      rcases Nat.lt_or_ge i l.length with h1 | h1
      · exact h1
      · rw [List.getElem?_eq_none h1] at hi; cases hi
    exact (hb.block _ (by have := h.1; omega)).trans (h.2 i c t hi)⟩
theorem MemL.pre {w : World} {B : Nat} {l : List (Array Value × TypeId)} (h : MemL w B l) (k : Nat) : MemL w B (l.take k) :=
  ⟨Nat.le_trans (by have := List.length_take_le k l; have := List.length_take_le' k l; omega) h.1, fun i c t hi => by
    rw [List.getElem?_take] at hi
    split at hi
    · exact h.get i hi
    · cases hi⟩
theorem MemL.under {w w' : World} {B B' : Nat} {l : List (Array Value × TypeId)} (h : MemL w B l) (hb : Below B' w w') (hl : B + l.length ≤ B') : MemL w' B l :=
  ⟨Nat.le_trans h.1 hb.size, fun i c t hi => by
    have hlt : i < l.length := by
      rcases Nat.lt_or_ge i l.length with h1 | h1
      · exact h1
      · rw [List.getElem?_eq_none h1] at hi; cases hi
    exact (hb.block _ (by omega)).trans (h.get i hi)⟩
theorem MemL.apart {w : World} {B b : Nat} {l : List (Array Value × TypeId)} (h : MemL w B l) (hb : b < B) (c : Array Value) : MemL (w.setRow b c) B l :=
  ⟨by simpa using h.1, fun i d t hi => (setRow_other w b _ c (by omega)).trans (h.get i hi)⟩
theorem MemL.row {w : World} {B : Nat} {l : List (Array Value × TypeId)} (h : MemL w B l) (i : Nat) {c c' : Array Value} {t : TypeId} (hi : l[i]? = some (c, t)) : MemL (w.setRow (B + i) c') B (l.set i (c', t)) :=
  ⟨by simpa using h.1, fun j d s hj => by
    by_cases e : j = i
    · subst e
      have hl : j < l.length := by
        rcases Nat.lt_or_ge j l.length with h1 | h1
        · exact h1
        · rw [List.getElem?_eq_none h1] at hi; cases hi
      simp [hl] at hj
      obtain ⟨rfl, rfl⟩ := hj
      exact setRow_heap w _ _ _ _ _ (h.get j hi)
    · rw [List.getElem?_set_ne (fun h => e h.symm)] at hj
      exact (setRow_other w _ _ _ (by omega)).trans (h.get j hj)⟩
theorem MemL.cell {w : World} {B : Nat} {l : List (Array Value × TypeId)} (h : MemL w B l) (i j : Nat) (v : Value) {c : Array Value} {t : TypeId} (hi : l[i]? = some (c, t)) : MemL (w.setCell ⟨B + i, j, none⟩ v) B (l.set i (c.setIfInBounds j v, t)) := by
  rw [setCell_eq_setRow w _ _ _ _ _ _ (h.get i hi)]
  exact h.row i hi
theorem MemL.al {w : World} {B : Nat} {l : List (Array Value × TypeId)} (h : MemL w B l) (hs : w.heap.size = B + l.length) (c : Array Value) (t : TypeId) : MemL (w.alloc (.cells c t)) B (l ++ [(c, t)]) ∧ (w.alloc (.cells c t)).heap.size = B + (l ++ [(c, t)]).length := by
  have e : (w.alloc (.cells c t)).heap.size = B + (l ++ [(c, t)]).length := by simp [hs]; omega
  refine ⟨⟨by omega, fun i d s hi => ?_⟩, e⟩
  rcases Nat.lt_trichotomy i l.length with h1 | h1 | h1
  · rw [List.getElem?_append_left h1] at hi
    exact (heap_old _ _ _ (by omega)).trans (h.get i hi)
  · subst h1
    simp at hi
    obtain ⟨rfl, rfl⟩ := hi
    exact heap_new _ _ _ (by omega)
  · rw [List.getElem?_append_right (by omega), List.getElem?_eq_none (by simp; omega)] at hi
    cases hi
end Go.Proofs.YtmaogkgjiplckaaGreat
namespace Go.Proofs.YtmaogkgjiplckaaGreat
open Go.RowKit
end Go.Proofs.YtmaogkgjiplckaaGreat
namespace Go.Proofs.YtmaogkgjiplckaaGreat
open Go.RowKit
def sar (b : Bool) (x W : Nat) : Nat → Nat
  | 0 => x
  | k + 1 => sar b x W k / 2 + b.toNat * 2 ^ (W - 1)
theorem sar_lt (b : Bool) {x W : Nat} (hW : 1 ≤ W) (hx : x < 2 ^ W) (k : Nat) : sar b x W k < 2 ^ W := by
  induction k with
  | zero => exact hx
  | succ k ih =>
    obtain ⟨V, rfl⟩ : ∃ V, W = V + 1 := ⟨W - 1, by omega⟩
    show sar b x (V + 1) k / 2 + b.toNat * 2 ^ (V + 1 - 1) < _
    rw [show V + 1 - 1 = V from by omega]
    rw [Nat.pow_succ] at *
    have := Bool.toNat_le b
    have h2 : b.toNat * 2 ^ V ≤ 1 * 2 ^ V := Nat.mul_le_mul_right _ this
    omega
end Go.Proofs.YtmaogkgjiplckaaGreat
namespace Go.Proofs.YtmaogkgjiplckaaGreat
open Go.RowKit
end Go.Proofs.YtmaogkgjiplckaaGreat
namespace Go.Proofs.YtmaogkgjiplckaaGreat
open Go.RowKit
end Go.Proofs.YtmaogkgjiplckaaGreat
namespace Go.Proofs.YtmaogkgjiplckaaGreat
open Go.RowKit
end Go.Proofs.YtmaogkgjiplckaaGreat
namespace Go.Proofs.YtmaogkgjiplckaaGreat
open Go.RowKit
theorem size4 : (Tryz.prog.info? 4).map (·.size) = some 1 := by kernel_rfl
theorem sizeOf4 (w : World) : (sizeOf 4).run Tryz.prog w = .ok 1 w := by
  cases hq : Tryz.prog.info? 4 with
  | none => have := size4; simp [hq] at this
  | some i =>
    have hs : i.size = 1 := by have := size4; simpa [hq] using this
    simp [sizeOf, typeInfo, hq, hs]
end Go.Proofs.YtmaogkgjiplckaaGreat
namespace Go.Proofs.YtmaogkgjiplckaaGreat
open Go.RowKit
theorem cast_lt {x W : Nat} (h : x < 2 ^ W) : (x : Int) < 2 ^ W := by rw [pow_nat]; exact Int.ofNat_lt.2 h
theorem cast_mod {x W : Nat} (h : x < 2 ^ W) : (x : Int) % 2 ^ W = x := Int.emod_eq_of_lt (Int.natCast_nonneg x) (cast_lt h)
theorem sg_nat {W x : Nat} (hx : x < 2 ^ W) : sgI W x = if 2 ^ (W - 1) ≤ x then (x : Int) - 2 ^ W else x := by
  unfold sgI
  rw [cast_mod hx, pow_nat (W - 1)]
  by_cases h : 2 ^ (W - 1) ≤ x
  · rw [if_pos h, if_pos (Int.ofNat_le.2 h)]
  · rw [if_neg h, if_neg (fun h' => h (Int.ofNat_le.1 h'))]
theorem sg_top {W x : Nat} (hW : 1 ≤ W) (hx : x < 2 ^ W) : sgI W x / 2 ^ W = if x.testBit (W - 1) then -1 else 0 := by
  have hb := sg_bd hW x
  have hs := sg_nat hx
  obtain ⟨V, rfl⟩ : ∃ V, W = V + 1 := ⟨W - 1, by omega⟩
  rw [show V + 1 - 1 = V from by omega] at *
  have hle : (2 : Int) ^ V ≤ 2 ^ (V + 1) := by
    rw [Int.pow_succ]
    have hp : (0 : Int) < 2 ^ V := Int.pow_pos (by decide)
    omega
  rw [div_small hle (Int.pow_pos (by decide)) hb.1 hb.2, Nat.testBit_eq_decide_div_mod_eq, hs]
  have hpn := Nat.pow_pos (n := V) (show 0 < 2 by omega)
  rw [pow_nat]
  rw [Nat.pow_succ] at *
  rcases Nat.lt_or_ge x (2 ^ V) with h | h
  · rw [Nat.div_eq_of_lt h, if_neg (show ¬ 2 ^ V ≤ x by omega), if_neg (by omega)]; simp
  · have : x / 2 ^ V = 1 := by
      rw [show x = (x - 2 ^ V) + 2 ^ V by omega, Nat.add_div_right _ hpn, Nat.div_eq_of_lt (by omega)]
    rw [this, if_pos h, if_pos (by omega)]; simp
end Go.Proofs.YtmaogkgjiplckaaGreat
namespace Go.Proofs.YtmaogkgjiplckaaGreat
open Go.RowKit
theorem ediv_neg_pos {z P : Int} (h : 0 < P) : z / P < 0 ↔ z < 0 := by
  constructor
  · intro h1
    rcases Int.lt_or_le z 0 with h2 | h2
    · exact h2
    · have := Int.ediv_nonneg h2 (Int.le_of_lt h); omega
  · intro h1
    exact Int.ediv_lt_of_lt_mul h (by omega)
theorem top_bit {W X : Nat} (hW : 1 ≤ W) (hX : X < 2 ^ W) : X.testBit (W - 1) = decide (2 ^ (W - 1) ≤ X) := by
  obtain ⟨V, rfl⟩ : ∃ V, W = V + 1 := ⟨W - 1, by omega⟩
  rw [show V + 1 - 1 = V from by omega, Nat.testBit_eq_decide_div_mod_eq]
  rw [Nat.pow_succ] at *
  have hpn := Nat.pow_pos (n := V) (show 0 < 2 by omega)
  rcases Nat.lt_or_ge X (2 ^ V) with h | h
  · rw [Nat.div_eq_of_lt h]; simp; omega
  · have : X / 2 ^ V = 1 := by
      rw [show X = (X - 2 ^ V) + 2 ^ V by omega, Nat.add_div_right _ hpn, Nat.div_eq_of_lt (by omega)]
    rw [this]; simp; omega
section
variable {W X Y r : Nat}
theorem o_5 (hX : X < 2 ^ W) (hr : r = 2 ^ W - 1 - X % 2 ^ W) : (r : Int) = opI 5 W X Y := by
  rw [Nat.mod_eq_of_lt hX] at hr
  simp only [opI, if_true]
  rw [pow_nat]; omega
theorem o_8 (hr : r = (X + Y + false.toNat) % 2 ^ W) : (r : Int) = opI 8 W X Y := by
  simp only [opI, show ¬ ((8 : Int) = 5) by decide, if_false, if_true]
  rw [hr, pow_nat]; simp
theorem o_9 {n : Nat} (hY : Y < 2 ^ W) (hn : n = 2 ^ W - 1 - Y % 2 ^ W) (hr : r = (X + n + true.toNat) % 2 ^ W) : (r : Int) = opI 9 W X Y := by
  simp only [opI, show ¬ ((9 : Int) = 5) by decide, show ¬ ((9 : Int) = 8) by decide, if_false, if_true]
  rw [Nat.mod_eq_of_lt hY] at hn
  have e : (X : Int) - Y = ((X + n + true.toNat : Nat) : Int) - ((2 ^ W : Nat) : Int) := by simp only [Bool.toNat_true]; omega
  rw [pow_nat, e, Int.sub_emod_right, hr, Int.natCast_emod]
theorem o_10 (hr : r = X * Y % 2 ^ W) : (r : Int) = opI 10 W X Y := by
  simp only [opI, show ¬ ((10 : Int) = 5) by decide, show ¬ ((10 : Int) = 8) by decide, show ¬ ((10 : Int) = 9) by decide, if_false, if_true]
  rw [hr, pow_nat]; simp
theorem o_11 (hr : r = if Y = 0 then 2 ^ W - 1 else X / Y) : (r : Int) = opI 11 W X Y := by
  simp only [opI, show ¬ ((11 : Int) = 5) by decide, show ¬ ((11 : Int) = 8) by decide, show ¬ ((11 : Int) = 9) by decide, show ¬ ((11 : Int) = 10) by decide, if_false, if_true]
  have hp := Nat.pow_pos (n := W) (show 0 < 2 by omega)
  by_cases h : Y = 0
  · rw [if_pos h] at hr; rw [if_pos (by omega), pow_nat]; omega
  · rw [if_neg h] at hr; rw [if_neg (by omega), hr]; simp
theorem o_12 (hr : r = X % Y) : (r : Int) = opI 12 W X Y := by
  simp only [opI, show ¬ ((12 : Int) = 5) by decide, show ¬ ((12 : Int) = 8) by decide, show ¬ ((12 : Int) = 9) by decide, show ¬ ((12 : Int) = 10) by decide, show ¬ ((12 : Int) = 11) by decide, if_false, if_true]
  rw [hr]; simp
theorem o_13 (hr : r = X &&& Y) : (r : Int) = opI 13 W X Y := by
  rw [hr]; rfl
theorem o_14 (hr : r = X ||| Y) : (r : Int) = opI 14 W X Y := by
  rw [hr]; rfl
theorem o_15 (hr : r = X ^^^ Y) : (r : Int) = opI 15 W X Y := by
  rw [hr]; rfl
theorem shl_min : X * 2 ^ min Y W % 2 ^ W = X * 2 ^ Y % 2 ^ W := by
  rcases Nat.le_total Y W with h | h
  · rw [Nat.min_eq_left h]
  · rw [Nat.min_eq_right h]
    obtain ⟨j, rfl⟩ : ∃ j, Y = W + j := ⟨Y - W, by omega⟩
    rw [Nat.pow_add, Nat.mul_mod_left, ← Nat.mul_assoc, Nat.mul_right_comm, Nat.mul_mod_left]
theorem o_16 (hr : r = X * 2 ^ min Y W % 2 ^ W) : (r : Int) = opI 16 W X Y := by
  rw [hr, shl_min]
  show _ = (X : Int) * 2 ^ (Y : Int).toNat % 2 ^ W
  rw [pow_nat, pow_nat]; simp
theorem sar_sg (hW : 1 ≤ W) (hX : X < 2 ^ W) (k : Nat) : ((sar (X.testBit (W - 1)) X W k : Nat) : Int) = sgI W X / 2 ^ k % 2 ^ W := by
  induction k with
  | zero =>
    simp only [sar, Int.pow_zero, Int.ediv_one]
    rw [sg_nat hX]
    split
    · rw [Int.sub_emod_right, cast_mod hX]
    · rw [cast_mod hX]
  | succ k ih =>
    simp only [sar]
    have hlt := sar_lt (X.testBit (W - 1)) hW hX k
    have htop : sgI W X / 2 ^ W = if X.testBit (W - 1) then -1 else 0 := sg_top hW hX
    have hbd := sg_bd hW X
    generalize sar (X.testBit (W - 1)) X W k = s at *
    rw [Int.pow_succ, ← Int.ediv_ediv_of_nonneg (Int.le_of_lt (Int.pow_pos (by decide)))]
    have hq : -(2 ^ (W - 1)) ≤ sgI W X / 2 ^ k ∧ sgI W X / 2 ^ k < 2 ^ (W - 1) ∧ (sgI W X / 2 ^ k < 0 ↔ sgI W X < 0) := by
      have hp : (1 : Int) ≤ 2 ^ k := Int.pow_pos (by decide)
      have hv : (0 : Int) < 2 ^ (W - 1) := Int.pow_pos (by decide)
      generalize sgI W X = z at *
      generalize (2 : Int) ^ (W - 1) = V at *
      generalize (2 : Int) ^ k = P at *
      refine ⟨?_, ?_, ?_⟩
      · apply Int.le_ediv_of_mul_le (by omega)
        have : V * 1 ≤ V * P := Int.mul_le_mul_of_nonneg_left hp (by omega)
        rw [Int.neg_mul]; omega
      · apply Int.ediv_lt_of_lt_mul (by omega)
        have : V * 1 ≤ V * P := Int.mul_le_mul_of_nonneg_left hp (by omega)
        omega
      · exact ediv_neg_pos (by omega)
    have hneg : sgI W X < 0 ↔ X.testBit (W - 1) = true := by
      have h2 : (0 : Int) < 2 ^ W := Int.pow_pos (by decide)
      rw [← ediv_neg_pos h2, htop]
      cases X.testBit (W - 1) <;> simp
    have hneg' := hq.2.2.trans hneg
    obtain ⟨V, rfl⟩ : ∃ V, W = V + 1 := ⟨W - 1, by omega⟩
    rw [show V + 1 - 1 = V from by omega] at *
    have hv : (0 : Int) < 2 ^ V := Int.pow_pos (by decide)
    have hvn := pow_nat V
    generalize sgI (V + 1) X / 2 ^ k = z at *
    rw [Int.pow_succ] at *
    cases hb : X.testBit V with
    | true =>
      rw [hb] at hneg'
      have hz : z < 0 := hneg'.2 rfl
      have e1 : (s : Int) = z + 2 ^ V * 2 := by
        rw [ih, ← Int.add_emod_right, Int.emod_eq_of_lt (by omega) (by omega)]
      have e2 : z / 2 % (2 ^ V * 2) = z / 2 + 2 ^ V * 2 := by
        rw [← Int.add_emod_right, Int.emod_eq_of_lt (by omega) (by omega)]
      rw [e2, Bool.toNat_true, Nat.one_mul]
      omega
    | false =>
      rw [hb] at hneg'
      have hz : 0 ≤ z := by
        rcases Int.lt_or_le z 0 with h | h
        · exact absurd (hneg'.1 h) (by simp)
        · exact h
      have e1 : (s : Int) = z := by rw [ih, Int.emod_eq_of_lt hz (by omega)]
      have e2 : z / 2 % (2 ^ V * 2) = z / 2 := Int.emod_eq_of_lt (by omega) (by omega)
      rw [e2, Bool.toNat_false, Nat.zero_mul, Nat.add_zero]
      omega
theorem sgr_min (hW : 1 ≤ W) (hX : X < 2 ^ W) : sgI W X / 2 ^ min Y W = sgI W X / 2 ^ Y := by
  rcases Nat.le_total Y W with h | h
  · rw [Nat.min_eq_left h]
  · rw [Nat.min_eq_right h]
    have hbd := sg_bd hW (X : Int)
    have a : (2 : Int) ^ (W - 1) ≤ 2 ^ W := by
      rw [pow_nat, pow_nat]; exact Int.ofNat_le.2 (Nat.pow_le_pow_right (by omega) (by omega))
    have b : (2 : Int) ^ (W - 1) ≤ 2 ^ Y := by
      rw [pow_nat, pow_nat]; exact Int.ofNat_le.2 (Nat.pow_le_pow_right (by omega) (by omega))
    have hv : (0 : Int) < 2 ^ (W - 1) := Int.pow_pos (by decide)
    rw [div_small a (by omega) hbd.1 hbd.2, div_small b (by omega) hbd.1 hbd.2]
theorem o_18 (hW : 1 ≤ W) (hX : X < 2 ^ W) (hr : r = sar (X.testBit (W - 1)) X W (min Y W)) : (r : Int) = opI 18 W X Y := by
  rw [hr, sar_sg hW hX, sgr_min hW hX]
  rfl
theorem o_19 (hr : r = (decide (X = Y)).toNat) : (r : Int) = opI 19 W X Y := by
  show _ = if (X : Int) = Y then (1 : Int) else 0
  rw [hr]
  by_cases h : X = Y
  · simp [h]
  · rw [if_neg (by omega)]; simp [h]
theorem o_20 (hr : r = (decide (X < Y)).toNat) : (r : Int) = opI 20 W X Y := by
  show _ = if (X : Int) < Y then (1 : Int) else 0
  rw [hr]
  by_cases h : X < Y <;> simp [h]
theorem o_21ne {b : Bool} (hW : 1 ≤ W) (hX : X < 2 ^ W) (hY : Y < 2 ^ W) (hx : X.testBit (W - 1) = b) (hy : Y.testBit (W - 1) = !b) (hr : r = b.toNat) : (r : Int) = opI 21 W X Y := by
  show _ = if sgI W X < sgI W Y then (1 : Int) else 0
  rw [hr, sg_nat hX, sg_nat hY]
  rw [top_bit hW hX] at hx
  rw [top_bit hW hY] at hy
  have h1 := pow_nat W
  cases b <;> simp at hx hy
  · rw [if_neg (show ¬ 2 ^ (W - 1) ≤ X by omega), if_pos hy, if_neg (show ¬ (X : Int) < Y - 2 ^ W by omega)]; rfl
  · rw [if_pos hx, if_neg (show ¬ 2 ^ (W - 1) ≤ Y by omega), if_pos (show (X : Int) - 2 ^ W < Y by omega)]; rfl
theorem o_21eq {b : Bool} (hW : 1 ≤ W) (hX : X < 2 ^ W) (hY : Y < 2 ^ W) (hx : X.testBit (W - 1) = b) (hy : Y.testBit (W - 1) = b) (hr : r = (decide (X < Y)).toNat) : (r : Int) = opI 21 W X Y := by
  show _ = if sgI W X < sgI W Y then (1 : Int) else 0
  rw [hr, sg_nat hX, sg_nat hY]
  rw [top_bit hW hX] at hx
  rw [top_bit hW hY] at hy
  have h1 := pow_nat W
  have e : ∀ c : Int, ((decide (X < Y)).toNat : Int) = if ((X : Int) - c < Y - c) then (1 : Int) else 0 := by
    intro c
    by_cases h : X < Y
    · rw [if_pos (by omega)]; simp [h]
    · rw [if_neg (by omega)]; simp [h]
  cases b <;> simp at hx hy
  · rw [if_neg (show ¬ 2 ^ (W - 1) ≤ X by omega), if_neg (show ¬ 2 ^ (W - 1) ≤ Y by omega)]; simpa using e 0
  · rw [if_pos hx, if_pos hy]; exact e _
end
end Go.Proofs.YtmaogkgjiplckaaGreat
namespace Go.Proofs.YtmaogkgjiplckaaGreat
open Go.RowKit
def applyG (op : Int) (g : G) (n : Nat) (xs ys : List Int) : G × List Int :=
  if op = 8 then ((sumG g xs ys (-1)).1, (sumG g xs ys (-1)).2.1)
  else if op = 9 then ((sumG g xs (notL ys) 1).1, (sumG g xs (notL ys) 1).2.1)
  else if op = 10 then prodG g (constL n 0) xs 0 ys
  else if op = 11 then ((divG g xs.reverse (constL n 0) ys []).1, (divG g xs.reverse (constL n 0) ys []).2.1)
  else if op = 12 then ((divG g xs.reverse (constL n 0) ys []).1, (divG g xs.reverse (constL n 0) ys []).2.2)
  else if op = 13 then zipG both g xs ys
  else if op = 14 then zipG either g xs ys
  else if op = 15 then zipG odd g xs ys
  else if op = 16 then shiftG g xs ys 0 (-1) (-1)
  else if op = 17 then ((shiftG g xs.reverse ys 0 (-1) (-1)).1, (shiftG g xs.reverse ys 0 (-1) (-1)).2.reverse)
  else if op = 18 then ((shiftG g xs.reverse ys 0 (-1) (xs.getD (n - 1) 0)).1, (shiftG g xs.reverse ys 0 (-1) (xs.getD (n - 1) 0)).2.reverse)
  else if op = 19 then ((sameG g 1 xs ys).1, [(sameG g 1 xs ys).2])
  else if op = 20 then ((lessG g xs ys).1, [(lessG g xs ys).2])
  else ((lessG g (xs.set (n - 1) (-(xs.getD (n - 1) 0))) (ys.set (n - 1) (-(ys.getD (n - 1) 0)))).1, [(lessG g (xs.set (n - 1) (-(xs.getD (n - 1) 0))) (ys.set (n - 1) (-(ys.getD (n - 1) 0)))).2])
def VAns (g : G) (fr : List Int) (s : Nat → Bool) (m : Nat) (r : G × List Int) (v : Int) : Prop :=
  ∃ s', GI r.1 fr s' ∧ Step g s r.1 s' ∧ r.1.n ≤ g.n + 40000 ∧ (∀ x ∈ r.2, isL r.1.n x) ∧ r.2.length = m ∧ ((num s' r.2 : Nat) : Int) = v
theorem bv_snoc (l : List Bool) (b : Bool) : bv (l ++ [b]) = bv l + b.toNat * 2 ^ l.length := by
  induction l with
  | nil => cases b <;> simp [bv]
  | cons a l ih =>
    rw [List.cons_append, bv, ih, bv, List.length_cons, Nat.pow_succ]
    cases b
    · simp
    · simp only [Bool.toNat_true, Nat.one_mul]; omega
theorem bv_tail (b : Bool) (l : List Bool) : bv (l.drop 1) = bv l / 2 := by
  cases l with
  | nil => rfl
  | cons a l => simp only [List.drop_succ_cons, List.drop_zero, bv]; cases a <;> simp <;> omega
theorem bv_sar (l : List Bool) (b : Bool) : ∀ k, k ≤ l.length → bv (l.drop k ++ List.replicate k b) = sar b (bv l) l.length k := by
  intro k
  induction k with
  | zero => intro _; simp [sar]
  | succ k ih =>
    intro hk
    have h := ih (by omega)
    have e : l.drop (k + 1) ++ List.replicate (k + 1) b = (l.drop k ++ List.replicate k b).drop 1 ++ [b] := by
      rw [List.replicate_succ', ← List.append_assoc]
      congr 1
      rw [List.drop_append_of_le_length (by rw [List.length_drop]; omega), List.drop_drop]
    rw [e, bv_snoc, bv_tail b, h, sar]
    have e2 : (l.drop k ++ List.replicate k b).length = l.length := by rw [List.length_append, List.length_drop, List.length_replicate]; omega
    rw [List.length_drop, e2]
theorem num_zero {g : G} {fr : List Int} {s : Nat → Bool} (h : GI g fr s) (n : Nat) : num s (constL n 0) = 0 := by
  have e : (constL n 0).map (lit s) = List.replicate n false ++ [] := by
    rw [constL_lit h.one, List.append_nil]
    apply List.ext_getElem?
    intro i
    rw [List.getElem?_map, List.getElem?_replicate]
    by_cases hi : i < n <;> simp [hi]
  unfold num
  rw [e, bv_rep0]
  rfl
theorem bv_inj : ∀ (l m : List Bool), l.length = m.length → bv l = bv m → l = m := by
  intro l
  induction l with
  | nil => intro m h _; cases m with
    | nil => rfl
    | cons => simp at h
  | cons a l ih => intro m h e; cases m with
    | nil => simp at h
    | cons b m =>
      simp only [List.length_cons, Nat.add_right_cancel_iff] at h
      simp only [bv] at e
      have h1 : bv l = bv m := by cases a <;> cases b <;> simp at e <;> omega
      have h2 : a = b := by cases a <;> cases b <;> simp at e <;> first | rfl | omega
      rw [h2, ih m h h1]
theorem num_one (s : Nat → Bool) (z : Int) : num s [z] = (lit s z).toNat := by
  unfold num
  cases h : lit s z <;> simp [bv, h]
theorem top_lit {s : Nat → Bool} {xs : List Int} {n : Nat} (hn : xs.length = n) (h1 : 1 ≤ n) : (num s xs).testBit (n - 1) = lit s (xs.getD (n - 1) 0) := by
  unfold num
  rw [bv_test, List.getD_eq_getElem?_getD, List.getD_eq_getElem?_getD, List.getElem?_map, List.getElem?_eq_getElem (show n - 1 < xs.length by omega)]
  rfl
theorem num_flip {s : Nat → Bool} {xs : List Int} {n m : Nat} (hn : xs.length = n) (h1 : 1 ≤ n) (hx : ∀ a ∈ xs, isL m a) : num s (xs.set (n - 1) (-(xs.getD (n - 1) 0))) + (if lit s (xs.getD (n - 1) 0) then 2 ^ (n - 1) else 0) = num s xs + (if lit s (xs.getD (n - 1) 0) then 0 else 2 ^ (n - 1)) := by
  obtain ⟨k, rfl⟩ : ∃ k, n = k + 1 := ⟨n - 1, by omega⟩
  rw [Nat.add_sub_cancel]
  have hk : k < xs.length := by omega
  have e1 : xs.getD k 0 = xs[k] := by rw [List.getD_eq_getElem?_getD, List.getElem?_eq_getElem hk]; rfl
  have e2 : xs = xs.take k ++ [xs[k]] := by
    have := List.take_append_getElem hk
    rw [this, List.take_of_length_le (by omega)]
  have e3 : xs.set k (-xs[k]) = xs.take k ++ [-xs[k]] := by
    rw [List.set_eq_take_append_cons_drop, if_pos hk, List.drop_of_length_le (by omega)]
  have hne : xs[k] ≠ 0 := (hx _ (List.getElem_mem hk)).1
  have hl : (xs.take k).length = k := by rw [List.length_take]; omega
  have n1 : num s xs = bv ((xs.take k).map (lit s)) + (lit s xs[k]).toNat * 2 ^ k := by
    conv => lhs; rw [e2]
    unfold num
    rw [List.map_append, List.map_singleton, bv_snoc, List.length_map, hl]
  have n2 : num s (xs.set k (-xs[k])) = bv ((xs.take k).map (lit s)) + (!lit s xs[k]).toNat * 2 ^ k := by
    rw [e3]
    unfold num
    rw [List.map_append, List.map_singleton, bv_snoc, List.length_map, hl, lit_neg hne]
  rw [e1, n1, n2]
  cases lit s xs[k] <;> simp
theorem set_isL {m k : Nat} {xs : List Int} {z : Int} (hx : ∀ a ∈ xs, isL m a) (hz : isL m z) : ∀ a ∈ xs.set k z, isL m a := fun a ha => by
  rcases List.mem_or_eq_of_mem_set ha with h | rfl
  · exact hx a h
  · exact hz
theorem top_isL {m n : Nat} {xs : List Int} (hx : ∀ a ∈ xs, isL m a) (hn : xs.length = n) (h1 : 1 ≤ n) : isL m (xs.getD (n - 1) 0) := by
  rw [List.getD_eq_getElem?_getD, List.getElem?_eq_getElem (show n - 1 < xs.length by omega)]
  exact hx _ (List.getElem_mem _)
theorem Ans.one {g : G} {fr : List Int} {s : Nat → Bool} {k : Nat} {r : G × Int} {b : Bool} {v : Int} (h : Ans g fr s k r b) (hk : k ≤ 40000) (hv : ((b.toNat : Nat) : Int) = v) : VAns g fr s 1 (r.1, [r.2]) v := by
  obtain ⟨s', h1, h2, h3, h4, h5⟩ := h
  exact ⟨s', h1, h2, by show r.1.n ≤ _; omega, fun x hx => by rw [List.mem_singleton] at hx; subst hx; exact h4, rfl, by show ((num s' [r.2] : Nat) : Int) = v; rw [num_one, h5]; exact hv⟩
theorem NAns.val {g : G} {fr : List Int} {s : Nat → Bool} {k n : Nat} {r : G × List Int} {v : Nat} {u : Int} (h : NAns g fr s k n r v) (hk : k ≤ 40000) (hv : (v : Int) = u) : VAns g fr s n r u := by
  obtain ⟨s', h1, h2, h3, h4, h5, h6⟩ := h
  exact ⟨s', h1, h2, by omega, h4, h5, by rw [h6]; exact hv⟩
section
variable {g : G} {fr : List Int} {s : Nat → Bool} {n : Nat} {xs ys : List Int}
theorem app_8 (hI : GI g fr s) (hx : ∀ x ∈ xs, isL g.n x) (hy : ∀ y ∈ ys, isL g.n y) (hxn : xs.length = n) (hyn : ys.length = n) (hn : n ≤ 64) : VAns g fr s n ((sumG g xs ys (-1)).1, (sumG g xs ys (-1)).2.1) (opI 8 n (num s xs) (num s ys)) := by
  obtain ⟨s', a1, a2, a3, a4, _, a6, a7, _⟩ := sumN_ok hI (isL_one hI).neg hx hy (hxn.trans hyn.symm)
  exact ⟨s', a1, a2, by dsimp only; omega, a4, by dsimp only; rw [a6, hxn], o_8 (by dsimp only; rw [a7, lit_no hI, hxn])⟩
theorem app_9 (hI : GI g fr s) (hx : ∀ x ∈ xs, isL g.n x) (hy : ∀ y ∈ ys, isL g.n y) (hxn : xs.length = n) (hyn : ys.length = n) (hn : n ≤ 64) : VAns g fr s n ((sumG g xs (notL ys) 1).1, (sumG g xs (notL ys) 1).2.1) (opI 9 n (num s xs) (num s ys)) := by
  obtain ⟨s', a1, a2, a3, a4, _, a6, a7, _⟩ := sub_ok hI hx hy (hxn.trans hyn.symm)
  have hY := num_lt s ys
  rw [hyn] at hY
  refine ⟨s', a1, a2, by dsimp only; omega, a4, by dsimp only; rw [a6, hxn], o_9 hY rfl ?_⟩
  dsimp only
  rw [a7, hxn, Nat.mod_eq_of_lt hY]
  congr 1
  simp only [Bool.toNat_true]
  omega
theorem app_10 (hI : GI g fr s) (hx : ∀ x ∈ xs, isL g.n x) (hy : ∀ y ∈ ys, isL g.n y) (hxn : xs.length = n) (hyn : ys.length = n) (hn : n ≤ 64) : VAns g fr s n (prodG g (constL n 0) xs 0 ys) (opI 10 n (num s xs) (num s ys)) := by
  have h := prod_ok ys 0 g s (constL n 0) hI hx (constL_isL hI.pos) hy (by rw [constL_len, hxn])
  rw [num_zero hI, hxn, hyn] at h
  refine h.val (Nat.le_trans (Nat.mul_le_mul (Nat.mul_le_mul_left 6 hn) hn) (by decide)) (o_10 (by simp))
theorem div_size (hn : n ≤ 64) : 8 * (n + 1) * n ≤ 40000 := Nat.le_trans (Nat.mul_le_mul (Nat.mul_le_mul_left 8 (show n + 1 ≤ 65 by omega)) hn) (by decide)
theorem app_div (hI : GI g fr s) (hx : ∀ x ∈ xs, isL g.n x) (hy : ∀ y ∈ ys, isL g.n y) (hxn : xs.length = n) (hyn : ys.length = n) (hn : n ≤ 64) : VAns g fr s n ((divG g xs.reverse (constL n 0) ys []).1, (divG g xs.reverse (constL n 0) ys []).2.1) (opI 11 n (num s xs) (num s ys)) ∧ VAns g fr s n ((divG g xs.reverse (constL n 0) ys []).1, (divG g xs.reverse (constL n 0) ys []).2.2) (opI 12 n (num s xs) (num s ys)) := by
  obtain ⟨s', a1, a2, a3, a4, a5, a6, a7, a8⟩ := div_ok xs.reverse g s (constL n 0) [] hI (fun a ha => hx a (List.mem_reverse.1 ha)) (constL_isL hI.pos) hy (by simp) (by rw [constL_len, hyn])
  have hY := num_lt s ys
  rw [hyn] at hY a3 a7 a8
  rw [List.length_reverse, hxn] at a3 a6
  have h0 : num s [] = 0 := rfl
  rw [h0, num_zero hI, divN hxn hY] at a8
  have hsz := div_size hn
  have e1 := congrArg Prod.fst a8
  have e2 := congrArg Prod.snd a8
  dsimp only at e1 e2
  refine ⟨⟨s', a1, a2, by dsimp only; omega, a4, by dsimp only; rw [a6]; simp, o_11 ?_⟩, ⟨s', a1, a2, by dsimp only; omega, a5, a7, o_12 ?_⟩⟩
  · dsimp only
    rw [e1]
    split <;> rfl
  · dsimp only
    rw [e2]
    split
    · rename_i h; rw [h, Nat.mod_zero]
    · rfl
theorem shift_size (hn : n ≤ 64) : (3 * n + 1) * n + 3 * n ≤ 40000 := by
  have := Nat.mul_le_mul (show 3 * n + 1 ≤ 193 by omega) hn
  omega
theorem app_16 (hI : GI g fr s) (hx : ∀ x ∈ xs, isL g.n x) (hy : ∀ y ∈ ys, isL g.n y) (hxn : xs.length = n) (hyn : ys.length = n) (hn : n ≤ 64) : VAns g fr s n (shiftG g xs ys 0 (-1) (-1)) (opI 16 n (num s xs) (num s ys)) := by
  obtain ⟨s', a1, a2, a3, a4, a5, a6⟩ := shift_ok (fr := fr) (i := -1) hn ys 0 g s xs (-1) hI hxn hx hy (isL_one hI).neg (isL_one hI).neg
  have hsz := shift_size hn
  rw [hyn] at a3
  refine ⟨s', a1, a2, by omega, a4, a5, o_16 ?_⟩
  unfold num at *
  rw [a6, lit_no hI, bv_upB0, List.length_map, hxn, shl_min]
  simp [Nat.mul_comm]
theorem app_17 (hI : GI g fr s) (hx : ∀ x ∈ xs, isL g.n x) (hy : ∀ y ∈ ys, isL g.n y) (hxn : xs.length = n) (hyn : ys.length = n) (hn : n ≤ 64) : VAns g fr s n ((shiftG g xs.reverse ys 0 (-1) (-1)).1, (shiftG g xs.reverse ys 0 (-1) (-1)).2.reverse) (opI 17 n (num s xs) (num s ys)) := by
  obtain ⟨s', a1, a2, a3, a4, a5, a6⟩ := shift_ok (fr := fr) (i := -1) hn ys 0 g s xs.reverse (-1) hI (by rw [List.length_reverse, hxn]) (fun a ha => hx a (List.mem_reverse.1 ha)) hy (isL_one hI).neg (isL_one hI).neg
  have hsz := shift_size hn
  rw [hyn] at a3
  refine ⟨s', a1, a2, by dsimp only; omega, fun a ha => a4 a (List.mem_reverse.1 ha), by dsimp only; rw [List.length_reverse, a5], ?_⟩
  have e : num s' (shiftG g xs.reverse ys 0 (-1) (-1)).2.reverse = num s xs / 2 ^ num s ys := by
    unfold num at *
    rw [List.map_reverse, a6, lit_no hI, List.map_reverse, bv_down]
    simp
  dsimp only
  rw [e]
  show _ = ((num s xs : Nat) : Int) / 2 ^ ((num s ys : Nat) : Int).toNat
  rw [pow_nat]; simp
theorem app_18 (hI : GI g fr s) (hx : ∀ x ∈ xs, isL g.n x) (hy : ∀ y ∈ ys, isL g.n y) (hxn : xs.length = n) (hyn : ys.length = n) (hn1 : 1 ≤ n) (hn : n ≤ 64) : VAns g fr s n ((shiftG g xs.reverse ys 0 (-1) (xs.getD (n - 1) 0)).1, (shiftG g xs.reverse ys 0 (-1) (xs.getD (n - 1) 0)).2.reverse) (opI 18 n (num s xs) (num s ys)) := by
  obtain ⟨s', a1, a2, a3, a4, a5, a6⟩ := shift_ok (fr := fr) (i := xs.getD (n - 1) 0) hn ys 0 g s xs.reverse (-1) hI (by rw [List.length_reverse, hxn]) (fun a ha => hx a (List.mem_reverse.1 ha)) hy (isL_one hI).neg (top_isL hx hxn hn1)
  have hsz := shift_size hn
  rw [hyn] at a3
  have hX := num_lt s xs
  rw [hxn] at hX
  refine ⟨s', a1, a2, by dsimp only; omega, fun a ha => a4 a (List.mem_reverse.1 ha), by dsimp only; rw [List.length_reverse, a5], o_18 hn1 hX ?_⟩
  dsimp only
  have hlen : (xs.map (lit s)).length = n := by rw [List.length_map, hxn]
  rw [top_lit hxn hn1]
  have hs := bv_sar (xs.map (lit s)) (lit s (xs.getD (n - 1) 0)) (min (num s ys) n) (by omega)
  rw [hlen] at hs
  have e1 : num s' (shiftG g xs.reverse ys 0 (-1) (xs.getD (n - 1) 0)).2.reverse = bv ((xs.map (lit s)).drop (num s ys) ++ List.replicate (min (num s ys) n) (lit s (xs.getD (n - 1) 0))) := by
    show bv ((shiftG g xs.reverse ys 0 (-1) (xs.getD (n - 1) 0)).2.reverse.map (lit s')) = _
    rw [List.map_reverse, a6, lit_no hI, List.map_reverse, rev_upB, hlen]
    simp
  rw [e1]
  refine Eq.trans ?_ hs
  rcases Nat.le_total (num s ys) n with h | h
  · rw [Nat.min_eq_left h]
  · rw [Nat.min_eq_right h, List.drop_of_length_le (by rw [hlen]; exact h), List.drop_of_length_le (by rw [hlen]; exact Nat.le_refl _)]
theorem app_19 (hI : GI g fr s) (hx : ∀ x ∈ xs, isL g.n x) (hy : ∀ y ∈ ys, isL g.n y) (hxn : xs.length = n) (hyn : ys.length = n) (hn : n ≤ 64) : VAns g fr s 1 ((sameG g 1 xs ys).1, [(sameG g 1 xs ys).2]) (opI 19 n (num s xs) (num s ys)) := by
  refine (same_ok xs ys g s 1 hI (isL_one hI) hx hy (hxn.trans hyn.symm)).one (by omega) (o_19 ?_)
  have h1 : lit s 1 = true := by simp [lit, hI.one]
  rw [h1, Bool.true_and]
  have : (xs.map (lit s) = ys.map (lit s)) ↔ num s xs = num s ys := ⟨fun h => by unfold num; rw [h], fun h => bv_inj _ _ (by simp [hxn, hyn]) h⟩
  rw [decide_eq_decide.2 this]
theorem app_20 (hI : GI g fr s) (hx : ∀ x ∈ xs, isL g.n x) (hy : ∀ y ∈ ys, isL g.n y) (hxn : xs.length = n) (hyn : ys.length = n) (hn : n ≤ 64) : VAns g fr s 1 ((lessG g xs ys).1, [(lessG g xs ys).2]) (opI 20 n (num s xs) (num s ys)) :=
  (less_ok hI hx hy (hxn.trans hyn.symm)).one (by omega) (o_20 rfl)
theorem app_21 (hI : GI g fr s) (hx : ∀ x ∈ xs, isL g.n x) (hy : ∀ y ∈ ys, isL g.n y) (hxn : xs.length = n) (hyn : ys.length = n) (hn1 : 1 ≤ n) (hn : n ≤ 64) : VAns g fr s 1 ((lessG g (xs.set (n - 1) (-(xs.getD (n - 1) 0))) (ys.set (n - 1) (-(ys.getD (n - 1) 0)))).1, [(lessG g (xs.set (n - 1) (-(xs.getD (n - 1) 0))) (ys.set (n - 1) (-(ys.getD (n - 1) 0)))).2]) (opI 21 n (num s xs) (num s ys)) := by
  have hX := num_lt s xs
  have hY := num_lt s ys
  rw [hxn] at hX
  rw [hyn] at hY
  have fx := num_flip (s := s) hxn hn1 hx
  have fy := num_flip (s := s) hyn hn1 hy
  have tx := top_lit (s := s) hxn hn1
  have ty := top_lit (s := s) hyn hn1
  have hl : (xs.set (n - 1) (-(xs.getD (n - 1) 0))).length = n := by rw [List.length_set, hxn]
  have hlx := num_lt s (xs.set (n - 1) (-(xs.getD (n - 1) 0)))
  have hly := num_lt s (ys.set (n - 1) (-(ys.getD (n - 1) 0)))
  rw [List.length_set, hxn] at hlx
  rw [List.length_set, hyn] at hly
  have hp : 2 ^ n = 2 ^ (n - 1) + 2 ^ (n - 1) := by
    obtain ⟨k, rfl⟩ : ∃ k, n = k + 1 := ⟨n - 1, by omega⟩
    rw [Nat.add_sub_cancel, Nat.pow_succ]; omega
  have bx := top_bit hn1 hX
  have byy := top_bit hn1 hY
  refine (less_ok hI (set_isL hx (top_isL hx hxn hn1).neg) (set_isL hy (top_isL hy hyn hn1).neg) (by rw [List.length_set, List.length_set, hxn, hyn])).one (by rw [hl]; omega) ?_
  generalize num s (xs.set (n - 1) (-(xs.getD (n - 1) 0))) = A at *
  generalize num s (ys.set (n - 1) (-(ys.getD (n - 1) 0))) = C at *
  generalize num s xs = X at *
  generalize num s ys = Y at *
  generalize 2 ^ (n - 1) = P at *
  rw [tx] at bx
  rw [ty] at byy
  rcases hb : lit s (xs.getD (n - 1) 0) with _ | _ <;> rcases hc : lit s (ys.getD (n - 1) 0) with _ | _
  all_goals rw [hb] at tx bx fx
  all_goals rw [hc] at ty byy fy
  all_goals simp only [Bool.false_eq_true, if_false, if_true] at fx fy
  all_goals have bx' := bx.symm
  all_goals have by' := byy.symm
  all_goals simp only [decide_eq_true_eq, decide_eq_false_iff_not] at bx' by'
  · exact o_21eq hn1 hX hY tx ty (by rw [decide_eq_decide.2 (show A < C ↔ X < Y by omega)])
  · exact o_21ne hn1 hX hY tx ty (by rw [decide_eq_false (show ¬ A < C by omega)])
  · exact o_21ne hn1 hX hY tx ty (by rw [decide_eq_true (show A < C by omega)])
  · exact o_21eq hn1 hX hY tx ty (by rw [decide_eq_decide.2 (show A < C ↔ X < Y by omega)])
theorem applyG_ok {op : Int} (hI : GI g fr s) (hx : ∀ x ∈ xs, isL g.n x) (hy : ∀ y ∈ ys, isL g.n y) (hxn : xs.length = n) (hyn : ys.length = n) (hn1 : 1 ≤ n) (hn : n ≤ 64) (h8 : 8 ≤ op) (h21 : op ≤ 21) : VAns g fr s (if 19 ≤ op then 1 else n) (applyG op g n xs ys) (opI op n (num s xs) (num s ys)) := by
  have hc : op = 8 ∨ op = 9 ∨ op = 10 ∨ op = 11 ∨ op = 12 ∨ op = 13 ∨ op = 14 ∨ op = 15 ∨ op = 16 ∨ op = 17 ∨ op = 18 ∨ op = 19 ∨ op = 20 ∨ op = 21 := by omega
  rcases hc with rfl | rfl | rfl | rfl | rfl | rfl | rfl | rfl | rfl | rfl | rfl | rfl | rfl | rfl
  · exact app_8 hI hx hy hxn hyn hn
  · exact app_9 hI hx hy hxn hyn hn
  · exact app_10 hI hx hy hxn hyn hn
  · exact (app_div hI hx hy hxn hyn hn).1
  · exact (app_div hI hx hy hxn hyn hn).2
  · have h := andN_ok hI hx hy (hxn.trans hyn.symm)
    rw [hxn] at h
    exact h.val (by omega) (o_13 rfl)
  · have h := orN_ok hI hx hy (hxn.trans hyn.symm)
    rw [hxn] at h
    exact h.val (by omega) (o_14 rfl)
  · have h := xorN_ok hI hx hy (hxn.trans hyn.symm)
    rw [hxn] at h
    exact h.val (by omega) (o_15 rfl)
  · exact app_16 hI hx hy hxn hyn hn
  · exact app_17 hI hx hy hxn hyn hn
  · exact app_18 hI hx hy hxn hyn hn1 hn
  · exact app_19 hI hx hy hxn hyn hn
  · exact app_20 hI hx hy hxn hyn hn
  · exact app_21 hI hx hy hxn hyn hn1 hn
end
end Go.Proofs.YtmaogkgjiplckaaGreat
namespace Go.Proofs.YtmaogkgjiplckaaGreat
open Go.RowKit
def WordY (X : Nat → Prop) (base gb : Nat) (w : World) (r : G × List Int) (e : Ending) (w' : World) : Prop :=
  ∃ (v : Value) (Y : Nat → Prop), e = .returned v ∧ (∀ k, X k → Y k) ∧ SlX (fun k => Y k ∧ w.heap.size ≤ k) w' v r.2 ∧ GR Y base w' gb r.1 ∧ Kept X w w'
section
variable {X : Nat → Prop} {base gb : Nat} {g : G} {fr : List Int} {s : Nat → Bool}
theorem shift_n (n : Nat) (w : World) (hG : GR X base w gb g) (hba : base ≤ w.heap.size) (vx vy : Value) (xs ys : List Int) (i : Int) (hX : SlX X w vx xs) (hY : SlX X w vy ys) (hxn : xs.length = n) (hyn : ys.length = n) (hn2 : n ≤ 64) (hn : g.n + 40000 ≤ 1048576) (hi : isL g.n i) (hx : ∀ x ∈ xs, isL g.n x) (hy : ∀ y ∈ ys, isL g.n y) (hI : GI g fr s) (r : G × List Int) (hr : shiftG g xs ys 0 (-1) i = r) :
    Calls Tryz.prog 115 #[.pointer (some ⟨gb, 0, none⟩), vx, vy, .int .i64 i] w (Word1 X base gb n w r) := by
  subst hxn
  exact shift_any w hG hba vx vy xs ys i hX hY hn2 (by omega) (by have := shift_size hn2; rw [hyn]; omega) hi hx hy hI r hr
theorem same_n (n : Nat) (w : World) (hG : GR X base w gb g) (hba : base ≤ w.heap.size) (vx vy : Value) (xs ys : List Int) (hX : SlX X w vx xs) (hY : SlX X w vy ys) (hxn : xs.length = n) (hyn : ys.length = n) (hn2 : n ≤ 64) (hn : g.n + 40000 ≤ 1048576) (hx : ∀ x ∈ xs, isL g.n x) (hy : ∀ y ∈ ys, isL g.n y) (hI : GI g fr s) (r : G × Int) (hr : sameG g 1 xs ys = r) :
    Calls Tryz.prog 117 #[.pointer (some ⟨gb, 0, none⟩), vx, vy] w fun e w' => e = .returned (.int .i64 r.2) ∧ GR X base w' gb r.1 ∧ Kept X w w' :=
  same_any w hG hba vx vy xs ys hX hY (by rw [hxn, hyn]) (by omega) (by omega) (isL_one hI) hx hy hI r hr
theorem less_n (n : Nat) (w : World) (hG : GR X base w gb g) (hba : base ≤ w.heap.size) (vx vy : Value) (xs ys : List Int) (hX : SlX X w vx xs) (hY : SlX X w vy ys) (hxn : xs.length = n) (hyn : ys.length = n) (hn2 : n ≤ 64) (hn : g.n + 40000 ≤ 1048576) (hx : ∀ x ∈ xs, isL g.n x) (hy : ∀ y ∈ ys, isL g.n y) (hI : GI g fr s) (r : G × Int) (hr : lessG g xs ys = r) :
    Calls Tryz.prog 118 #[.pointer (some ⟨gb, 0, none⟩), vx, vy] w fun e w' => e = .returned (.int .i64 r.2) ∧ GR X base w' gb r.1 ∧ Kept X w w' :=
  lessW_any w hG hba vx vy xs ys hX hY (by rw [hxn, hyn]) (by omega) (by omega) hx hy hI r hr
def NewRow (X : Nat → Prop) (base gb : Nat) (g : G) (w : World) (l : List Int) (e : Ending) (w' : World) : Prop :=
  ∃ v : Value, e = .returned v ∧ SlX (fun k => v.ownBlock = some k ∧ w.heap.size ≤ k) w' v l ∧ GR (fun k => X k ∨ v.ownBlock = some k) base w' gb g ∧ Below w.heap.size w w'
theorem back_n (n : Nat) (w : World) (hG : GR X base w gb g) (v : Value) (l : List Int) (hl : SlX X w v l) (hn : l.length = n) (h1 : 1 ≤ n) (hn2 : n ≤ 64) : Calls Tryz.prog 116 #[v] w (NewRow X base gb g w l.reverse) := by
  refine (back_any w v l hl (by rintro rfl; simp at hn; omega) (by omega)).mono ?_
  rintro _ w' ⟨v', rfl, hO, hb⟩
  exact ⟨v', rfl, own_sl hO (fun k e => ⟨e, (hO.lt k e).1⟩), turn_new hG hb hO, hb⟩
theorem signs_n (n : Nat) (w : World) (hG : GR X base w gb g) (v : Value) (l : List Int) (hl : SlX X w v l) (hn : l.length = n) (h1 : 1 ≤ n) (hn2 : n ≤ 64) (hx : ∀ x ∈ l, isL g.n x) : Calls Tryz.prog 119 #[v] w (NewRow X base gb g w (l.set (n - 1) (-(l.getD (n - 1) 0)))) := by
  obtain ⟨k, rfl⟩ : ∃ k, n = k + 1 := ⟨n - 1, by omega⟩
  have hk : l[k]? = some (l.getD k 0) := by rw [List.getD_eq_getElem?_getD, List.getElem?_eq_getElem (show k < l.length by omega)]; rfl
  refine (signs_any w v l hl k hn (l.getD k 0) hk (rng_of (hx _ (List.mem_of_getElem? hk)) hG.n1) (by omega)).mono ?_
  rintro _ w' ⟨v', rfl, hO, hb⟩
  rw [Nat.add_sub_cancel]
  exact ⟨v', rfl, own_sl hO (fun k e => ⟨e, (hO.lt k e).1⟩), turn_new hG hb hO, hb⟩
end
theorem lit_row {X : Nat → Prop} {base gb : Nat} {g : G} (w : World) (hG : GR X base w gb g) (x : Int) : SlX (fun k => k = w.heap.size) (w.alloc (.cells #[.int .i64 x] 3)) (.slice (some ⟨w.heap.size, 0, none⟩) 1 1) [x] ∧ GR (fun k => X k ∨ k = w.heap.size) base (w.alloc (.cells #[.int .i64 x] 3)) gb g := by
  have hO := World.ownsRow_lit (base := w.heap.size) (e := 3) (size := 1) w #[.int .i64 x] 1 (Nat.le_refl _) (by decide) rfl
  have hb : Below w.heap.size w (w.alloc (.cells #[.int .i64 x] 3)) := ((Kept.refl (fun _ => True) w).alloc _).toBelow (Nat.le_refl _) fun _ _ => trivial
  refine ⟨own_sl (l := [x]) hO (fun k e => by injection e with e; exact e.symm), hG.owned (below_own hb) (Nat.le_refl _) (by simp)⟩
set_option maxRecDepth 100000 in
set_option maxHeartbeats 4000000 in
theorem apply_any {X : Nat → Prop} {base gb : Nat} {g : G} {fr : List Int} {s : Nat → Bool} (op : Int) (w : World) (hG : GR X base w gb g) (hba : base ≤ w.heap.size) (vx vy : Value) (xs ys : List Int) (n : Nat) (hX : SlX X w vx xs) (hY : SlX X w vy ys) (hxn : xs.length = n) (hyn : ys.length = n) (hn1 : 1 ≤ n) (hn2 : n ≤ 64) (hn : g.n + 40000 ≤ 1048576) (hx : ∀ x ∈ xs, isL g.n x) (hy : ∀ y ∈ ys, isL g.n y) (hI : GI g fr s) (h8 : 8 ≤ op) (h21 : op ≤ 21) (r : G × List Int) (hr : applyG op g n xs ys = r) :
    Calls Tryz.prog 80 #[.pointer (some ⟨gb, 0, none⟩), .int .i64 op, vx, vy] w (WordY X base gb w r) := by
  have hc : op = 8 ∨ op = 9 ∨ op = 10 ∨ op = 11 ∨ op = 12 ∨ op = 13 ∨ op = 14 ∨ op = 15 ∨ op = 16 ∨ op = 17 ∨ op = 18 ∨ op = 19 ∨ op = 20 ∨ op = 21 := by omega
  have hnm : n ≤ 1000000 := by omega
  have L1 := isL_one hI
  have Ln := L1.neg
  rcases hc with rfl | rfl | rfl | rfl | rfl | rfl | rfl | rfl | rfl | rfl | rfl | rfl | rfl | rfl
  · as_aux_lemma =>
      obtain ⟨t, ht⟩ : ∃ t, sumG g xs ys (-1) = t := ⟨_, rfl⟩
      obtain rfl : r = (t.1, t.2.1) := by rw [← hr, ← ht]; rfl
      have HC := Lib.hid (sum_n n w hG hba vx vy xs ys (-1) hX hY hxn hyn (by omega) hnm Ln hx hy hI t ht)
      clear hX hY hG hx hy hI hr ht hn hba L1 Ln hxn hyn
      go_enter Tryz.func80, Tryz.ntmps80
      (repeat (first | (with_reducible first | refine xA ?_ | refine xB ?_ | refine xC ?_ | refine xD ?_ | refine xH ?_ | refine xI rfl ?_ | refine xE ?_ | refine xF ?_ | refine xG ?_) | go_skip | go_guarded | (go_at_call 108; (with_reducible refine (HC.out).mono ?_); rintro _ w2 ⟨q, rfl, hO, hq, hG2, hk2⟩) | go_values | go_skip | go_guarded | go_step | go_upon | go_back | ((with_reducible show Oper.upon _ _ _ _ _ _); go_simp) | (dsimp only)))
      go_ret
      exact ⟨_, _, rfl, fun k h => .inl h, hO.slX ⟨.inr rfl, hq⟩, hG2, hk2⟩
  · as_aux_lemma => -- 9
      obtain ⟨t, ht⟩ : ∃ t, sumG g xs (notL ys) 1 = t := ⟨_, rfl⟩
      obtain rfl : r = (t.1, t.2.1) := by rw [← hr, ← ht]; rfl
      have HT := Lib.hid (turned_n n w vy ys hY hyn hnm (isL_b hy hG.n1))
      have HS := Lib.hid (fun (w1 : World) (hb1 : Below w.heap.size w w1) (hO : OwnI w1 w.heap.size n (notL ys)) => sum_n (X := fun k => X k ∨ k = w.heap.size) n w1 (hG.owned (below_own hb1) (Nat.le_refl _) hO.lt) (Nat.le_trans hba hb1.size) vx _ xs (notL ys) 1 ((hX.kept (Kept.ofBelow hb1)).mono fun _ _ h => .inl h) (hO.slX (.inr rfl)) hxn (by rw [notL_len, hyn]) (by omega) hnm L1 hx (notL_isL hy) hI t ht)
      clear hX hY hG hx hy hI hr ht hn hba L1 Ln hxn hyn
      go_enter Tryz.func80, Tryz.ntmps80
      (repeat (first | (with_reducible first | refine xA ?_ | refine xB ?_ | refine xC ?_ | refine xD ?_ | refine xH ?_ | refine xI rfl ?_ | refine xE ?_ | refine xF ?_ | refine xG ?_) | go_skip | go_guarded | (go_at_call 77; (with_reducible refine (HT.out).mono ?_); rintro _ w1 ⟨rfl, hO1, hb1⟩) | (go_at_call 108; (with_reducible refine (HS.out _ hb1 hO1).mono ?_); rintro _ w2 ⟨q, rfl, hO2, hq, hG2, hk2⟩) | go_values | go_skip | go_guarded | go_step | go_upon | go_back | ((with_reducible show Oper.upon _ _ _ _ _ _); go_simp) | (dsimp only)))
      go_ret
      exact ⟨_, _, rfl, fun k h => .inl (.inl h), hO2.slX ⟨.inr rfl, Nat.le_trans hb1.size hq⟩, hG2, (Kept.ofBelow hb1).trans (hk2.mono fun k _ h => .inl h)⟩
  · as_aux_lemma => -- 10
      have hsz : 6 * n * n ≤ 24576 := Nat.mul_le_mul (Nat.mul_le_mul_left 6 hn2) hn2
      have HC := Lib.hid (product_any w hG hba vx vy xs ys hX hY n hxn hyn hn1 hn2 (by omega) hx hy hI r hr)
      clear hsz
      clear hX hY hG hx hy hI hr  hn hba L1 Ln hxn hyn
      go_enter Tryz.func80, Tryz.ntmps80
      (repeat (first | (with_reducible first | refine xA ?_ | refine xB ?_ | refine xC ?_ | refine xD ?_ | refine xH ?_ | refine xI rfl ?_ | refine xE ?_ | refine xF ?_ | refine xG ?_) | go_skip | go_guarded | (go_at_call 109; (with_reducible refine (HC.out).mono ?_); rintro _ w2 ⟨q, rfl, hO, hq, hG2, hk2⟩) | go_values | go_skip | go_guarded | go_step | go_upon | go_back | ((with_reducible show Oper.upon _ _ _ _ _ _); go_simp) | (dsimp only)))
      go_ret
      exact ⟨_, _, rfl, fun k h => .inl h, hO.slX ⟨.inr rfl, hq⟩, hG2, hk2⟩
  · as_aux_lemma => -- 11
      obtain ⟨t, ht⟩ : ∃ t, divG g xs.reverse (constL n 0) ys [] = t := ⟨_, rfl⟩
      obtain rfl : r = (t.1, t.2.1) := by rw [← hr, ← ht]; rfl
      have hsz := div_size hn2
      have HC := Lib.hid (parts_any w hG hba vx vy xs ys hX hY n hxn hyn hn1 hn2 (by omega) hx hy hI t ht)
      clear hsz
      clear hX hY hG hx hy hI hr ht hn hba L1 Ln hxn hyn
      go_enter Tryz.func80, Tryz.ntmps80
      (repeat (first | (with_reducible first | refine xA ?_ | refine xB ?_ | refine xC ?_ | refine xD ?_ | refine xH ?_ | refine xI rfl ?_ | refine xE ?_ | refine xF ?_ | refine xG ?_) | go_skip | go_guarded | (go_at_call 110; (with_reducible refine (HC.out).mono ?_); rintro _ w2 ⟨q, rv, Y, rfl, hO, hq, hS, hXY, hYq, hG2, hk2⟩) | go_values | go_skip | go_guarded | go_step | go_upon | go_back | ((with_reducible show Oper.upon _ _ _ _ _ _); go_simp) | (dsimp only)))
      go_ret
      exact ⟨_, Y, rfl, hXY, hO.slX ⟨hYq, hq⟩, hG2, hk2⟩
  · as_aux_lemma => -- 12
      obtain ⟨t, ht⟩ : ∃ t, divG g xs.reverse (constL n 0) ys [] = t := ⟨_, rfl⟩
      obtain rfl : r = (t.1, t.2.2) := by rw [← hr, ← ht]; rfl
      have hsz := div_size hn2
      have HC := Lib.hid (parts_any w hG hba vx vy xs ys hX hY n hxn hyn hn1 hn2 (by omega) hx hy hI t ht)
      clear hsz
      clear hX hY hG hx hy hI hr ht hn hba L1 Ln hxn hyn
      go_enter Tryz.func80, Tryz.ntmps80
      (repeat (first | (with_reducible first | refine xA ?_ | refine xB ?_ | refine xC ?_ | refine xD ?_ | refine xH ?_ | refine xI rfl ?_ | refine xE ?_ | refine xF ?_ | refine xG ?_) | go_skip | go_guarded | (go_at_call 110; (with_reducible refine (HC.out).mono ?_); rintro _ w2 ⟨q, rv, Y, rfl, hO, hq, hS, hXY, hYq, hG2, hk2⟩) | go_values | go_skip | go_guarded | go_step | go_upon | go_back | ((with_reducible show Oper.upon _ _ _ _ _ _); go_simp) | (dsimp only)))
      go_ret
      exact ⟨rv, Y, rfl, hXY, hS, hG2, hk2⟩
  · as_aux_lemma => -- 13
      have HC := Lib.hid (bits_both_any w hG hba vx vy xs ys hX hY (by rw [hxn, hyn]) (by omega) (by omega) hx hy hI r hr)
      clear hX hY hG hx hy hI hr  hn hba L1 Ln hxn hyn
      go_enter Tryz.func80, Tryz.ntmps80
      (repeat (first | (with_reducible first | refine xA ?_ | refine xB ?_ | refine xC ?_ | refine xD ?_ | refine xH ?_ | refine xI rfl ?_ | refine xE ?_ | refine xF ?_ | refine xG ?_) | go_skip | go_guarded | (go_at_call 111; (with_reducible refine (HC.out).mono ?_); rintro _ w2 ⟨q, rfl, hO, hq, hG2, hk2⟩) | go_values | go_skip | go_guarded | go_step | go_upon | go_back | ((with_reducible show Oper.upon _ _ _ _ _ _); go_simp) | (dsimp only)))
      go_ret
      exact ⟨_, _, rfl, fun k h => .inl h, hO.slX ⟨.inr rfl, hq⟩, hG2, hk2⟩
  · as_aux_lemma => -- 14
      have HC := Lib.hid (bits_either_any w hG hba vx vy xs ys hX hY (by rw [hxn, hyn]) (by omega) (by omega) hx hy hI r hr)
      clear hX hY hG hx hy hI hr  hn hba L1 Ln hxn hyn
      go_enter Tryz.func80, Tryz.ntmps80
      (repeat (first | (with_reducible first | refine xA ?_ | refine xB ?_ | refine xC ?_ | refine xD ?_ | refine xH ?_ | refine xI rfl ?_ | refine xE ?_ | refine xF ?_ | refine xG ?_) | go_skip | go_guarded | (go_at_call 111; (with_reducible refine (HC.out).mono ?_); rintro _ w2 ⟨q, rfl, hO, hq, hG2, hk2⟩) | go_values | go_skip | go_guarded | go_step | go_upon | go_back | ((with_reducible show Oper.upon _ _ _ _ _ _); go_simp) | (dsimp only)))
      go_ret
      exact ⟨_, _, rfl, fun k h => .inl h, hO.slX ⟨.inr rfl, hq⟩, hG2, hk2⟩
  · as_aux_lemma => -- 15
      have HC := Lib.hid (bits_odd_any w hG hba vx vy xs ys hX hY (by rw [hxn, hyn]) (by omega) (by omega) hx hy hI r hr)
      clear hX hY hG hx hy hI hr  hn hba L1 Ln hxn hyn
      go_enter Tryz.func80, Tryz.ntmps80
      (repeat (first | (with_reducible first | refine xA ?_ | refine xB ?_ | refine xC ?_ | refine xD ?_ | refine xH ?_ | refine xI rfl ?_ | refine xE ?_ | refine xF ?_ | refine xG ?_) | go_skip | go_guarded | (go_at_call 111; (with_reducible refine (HC.out).mono ?_); rintro _ w2 ⟨q, rfl, hO, hq, hG2, hk2⟩) | go_values | go_skip | go_guarded | go_step | go_upon | go_back | ((with_reducible show Oper.upon _ _ _ _ _ _); go_simp) | (dsimp only)))
      go_ret
      exact ⟨_, _, rfl, fun k h => .inl h, hO.slX ⟨.inr rfl, hq⟩, hG2, hk2⟩
  · as_aux_lemma => -- 16
      have HC := Lib.hid (shift_n n w hG hba vx vy xs ys (-1) hX hY hxn hyn hn2 hn Ln hx hy hI r hr)
      clear hX hY hG hx hy hI hr  hn hba L1 Ln hxn hyn
      go_enter Tryz.func80, Tryz.ntmps80
      (repeat (first | (with_reducible first | refine xA ?_ | refine xB ?_ | refine xC ?_ | refine xD ?_ | refine xH ?_ | refine xI rfl ?_ | refine xE ?_ | refine xF ?_ | refine xG ?_) | go_skip | go_guarded | (go_at_call 115; (with_reducible refine (HC.out).mono ?_); rintro _ w2 ⟨q, rfl, hO, hq, hG2, hk2⟩) | go_values | go_skip | go_guarded | go_step | go_upon | go_back | ((with_reducible show Oper.upon _ _ _ _ _ _); go_simp) | (dsimp only)))
      go_ret
      exact ⟨_, _, rfl, fun k h => .inl h, hO.slX ⟨.inr rfl, hq⟩, hG2, hk2⟩
  · as_aux_lemma => -- 17
      obtain ⟨t, ht⟩ : ∃ t, shiftG g xs.reverse ys 0 (-1) (-1) = t := ⟨_, rfl⟩
      obtain rfl : r = (t.1, t.2.reverse) := by rw [← hr, ← ht]; rfl
      have hrl : xs.reverse.length = n := by rw [List.length_reverse, hxn]
      have hrx : ∀ a ∈ xs.reverse, isL g.n a := fun a ha => hx a (List.mem_reverse.1 ha)
      have htn : t.2.length = n := by
        obtain ⟨_, _, _, _, _, a5, _⟩ := shift_ok (fr := fr) (i := -1) hn2 ys 0 g s xs.reverse (-1) hI hrl hrx hy Ln Ln
        rw [ht] at a5; exact a5
      have HB := Lib.hid (back_n n w hG vx xs hX hxn hn1 hn2)
      have HS := Lib.hid (fun (w1 : World) (v1 : Value) (hb1 : Below w.heap.size w w1) (hS : SlX (fun k => X k ∨ v1.ownBlock = some k) w1 v1 xs.reverse) (hG1 : GR (fun k => X k ∨ v1.ownBlock = some k) base w1 gb g) => shift_n n w1 hG1 (Nat.le_trans hba hb1.size) v1 vy xs.reverse ys (-1) hS ((hY.kept (Kept.ofBelow hb1)).mono fun _ _ h => .inl h) hrl hyn hn2 hn Ln hrx hy hI t ht)
      have HTN := Lib.hid htn
      clear hrl hrx htn
      clear hX hY hG hx hy hI hr ht hn hba L1 Ln hxn hyn
      go_enter Tryz.func80, Tryz.ntmps80
      (repeat (first | (with_reducible first | refine xA ?_ | refine xB ?_ | refine xC ?_ | refine xD ?_ | refine xH ?_ | refine xI rfl ?_ | refine xE ?_ | refine xF ?_ | refine xG ?_) | go_skip | go_guarded | (go_at_call 116; (with_reducible refine (HB.out).mono ?_); rintro _ w1 ⟨v1, rfl, hS1, hG1, hb1⟩; clear HB) | (go_at_call 115; (with_reducible refine (HS.out w1 v1 hb1 (hS1.mono fun _ _ h => .inr h.1) hG1).mono ?_); rintro _ w2 ⟨q, rfl, hO2, hq, hG2, hk2⟩) | (go_at_call 116; (with_reducible refine (back_n n w2 hG2 _ t.2 (hO2.slX (.inr rfl)) HTN.out hn1 hn2).mono ?_); rintro _ w3 ⟨v3, rfl, hS3, hG3, hb3⟩) | go_values | go_skip | go_guarded | go_step | go_upon | go_back | ((with_reducible show Oper.upon _ _ _ _ _ _); go_simp) | (dsimp only)))
      go_ret
      exact ⟨v3, _, rfl, fun k h => .inl (.inl (.inl h)), hS3.mono fun _ _ h => ⟨.inr h.1, Nat.le_trans hb1.size (Nat.le_trans hk2.size h.2)⟩, hG3, ((Kept.ofBelow hb1).trans (hk2.mono fun k _ h => .inl h)).trans (Kept.ofBelow hb3)⟩
  · as_aux_lemma => -- 18
      obtain ⟨k, rfl⟩ : ∃ k, n = k + 1 := ⟨n - 1, by omega⟩
      obtain ⟨ax, cx, rfl⟩ := hX.shape
      obtain ⟨bx, ox, rfl, xbx, lbx, cbx, HRx⟩ := hX.row (by omega)
      have hk : xs[k]? = some (xs.getD k 0) := by rw [List.getD_eq_getElem?_getD, List.getElem?_eq_getElem (show k < xs.length by omega)]; rfl
      have hiL : isL g.n (xs.getD k 0) := hx _ (List.mem_of_getElem? hk)
      obtain ⟨x, hxx⟩ : ∃ x, xs.getD k 0 = x := ⟨_, rfl⟩
      rw [hxx] at hk hiL
      have hcx := HRx k x hk
      obtain ⟨t, ht⟩ : ∃ t, shiftG g xs.reverse ys 0 (-1) x = t := ⟨_, rfl⟩
      obtain rfl : r = (t.1, t.2.reverse) := by rw [← hr, ← ht, ← hxx]; rfl
      have hrl : xs.reverse.length = k + 1 := by rw [List.length_reverse, hxn]
      have hrx : ∀ a ∈ xs.reverse, isL g.n a := fun a ha => hx a (List.mem_reverse.1 ha)
      have htn : t.2.length = k + 1 := by
        obtain ⟨_, _, _, _, _, a5, _⟩ := shift_ok (fr := fr) (i := x) hn2 ys 0 g s xs.reverse (-1) hI hrl hrx hy Ln hiL
        rw [ht] at a5; exact a5
      have HB := Lib.hid (fun (u0 : World) (hk0 : Kept X w u0) (hG0 : GR X base u0 gb g) => back_n (k + 1) u0 hG0 _ xs (hX.kept hk0) hxn hn1 hn2)
      have HS := Lib.hid (fun (u0 w1 : World) (v1 : Value) (hk0 : Kept X w u0) (hb1 : Below u0.heap.size u0 w1) (hS : SlX (fun k => X k ∨ v1.ownBlock = some k) w1 v1 xs.reverse) (hG1 : GR (fun k => X k ∨ v1.ownBlock = some k) base w1 gb g) => shift_n (k + 1) w1 hG1 (Nat.le_trans hba (Nat.le_trans hk0.size hb1.size)) v1 vy xs.reverse ys x hS (((hY.kept hk0).kept (Kept.ofBelow hb1)).mono fun _ _ h => .inl h) hrl hyn hn2 hn hiL hrx hy hI t ht)
      have HTN := Lib.hid htn
      rw [hxn]
      rw [hxn] at HB
      have HG := Lib.hid hG
      have HCX := Lib.hid hcx
      have hk64 : (k : Int) < 64 := by omega
      have k0 : (0 : Int) ≤ (k : Int) := by omega
      have k1 : (k : Int) < ((k + 1 : Nat) : Int) := by omega
      clear hrl hrx htn hk hiL hxx hcx HRx
      clear hX hY hG hx hy hI hr ht hn hba L1 Ln hxn hyn
      go_enter Tryz.func80, Tryz.ntmps80
      (repeat (first | (with_reducible first | refine xA ?_ | refine xB ?_ | refine xC ?_ | refine xD ?_ | refine xH ?_ | refine xI rfl ?_ | refine xE ?_ | refine xF ?_ | refine xG ?_) | go_values | go_skip | go_guarded | go_step | go_upon | go_back | ((with_reducible show Oper.upon _ _ _ _ _ _); go_simp) | (dsimp only)))
      refine wp_region_held (S := fun u => u.cell? ⟨bx, ox + k, none⟩ = some (.int .i64 x)) (by kernel_rfl) ?_
      have HSX : (({ w with drawn := w.drawn + 1 } : World)).cell? ⟨bx, ox + k, none⟩ = some (.int .i64 x) := HCX.out
      have HG0 := HG.out.same (w' := ({ w with drawn := w.drawn + 1 } : World)) ⟨rfl, rfl, rfl, Nat.le_refl _, fun _ _ _ => rfl⟩
      have HK0 : Kept X w ({ w with drawn := w.drawn + 1 } : World) := (Kept.refl X w).drew 1
      clear HCX HG
      generalize ({ w with drawn := w.drawn + 1 } : World) = u0 at *
      have HSC := HSX
      refine wpAnyH_take (i := 0) (v := .pointer (some ⟨gb, 0, none⟩)) rfl (by kernel_rfl) (by kernel_rfl) (by kernel_rfl) (fun _ _ _ h => h) (Or.inl ⟨rfl, fun w _ => by go_simp⟩) HSC ?_; simp only [Act.put, qz1, qz2, qz3, qz4, qz5, qz6]
      refine wpAnyH_take (i := 1) (v := .slice (some ⟨bx, ox, none⟩) (k + 1) cx) rfl (by kernel_rfl) (by kernel_rfl) (by kernel_rfl) (fun _ _ _ h => h) (Or.inl ⟨rfl, fun w _ => by go_simp⟩) HSC ?_; simp only [Act.put, qz1, qz2, qz3, qz4, qz5, qz6]
      refine wpAnyH_take (i := 3) (v := vy) rfl (by kernel_rfl) (by kernel_rfl) (by kernel_rfl) (fun _ _ _ h => h) (Or.inl ⟨rfl, fun w _ => by go_simp⟩) HSC ?_; simp only [Act.put, qz1, qz2, qz3, qz4, qz5, qz6]
      refine wpAnyH_take (i := 4) (v := .slice (some ⟨bx, ox, none⟩) (k + 1) cx) rfl (by kernel_rfl) (by kernel_rfl) (by kernel_rfl) (fun _ _ _ h => h) (Or.inl ⟨rfl, fun w _ => by go_simp⟩) HSC ?_; simp only [Act.put, qz1, qz2, qz3, qz4, qz5, qz6]
      refine wpAnyH_take (i := 5) (v := .slice (some ⟨bx, ox, none⟩) (k + 1) cx) rfl (by kernel_rfl) (by kernel_rfl) (by kernel_rfl) (fun _ _ _ h => h) (Or.inl ⟨rfl, fun w _ => by go_simp⟩) HSC ?_; simp only [Act.put, qz1, qz2, qz3, qz4, qz5, qz6]
      refine wpAnyH_take (i := 6) (v := .int .i64 ((k : Int) + 1)) rfl (by kernel_rfl) (by kernel_rfl) (by kernel_rfl) (fun _ _ _ h => h) (Or.inl ⟨rfl, fun w _ => by go_simp⟩) HSC ?_; simp only [Act.put, qz1, qz2, qz3, qz4, qz5, qz6]
      refine wpAnyH_take (i := 7) (v := .int .i64 k) rfl (by kernel_rfl) (by kernel_rfl) (by kernel_rfl) (fun _ _ _ h => h) (Or.inl ⟨rfl, fun w _ => by have e : IntKind.i64.wrap (k : Int) = k := IntWalk.i64_in _ ⟨by omega, by omega⟩; go_simp⟩) HSC ?_
      simp only [Act.put, qz1, qz2, qz3, qz4, qz5, qz6]
      refine wpAnyH_take (i := 8) (v := .pointer (some ⟨bx, ox + k, none⟩)) rfl (by kernel_rfl) (by kernel_rfl) (by kernel_rfl) (fun _ _ _ h => h) (Or.inl ⟨rfl, fun w _ => by go_simp; intro h; exact absurd h (by omega)⟩) HSC ?_
      simp only [Act.put, qz1, qz2, qz3, qz4, qz5, qz6]
      refine wpAnyH_take (i := 9) (v := .int .i64 x) rfl (by kernel_rfl) (by kernel_rfl) (by kernel_rfl) (fun _ _ _ h => h) (Or.inl ⟨rfl, fun w hw => by have hx := hw; go_simp⟩) HSC ?_
      simp only [Act.put, qz1, qz2, qz3, qz4, qz5, qz6]
      refine wpAnyH_all (rs := [2]) (by kernel_rfl) (by simp) (fun i hi => ?_)
      obtain rfl : i = 2 := by simpa using hi
      refine wpOp_one rfl ?_
      (repeat (first | (with_reducible first | refine xA ?_ | refine xB ?_ | refine xC ?_ | refine xD ?_ | refine xH ?_ | refine xI rfl ?_ | refine xE ?_ | refine xF ?_ | refine xG ?_) | go_skip | go_guarded | (go_at_call 116; (with_reducible refine (HB.out u0 HK0 HG0).mono ?_); rintro _ w1 ⟨v1, rfl, hS1, hG1, hb1⟩) | go_values | go_skip | go_guarded | go_step | go_upon | go_back | ((with_reducible show Oper.upon _ _ _ _ _ _); go_simp) | (dsimp only)))
      have HSC1 : w1.cell? ⟨bx, ox + k, none⟩ = some (.int .i64 x) := (Kept.ofBelow (X := fun _ => True) hb1).cell HSC trivial
      refine ⟨HSC1, ?_⟩
      refine wpAnyH_all (rs := [10]) (by kernel_rfl) (by simp) (fun i hi => ?_)
      obtain rfl : i = 10 := by simpa using hi
      refine wpOp_one rfl ?_
      (repeat (first | (with_reducible first | refine xA ?_ | refine xB ?_ | refine xC ?_ | refine xD ?_ | refine xH ?_ | refine xI rfl ?_ | refine xE ?_ | refine xF ?_ | refine xG ?_) | go_skip | go_guarded | (go_at_call 115; (with_reducible refine (HS.out u0 w1 v1 HK0 hb1 (hS1.mono fun _ _ h => .inr h.1) hG1).mono ?_); rintro _ w2 ⟨q, rfl, hO2, hq, hG2, hk2⟩) | go_values | go_skip | go_guarded | go_step | go_upon | go_back | ((with_reducible show Oper.upon _ _ _ _ _ _); go_simp) | (dsimp only)))
      have HSC2 : w2.cell? ⟨bx, ox + k, none⟩ = some (.int .i64 x) := hk2.cell HSC1 (.inl xbx)
      refine ⟨HSC2, ?_⟩
      refine wpAnyH_all (rs := [11]) (by kernel_rfl) (by simp) (fun i hi => ?_)
      obtain rfl : i = 11 := by simpa using hi
      refine wpOp_one rfl ?_
      (repeat (first | (with_reducible first | refine xA ?_ | refine xB ?_ | refine xC ?_ | refine xD ?_ | refine xH ?_ | refine xI rfl ?_ | refine xE ?_ | refine xF ?_ | refine xG ?_) | go_skip | go_guarded | (go_at_call 116; (with_reducible refine (back_n (k + 1) w2 hG2 _ t.2 (hO2.slX (.inr rfl)) HTN.out hn1 hn2).mono ?_); rintro _ w3 ⟨v3, rfl, hS3, hG3, hb3⟩) | go_values | go_skip | go_guarded | go_step | go_upon | go_back | ((with_reducible show Oper.upon _ _ _ _ _ _); go_simp) | (dsimp only)))
      have HSC3 : w3.cell? ⟨bx, ox + k, none⟩ = some (.int .i64 x) := (Kept.ofBelow (X := fun _ => True) hb3).cell HSC2 trivial
      refine ⟨HSC3, ?_⟩
      refine wpAnyH_all (rs := [12]) (by kernel_rfl) (by simp) (fun i hi => ?_)
      obtain rfl : i = 12 := by simpa using hi
      refine wpOp_one rfl ?_
      (repeat (first | (with_reducible first | refine xA ?_ | refine xB ?_ | refine xC ?_ | refine xD ?_ | refine xH ?_ | refine xI rfl ?_ | refine xE ?_ | refine xF ?_ | refine xG ?_) | go_values | go_skip | go_guarded | go_step | go_upon | go_back | ((with_reducible show Oper.upon _ _ _ _ _ _); go_simp) | (dsimp only)))
      refine ⟨HSC3, ?_⟩
      refine wpAnyH_done (by kernel_rfl) ?_ _
      (repeat (first | (with_reducible first | refine xA ?_ | refine xB ?_ | refine xC ?_ | refine xD ?_ | refine xH ?_ | refine xI rfl ?_ | refine xE ?_ | refine xF ?_ | refine xG ?_) | go_values | go_skip | go_guarded | go_step | go_upon | go_back | ((with_reducible show Oper.upon _ _ _ _ _ _); go_simp) | (dsimp only)))
      go_ret
      exact ⟨v3, _, rfl, fun k h => .inl (.inl (.inl h)), hS3.mono fun _ _ h => ⟨.inr h.1, Nat.le_trans HK0.size (Nat.le_trans hb1.size (Nat.le_trans hk2.size h.2))⟩, hG3, (HK0.trans ((Kept.ofBelow hb1).trans (hk2.mono fun k _ h => .inl h))).trans (Kept.ofBelow hb3)⟩
  · as_aux_lemma => -- 19
      obtain ⟨t, ht⟩ : ∃ t, sameG g 1 xs ys = t := ⟨_, rfl⟩
      obtain rfl : r = (t.1, [t.2]) := by rw [← hr, ← ht]; rfl
      have HC := Lib.hid (same_n n w hG hba vx vy xs ys hX hY hxn hyn hn2 hn hx hy hI t ht)
      clear hX hY hG hx hy hI hr ht hn hba L1 Ln hxn hyn
      go_enter Tryz.func80, Tryz.ntmps80
      (repeat (first | (with_reducible first | refine xA ?_ | refine xB ?_ | refine xC ?_ | refine xD ?_ | refine xH ?_ | refine xI rfl ?_ | refine xE ?_ | refine xF ?_ | refine xG ?_) | go_skip | go_guarded | (go_at_call 117; (with_reducible refine (HC.out).mono ?_); rintro _ w2 ⟨rfl, hG2, hk2⟩) | go_values | go_skip | go_guarded | go_step | go_upon | go_back | ((with_reducible show Oper.upon _ _ _ _ _ _); go_simp) | (dsimp only)))
      go_ret
      exact ⟨_, _, rfl, fun k h => .inl h, (lit_row w2 hG2 t.2).1.mono fun _ _ h => ⟨.inr h, by rw [h]; exact hk2.size⟩, (lit_row w2 hG2 t.2).2, hk2.alloc _⟩
  · as_aux_lemma => -- 20
      obtain ⟨t, ht⟩ : ∃ t, lessG g xs ys = t := ⟨_, rfl⟩
      obtain rfl : r = (t.1, [t.2]) := by rw [← hr, ← ht]; rfl
      have HC := Lib.hid (less_n n w hG hba vx vy xs ys hX hY hxn hyn hn2 hn hx hy hI t ht)
      clear hX hY hG hx hy hI hr ht hn hba L1 Ln hxn hyn
      go_enter Tryz.func80, Tryz.ntmps80
      (repeat (first | (with_reducible first | refine xA ?_ | refine xB ?_ | refine xC ?_ | refine xD ?_ | refine xH ?_ | refine xI rfl ?_ | refine xE ?_ | refine xF ?_ | refine xG ?_) | go_skip | go_guarded | (go_at_call 118; (with_reducible refine (HC.out).mono ?_); rintro _ w2 ⟨rfl, hG2, hk2⟩) | go_values | go_skip | go_guarded | go_step | go_upon | go_back | ((with_reducible show Oper.upon _ _ _ _ _ _); go_simp) | (dsimp only)))
      go_ret
      exact ⟨_, _, rfl, fun k h => .inl h, (lit_row w2 hG2 t.2).1.mono fun _ _ h => ⟨.inr h, by rw [h]; exact hk2.size⟩, (lit_row w2 hG2 t.2).2, hk2.alloc _⟩
  · as_aux_lemma => -- 21
      obtain ⟨t, ht⟩ : ∃ t, lessG g (xs.set (n - 1) (-(xs.getD (n - 1) 0))) (ys.set (n - 1) (-(ys.getD (n - 1) 0))) = t := ⟨_, rfl⟩
      obtain rfl : r = (t.1, [t.2]) := by rw [← hr, ← ht]; rfl
      have HA := Lib.hid (signs_n n w hG vx xs hX hxn hn1 hn2 hx)
      have hxs := set_isL (k := n - 1) hx (top_isL hx hxn hn1).neg
      have hys := set_isL (k := n - 1) hy (top_isL hy hyn hn1).neg
      have hxl : (xs.set (n - 1) (-(xs.getD (n - 1) 0))).length = n := by rw [List.length_set, hxn]
      have hyl : (ys.set (n - 1) (-(ys.getD (n - 1) 0))).length = n := by rw [List.length_set, hyn]
      obtain ⟨xs', hxs'⟩ : ∃ l, xs.set (n - 1) (-(xs.getD (n - 1) 0)) = l := ⟨_, rfl⟩
      obtain ⟨ys', hys'⟩ : ∃ l, ys.set (n - 1) (-(ys.getD (n - 1) 0)) = l := ⟨_, rfl⟩
      rw [hxs'] at HA hxs hxl ht
      rw [hys'] at hys hyl ht
      have HB := Lib.hid (fun (w1 : World) (v1 : Value) (hb1 : Below w.heap.size w w1) (hG1 : GR (fun k => X k ∨ v1.ownBlock = some k) base w1 gb g) => hys' ▸ signs_n n w1 hG1 vy ys ((hY.kept (Kept.ofBelow hb1)).mono fun _ _ h => .inl h) hyn hn1 hn2 hy)
      have HC := Lib.hid (fun (w2 : World) (Z : Nat → Prop) (v1 v2 : Value) (hs2 : w.heap.size ≤ w2.heap.size) (hG2 : GR Z base w2 gb g) (h1 : SlX Z w2 v1 xs') (h2 : SlX Z w2 v2 ys') => less_n n w2 hG2 (Nat.le_trans hba hs2) v1 v2 xs' ys' h1 h2 hxl hyl hn2 hn hxs hys hI t ht)
      clear hxs hys hxl hyl hxs' hys'
      clear hX hY hG hx hy hI hr ht hn hba L1 Ln hxn hyn
      go_enter Tryz.func80, Tryz.ntmps80
      (repeat (first | (with_reducible first | refine xA ?_ | refine xB ?_ | refine xC ?_ | refine xD ?_ | refine xH ?_ | refine xI rfl ?_ | refine xE ?_ | refine xF ?_ | refine xG ?_) | go_skip | go_guarded | (go_at_call 119; (with_reducible refine (HA.out).mono ?_); rintro _ w1 ⟨v1, rfl, hS1, hG1, hb1⟩; clear HA) | (go_at_call 119; (with_reducible refine (HB.out w1 v1 hb1 hG1).mono ?_); rintro _ w2 ⟨v2, rfl, hS2, hG2, hb2⟩) | (go_at_call 118; (with_reducible refine (HC.out w2 _ v1 v2 (Nat.le_trans hb1.size hb2.size) hG2 ((hS1.kept (Kept.ofBelow hb2)).mono fun _ _ h => .inl (.inr h.1)) (hS2.mono fun _ _ h => .inr h.1)).mono ?_); rintro _ w3 ⟨rfl, hG3, hk3⟩) | go_values | go_skip | go_guarded | go_step | go_upon | go_back | ((with_reducible show Oper.upon _ _ _ _ _ _); go_simp) | (dsimp only)))
      go_ret
      exact ⟨_, _, rfl, fun k h => .inl (.inl (.inl h)), (lit_row w3 hG3 t.2).1.mono fun _ _ h => ⟨.inr h, by rw [h]; exact Nat.le_trans hb1.size (Nat.le_trans hb2.size hk3.size)⟩, (lit_row w3 hG3 t.2).2, (((Kept.ofBelow hb1).trans (Kept.ofBelow hb2)).trans (hk3.mono fun k _ h => .inl (.inl h))).alloc _⟩
end Go.Proofs.YtmaogkgjiplckaaGreat
namespace Go.Proofs.YtmaogkgjiplckaaGreat
open Go.RowKit
theorem applyC_any {X : Nat → Prop} {base gb : Nat} {g : G} {fr : List Int} {s : Nat → Bool} (op : Int) (w : World) (hG : GR X base w gb g) (hba : base ≤ w.heap.size) (vx vy : Value) (xs ys : List Int) (n : Nat) (hX : SlX X w vx xs) (hY : SlX X w vy ys) (hxn : xs.length = n) (hyn : ys.length = n) (hn1 : 1 ≤ n) (hn2 : n ≤ 64) (hn : g.n + 40000 ≤ 1048576) (hx : ∀ x ∈ xs, isL g.n x) (hy : ∀ y ∈ ys, isL g.n y) (hI : GI g fr s) (h8 : 8 ≤ op) (h21 : op ≤ 21) (r : G × List Int) (hr : applyG op g n xs ys = r)
    (b0 b1 b2 b3 : Nat) (c0 : w.cell? ⟨b0, 0, none⟩ = some (.pointer (some ⟨gb, 0, none⟩))) (c1 : w.cell? ⟨b1, 0, none⟩ = some (.int .i64 op)) (c2 : w.cell? ⟨b2, 0, none⟩ = some vx) (c3 : w.cell? ⟨b3, 0, none⟩ = some vy) :
    Calls Tryz.prog 79 #[.pointer (some ⟨b0, 0, none⟩), .pointer (some ⟨b1, 0, none⟩), .pointer (some ⟨b2, 0, none⟩), .pointer (some ⟨b3, 0, none⟩)] w (WordY X base gb w r) := by
  obtain ⟨ax, cx, rfl⟩ := hX.shape
  obtain ⟨ay, cy, rfl⟩ := hY.shape
  have H := Lib.hid (apply_any op w hG hba _ _ xs ys n hX hY hxn hyn hn1 hn2 hn hx hy hI h8 h21 r hr)
  clear hG hba hX hY hxn hyn hn hx hy hI hr h8 h21
  go_enter Tryz.func79, Tryz.ntmps79
  (repeat (first | (with_reducible first | refine xA ?_ | refine xB ?_ | refine xC ?_ | refine xD ?_ | refine xH ?_ | refine xI rfl ?_ | refine xE ?_ | refine xF ?_ | refine xG ?_) | go_skip | go_guarded | (go_at_call 80; (with_reducible refine (H.out).mono ?_); rintro _ w1 ⟨v, Y, rfl, hXY, hS, hG, hK⟩) | go_values | go_skip | go_guarded | go_step | go_upon | go_back | ((with_reducible show Oper.upon _ _ _ _ _ _); go_simp) | (dsimp only)))
  go_ret
  exact ⟨v, Y, rfl, hXY, hS, hG, hK⟩
theorem wordY_box {X Y : Nat → Prop} {base gb : Nat} {w w1 w2 : World} {r : G × List Int} {v : Value} (hXY : ∀ k, (X k ∨ k = w.heap.size) → Y k) (hS : SlX (fun k => Y k ∧ (w.alloc (.cells #[.slice none 0 0] 31)).heap.size ≤ k) w1 v r.2)
    (hG : GR Y base w1 gb r.1) (hK : Kept (fun k => X k ∨ k = w.heap.size) (w.alloc (.cells #[.slice none 0 0] 31)) w1) (hX : ∀ k, X k → k < w.heap.size) (hg : w1.grownBy w2 (some w.heap.size)) : WordY X base gb w r (.returned v) w2 := by
  have hs : (w.alloc (.cells #[.slice none 0 0] 31)).heap.size = w.heap.size + 1 := by simp
  rw [hs] at hS
  have hk12 : Kept (fun i => i ≠ w.heap.size) w1 w2 := ⟨hg.os, hg.tape, hg.output, hg.size, fun i hi hx => hg.block i hi (fun e => hx (by injection e))⟩
  refine ⟨v, Y, rfl, fun k h => hXY k (.inl h), (hS.kept (hk12.mono fun k _ h => by show k ≠ _; have := h.2; omega)).mono fun k _ h => ⟨h.1, by have := h.2; omega⟩, hG.other hg (hXY _ (.inr rfl)), ?_⟩
  refine (((Kept.refl X w).alloc (.cells #[.slice none 0 0] 31)).trans (hK.mono fun k _ h => .inl h)).grown hg ?_
  intro g e h1 h2
  injection e with e
  omega
set_option maxRecDepth 100000 in
theorem trya_any {X : Nat → Prop} {base gb : Nat} (w : World) (b0 b1 b2 b3 : Nat) (r : G × List Int) (hX : ∀ k, X k → k < w.heap.size)
    (hC : Calls Tryz.prog 79 #[.pointer (some ⟨b0, 0, none⟩), .pointer (some ⟨b1, 0, none⟩), .pointer (some ⟨b2, 0, none⟩), .pointer (some ⟨b3, 0, none⟩)] (w.alloc (.cells #[.slice none 0 0] 31)) (WordY (fun k => X k ∨ k = w.heap.size) base gb (w.alloc (.cells #[.slice none 0 0] 31)) r)) :
    Calls Tryz.prog 78 #[.func (Fn.func 79) #[] #[.pointer (some ⟨b0, 0, none⟩), .pointer (some ⟨b1, 0, none⟩), .pointer (some ⟨b2, 0, none⟩), .pointer (some ⟨b3, 0, none⟩)]] w (WordY X base gb w r) := by
  have hmf : ∀ (fn : Fn) (first cap : Array Value) (w : World), (Instr.makeFunc fn first cap).run Tryz.prog w = .ok (.func fn first cap) w := fun _ _ _ _ => rfl
  have HC := Lib.hid hC
  have HX := Lib.hid hX
  clear hC hX
  go_enter_defers Tryz.func78, Tryz.ntmps78
  (repeat (first | (with_reducible first | refine xA ?_ | refine xB ?_ | refine xC ?_ | refine xD ?_ | refine xH ?_ | refine xI rfl ?_ | refine xE ?_ | refine xF ?_ | refine xG ?_) | go_skip | go_guarded | (go_at_call 79; (with_reducible refine (HC.out).mono ?_); rintro _ w1 ⟨v, Y, rfl, hXY, hS, hG, hK⟩; (obtain ⟨a, c, rfl⟩ := hS.shape); have hh := hK.at (heap_alloc_new w _) (.inr rfl); have hc0 := cell_of_row w1 w.heap.size 0 _ _ _ hh; have hz0 := frozen_of_row w1 w.heap.size 0 _ _ hh; simp at hc0) | go_values | go_skip | go_guarded | go_step | go_upon | go_back | ((with_reducible show Oper.upon _ _ _ _ _ _); go_simp) | (dsimp only)))
  refine door_w (q := w.heap.size) (a := a) (n := r.2.length) (c := c) rfl (by simp [World.cell?, heap_setCell_same _ _ _ _ _ _ hh]) ?_
  exact wordY_box hXY hS hG hK HX.out ⟨rfl, rfl, rfl, by simp, fun k hk hn => heap_setCell_other _ _ k _ (fun e => hn (by rw [e]))⟩
theorem WordY.from {X : Nat → Prop} {base gb : Nat} {w w2 w' : World} {r : G × List Int} {e : Ending} (h : WordY X base gb w2 r e w') (hk : Kept X w w2) : WordY X base gb w r e w' := by
  obtain ⟨v, Y, h1, h2, h3, h4, h5⟩ := h
  exact ⟨v, Y, h1, h2, h3.mono fun k _ h => ⟨h.1, Nat.le_trans hk.size h.2⟩, h4, hk.trans h5⟩
theorem trya2 {X : Nat → Prop} {base gb : Nat} {g : G} {fr : List Int} {s : Nat → Bool} (op : Int) (w : World) (hG : GR X base w gb g) (hba : base ≤ w.heap.size) (vx vy : Value) (xs ys : List Int) (n : Nat) (hX : SlX X w vx xs) (hY : SlX X w vy ys) (hxn : xs.length = n) (hyn : ys.length = n) (hn1 : 1 ≤ n) (hn2 : n ≤ 64) (hn : g.n + 40000 ≤ 1048576) (hx : ∀ x ∈ xs, isL g.n x) (hy : ∀ y ∈ ys, isL g.n y) (hI : GI g fr s) (h8 : 8 ≤ op) (h21 : op ≤ 21)
    (b0 b1 b2 b3 : Nat) (c0 : w.cell? ⟨b0, 0, none⟩ = some (.pointer (some ⟨gb, 0, none⟩))) (c1 : w.cell? ⟨b1, 0, none⟩ = some (.int .i64 op)) (c2 : w.cell? ⟨b2, 0, none⟩ = some vx) (c3 : w.cell? ⟨b3, 0, none⟩ = some vy) :
    Calls Tryz.prog 78 #[.func (Fn.func 79) #[] #[.pointer (some ⟨b0, 0, none⟩), .pointer (some ⟨b1, 0, none⟩), .pointer (some ⟨b2, 0, none⟩), .pointer (some ⟨b3, 0, none⟩)]] w (WordY X base gb w (applyG op g n xs ys)) := by
  have hk := (Kept.refl X w).alloc (.cells #[.slice none 0 0] 31)
  exact trya_any w b0 b1 b2 b3 _ hG.xb (applyC_any (fr := fr) (s := s) op _ (hG.owned (w' := w.alloc (.cells #[.slice none 0 0] 31)) ⟨rfl, rfl, rfl, by simp, fun k hk _ => Below.heap_alloc w _ k hk⟩ (Nat.le_refl _) (by simp)) (by simp; omega) vx vy xs ys n ((hX.kept hk).mono fun _ _ h => .inl h) ((hY.kept hk).mono fun _ _ h => .inl h) hxn hyn hn1 hn2 hn hx hy hI h8 h21 _ rfl b0 b1 b2 b3 (cell_al _ _ c0) (cell_al _ _ c1) (cell_al _ _ c2) (cell_al _ _ c3))
theorem wordB_of {m n : Nat} {l : List Int} (h1 : 1 ≤ n) (h2 : n ≤ 64) (hl : l.length = n) (hx : ∀ x ∈ l, isL m x) : wordB m n l = true := by
  unfold wordB
  rw [allL_iff.2 hx, hl]
  simp
  omega
set_option maxRecDepth 100000 in
set_option maxHeartbeats 1000000 in
theorem Apply_op {X : Nat → Prop} {base gb : Nat} {g : G} {fr : List Int} {s : Nat → Bool} (op : Int) (w : World) (hG : GR X base w gb g) (hba : base ≤ w.heap.size) (vx vy : Value) (xs ys : List Int) (n : Nat) (hX : SlX X w vx xs) (hY : SlX X w vy ys) (hxn : xs.length = n) (hyn : ys.length = n) (hn1 : 1 ≤ n) (hn2 : n ≤ 64) (hn : g.n + 40000 ≤ 1048576) (hx : ∀ x ∈ xs, isL g.n x) (hy : ∀ y ∈ ys, isL g.n y) (hI : GI g fr s) (h8 : 8 ≤ op) (h21 : op ≤ 21) :
    Calls Tryz.prog 63 #[.pointer (some ⟨gb, 0, none⟩), .int .i64 op, vx, vy] w (WordY X base gb w (applyG op g n xs ys)) := by
  have hmf : ∀ (fn : Fn) (first cap : Array Value) (w : World), (Instr.makeFunc fn first cap).run Tryz.prog w = .ok (.func fn first cap) w := fun _ _ _ _ => rfl
  obtain ⟨ax, cx, rfl⟩ := hX.shape
  obtain ⟨ay, cy, rfl⟩ := hY.shape
  have hB := box4_new w gb op (.slice ax xs.length cx) (.slice ay ys.length cy) 68 3 31 31
  have hG4 := (((hG.alloc (.cells #[.pointer (some ⟨gb, 0, none⟩)] 68)).alloc (.cells #[.int .i64 op] 3)).alloc (.cells #[.slice ax xs.length cx] 31)).alloc (.cells #[.slice ay ys.length cy] 31)
  have HK4 := Lib.hid (show Kept X w ((((w.alloc (.cells #[.pointer (some ⟨gb, 0, none⟩)] 68)).alloc (.cells #[.int .i64 op] 3)).alloc (.cells #[.slice ax xs.length cx] 31)).alloc (.cells #[.slice ay ys.length cy] 31)) from ((((Kept.refl X w).alloc _).alloc _).alloc _).alloc _)
  have hs4 : (((((w.alloc (.cells #[.pointer (some ⟨gb, 0, none⟩)] 68)).alloc (.cells #[.int .i64 op] 3)).alloc (.cells #[.slice ax xs.length cx] 31)).alloc (.cells #[.slice ay ys.length cy] 31))).heap.size = w.heap.size + 1 + 1 + 1 + 1 := by simp
  have hq1 : Hid (wordB g.n xs.length xs = true) := Lib.hid (by rw [hxn]; exact wordB_of hn1 hn2 hxn hx)
  have hq2 : Hid ([xs, ys].all (wordB g.n xs.length) = true) := Lib.hid (by
    rw [hxn, List.all_cons, List.all_cons, List.all_nil, wordB_of hn1 hn2 hxn hx, wordB_of hn1 hn2 hyn hy]; rfl)
  have hi := words_one ((((w.alloc (.cells #[.pointer (some ⟨gb, 0, none⟩)] 68)).alloc (.cells #[.int .i64 op] 3)).alloc (.cells #[.slice ax xs.length cx] 31)).alloc (.cells #[.slice ay ys.length cy] 31)) hG4 (.slice ax xs.length cx) xs (hX.kept HK4.out) (by omega) true hq1
  rw [hs4] at hi
  have HS4 := Lib.hid hs4
  have HI := Lib.hid hi
  have hB4 := hB
  obtain ⟨c0, c1, c2, c3⟩ := hB
  have HX := Lib.hid hX
  have HY := Lib.hid hY
  have Hxl := Lib.hid (show xs.length ≤ 1000000 by omega)
  have Hyl := Lib.hid (show ys.length ≤ 1000000 by omega)
  have Hba := Lib.hid hba
  have Hn := Lib.hid hn
  have HXN := Lib.hid hxn
  have HYN := Lib.hid hyn
  have Hx := Lib.hid hx
  have Hy := Lib.hid hy
  have HII := Lib.hid hI
  have o1 : ¬ op < 5 := by omega
  have o2 : ¬ op > 21 := by omega
  have o3 : (op == 6) = false := by simp; omega
  have o4 : (op == 7) = false := by simp; omega
  have o5 : (op == 5) = false := by simp; omega
  clear hX hY hi hG hG4 hs4 hba hn hxn hyn hx hy hI
  go_enter Tryz.func63, Tryz.ntmps63
  (repeat (first | (with_reducible first | refine xA ?_ | refine xB ?_ | refine xC ?_ | refine xD ?_ | refine xH ?_ | refine xI rfl ?_ | refine xE ?_ | refine xF ?_ | refine xG ?_) | go_skip | go_guarded | (go_at_call 76; (with_reducible refine (HI.out).mono ?_); rintro _ w1 ⟨rfl, hG1, hb0⟩; have hb1 : Below (((((w.alloc (.cells #[.pointer (some ⟨gb, 0, none⟩)] 68)).alloc (.cells #[.int .i64 op] 3)).alloc (.cells #[.slice ax xs.length cx] 31)).alloc (.cells #[.slice ay ys.length cy] 31))).heap.size ((((w.alloc (.cells #[.pointer (some ⟨gb, 0, none⟩)] 68)).alloc (.cells #[.int .i64 op] 3)).alloc (.cells #[.slice ax xs.length cx] 31)).alloc (.cells #[.slice ay ys.length cy] 31)) w1 := (by (rw [HS4.out]); exact hb0); clear hb0; have hB1 := hB4.kept hb1; obtain ⟨d0, d1, d2, d3⟩ := hB1; have hK1 := HK4.out.trans (Kept.ofBelow hb1); clear c0 c1 c2 c3 hb1; have hX1 := HX.out.kept hK1; have hY1 := HY.out.kept hK1) | (go_at_call 76; (with_reducible refine (words_two w1 hG1 _ _ xs ys hX1 hY1 Hxl.out Hyl.out _ hq2).mono ?_); rintro _ w2 ⟨rfl, hG2, hb2⟩) | (have e0 := cell_keep hb2 d0; have e1 := cell_keep hb2 d1; have e2 := cell_keep hb2 d2; have e3 := cell_keep hb2 d3; have hk2 := Kept.ofBelow (X := X) hb2; go_at_call 78; (with_reducible refine (trya2 op w2 hG2 (Nat.le_trans Hba.out (hK1.trans hk2).size) _ _ xs ys n (hX1.kept hk2) (hY1.kept hk2) HXN.out HYN.out hn1 hn2 Hn.out Hx.out Hy.out HII.out h8 h21 _ _ _ _ e0 e1 e2 e3).mono ?_); rintro _ w3 ⟨v, Y, rfl, hr⟩) | go_values | go_skip | go_guarded | go_step | go_upon | go_back | ((with_reducible show Oper.upon _ _ _ _ _ _); go_simp) | (dsimp only)))
  go_ret
  exact (show WordY X base gb w2 _ _ w3 from ⟨v, Y, rfl, hr⟩).from (hK1.trans hk2)
set_option maxRecDepth 100000 in
set_option maxHeartbeats 1000000 in
theorem Apply_not {X : Nat → Prop} {base gb : Nat} {g : G} (w : World) (hG : GR X base w gb g) (vx vy : Value) (xs ys : List Int) (n : Nat) (hX : SlX X w vx xs) (hY : SlX X w vy ys) (hxn : xs.length = n) (hn1 : 1 ≤ n) (hn2 : n ≤ 64) (hx : ∀ x ∈ xs, isL g.n x) :
    Calls Tryz.prog 63 #[.pointer (some ⟨gb, 0, none⟩), .int .i64 5, vx, vy] w (WordY X base gb w (g, notL xs)) := by
  obtain ⟨op, hop⟩ : ∃ op : Int, op = 5 := ⟨_, rfl⟩
  rw [← hop]
  obtain ⟨ax, cx, rfl⟩ := hX.shape
  obtain ⟨ay, cy, rfl⟩ := hY.shape
  have hB := box4_new w gb op (.slice ax xs.length cx) (.slice ay ys.length cy) 68 3 31 31
  have hG4 := (((hG.alloc (.cells #[.pointer (some ⟨gb, 0, none⟩)] 68)).alloc (.cells #[.int .i64 op] 3)).alloc (.cells #[.slice ax xs.length cx] 31)).alloc (.cells #[.slice ay ys.length cy] 31)
  have HK4 := Lib.hid (show Kept X w ((((w.alloc (.cells #[.pointer (some ⟨gb, 0, none⟩)] 68)).alloc (.cells #[.int .i64 op] 3)).alloc (.cells #[.slice ax xs.length cx] 31)).alloc (.cells #[.slice ay ys.length cy] 31)) from ((((Kept.refl X w).alloc _).alloc _).alloc _).alloc _)
  have hs4 : (((((w.alloc (.cells #[.pointer (some ⟨gb, 0, none⟩)] 68)).alloc (.cells #[.int .i64 op] 3)).alloc (.cells #[.slice ax xs.length cx] 31)).alloc (.cells #[.slice ay ys.length cy] 31))).heap.size = w.heap.size + 1 + 1 + 1 + 1 := by simp
  have hq1 : Hid (wordB g.n xs.length xs = true) := Lib.hid (by rw [hxn]; exact wordB_of hn1 hn2 hxn hx)
  have hi := words_one ((((w.alloc (.cells #[.pointer (some ⟨gb, 0, none⟩)] 68)).alloc (.cells #[.int .i64 op] 3)).alloc (.cells #[.slice ax xs.length cx] 31)).alloc (.cells #[.slice ay ys.length cy] 31)) hG4 (.slice ax xs.length cx) xs (hX.kept HK4.out) (by omega) true hq1
  rw [hs4] at hi
  have HS4 := Lib.hid hs4
  have HI := Lib.hid hi
  have hB4 := hB
  obtain ⟨c0, c1, c2, c3⟩ := hB
  have HX := Lib.hid hX
  have HY := Lib.hid hY
  have HXN := Lib.hid hxn
  have HNM := Lib.hid (show n ≤ 1000000 by omega)
  have HXB := Lib.hid (isL_b hx hG.n1)
  have o1 : ¬ op < 5 := by omega
  have o2 : ¬ op > 21 := by omega
  have o3 : (op == 6) = false := by simp; omega
  have o4 : (op == 7) = false := by simp; omega
  have o5 : (op == 5) = true := by simp; omega
  clear hX hY hi hG hG4 hs4 hxn hx hop
  go_enter Tryz.func63, Tryz.ntmps63
  (repeat (first | (with_reducible first | refine xA ?_ | refine xB ?_ | refine xC ?_ | refine xD ?_ | refine xH ?_ | refine xI rfl ?_ | refine xE ?_ | refine xF ?_ | refine xG ?_) | go_skip | go_guarded | (go_at_call 76; (with_reducible refine (HI.out).mono ?_); rintro _ w1 ⟨rfl, hG1, hb0⟩; have hb1 : Below (((((w.alloc (.cells #[.pointer (some ⟨gb, 0, none⟩)] 68)).alloc (.cells #[.int .i64 op] 3)).alloc (.cells #[.slice ax xs.length cx] 31)).alloc (.cells #[.slice ay ys.length cy] 31))).heap.size ((((w.alloc (.cells #[.pointer (some ⟨gb, 0, none⟩)] 68)).alloc (.cells #[.int .i64 op] 3)).alloc (.cells #[.slice ax xs.length cx] 31)).alloc (.cells #[.slice ay ys.length cy] 31)) w1 := (by (rw [HS4.out]); exact hb0); clear hb0; have hB1 := hB4.kept hb1; obtain ⟨d0, d1, d2, d3⟩ := hB1; have hK1 := HK4.out.trans (Kept.ofBelow hb1); clear c0 c1 c2 c3 hb1; have hX1 := HX.out.kept hK1; have hY1 := HY.out.kept hK1) | (go_at_call 77; (with_reducible refine (turned_n n w1 _ xs hX1 HXN.out HNM.out HXB.out).mono ?_); rintro _ w2 ⟨rfl, hO2, hb2⟩) | go_values | go_skip | go_guarded | go_step | go_upon | go_back | ((with_reducible show Oper.upon _ _ _ _ _ _); go_simp) | (dsimp only)))
  go_ret
  exact ⟨_, _, rfl, fun k h => .inl h, hO2.slX (X := fun k => (X k ∨ k = w1.heap.size) ∧ w.heap.size ≤ k) ⟨.inr rfl, hK1.size⟩, hG1.owned (below_own hb2) (Nat.le_refl _) hO2.lt, hK1.trans (Kept.ofBelow hb2)⟩
end Go.Proofs.YtmaogkgjiplckaaGreat
namespace Go.Proofs.YtmaogkgjiplckaaGreat
open Go.RowKit
end Go.Proofs.YtmaogkgjiplckaaGreat
namespace Go.Proofs.YtmaogkgjiplckaaGreat
open Go.RowKit
def resG (op : Int) (g : G) (n : Nat) (xs ys : List Int) : G × List Int := if op = 5 then (g, notL xs) else applyG op g n xs ys
def okOp (op : Int) : Prop := op = 5 ∨ (8 ≤ op ∧ op ≤ 21)
theorem resG_ok {op : Int} {g : G} {fr : List Int} {s : Nat → Bool} {n : Nat} {xs ys : List Int} (hI : GI g fr s) (hx : ∀ x ∈ xs, isL g.n x) (hy : ∀ y ∈ ys, isL g.n y) (hxn : xs.length = n) (hyn : ys.length = n) (hn1 : 1 ≤ n) (hn : n ≤ 64) (ho : okOp op) : VAns g fr s (if 19 ≤ op then 1 else n) (resG op g n xs ys) (opI op n (num s xs) (num s ys)) := by
  rcases ho with rfl | ⟨h8, h21⟩
  · have h := num_not (s := s) hx
    rw [hxn] at h
    have hX := num_lt s xs
    rw [hxn] at hX
    exact ⟨s, hI, Step.refl _ _, by show g.n ≤ _; omega, notL_isL hx, by show (notL xs).length = _; rw [notL_len, hxn]; rfl, o_5 hX (by show num s (notL xs) = _; rw [Nat.mod_eq_of_lt hX]; omega)⟩
  · have e : resG op g n xs ys = applyG op g n xs ys := by unfold resG; rw [if_neg (by omega)]
    rw [e]
    exact applyG_ok hI hx hy hxn hyn hn1 hn h8 h21
theorem Apply_res {X : Nat → Prop} {base gb : Nat} {g : G} {fr : List Int} {s : Nat → Bool} (op : Int) (w : World) (hG : GR X base w gb g) (hba : base ≤ w.heap.size) (vx vy : Value) (xs ys : List Int) (n : Nat) (hX : SlX X w vx xs) (hY : SlX X w vy ys) (hxn : xs.length = n) (hyn : ys.length = n) (hn1 : 1 ≤ n) (hn2 : n ≤ 64) (hn : g.n + 40000 ≤ 1048576) (hx : ∀ x ∈ xs, isL g.n x) (hy : ∀ y ∈ ys, isL g.n y) (hI : GI g fr s) (ho : okOp op) :
    Calls Tryz.prog 63 #[.pointer (some ⟨gb, 0, none⟩), .int .i64 op, vx, vy] w (WordY X base gb w (resG op g n xs ys)) := by
  rcases ho with rfl | ⟨h8, h21⟩
  · exact Apply_not w hG vx vy xs ys n hX hY hxn hn1 hn2 hx
  · have e : resG op g n xs ys = applyG op g n xs ys := by unfold resG; rw [if_neg (by omega)]
    rw [e]
    exact Apply_op op w hG hba vx vy xs ys n hX hY hxn hyn hn1 hn2 hn hx hy hI h8 h21
theorem slx_shape {X : Nat → Prop} {w : World} {v : Value} {l : List Int} {m : Nat} (h : SlX X w v l) (hm : l.length = m) : ∃ a c, v = .slice a m c := by
  obtain ⟨a, c, e⟩ := h.shape
  exact ⟨a, c, by rw [e, hm]⟩
end Go.Proofs.YtmaogkgjiplckaaGreat

