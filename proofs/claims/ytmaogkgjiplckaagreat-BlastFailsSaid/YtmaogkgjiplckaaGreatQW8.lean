import Derived.Test.YtmaogkgjiplckaaGreatQW7
import Derived.Laws.EntriesVeiled
set_option linter.unusedVariables false
set_option linter.unusedSimpArgs false
namespace Go.Proofs.YtmaogkgjiplckaaGreat
open Go.RowKit
section
variable {g : G} {fr : List Int} {s : Nat → Bool} {n : Nat} {xs ys : List Int}
theorem shift_small (hn : n ≤ 64) : (3 * n + 1) * n + 3 * n ≤ 13000 := by
  have := Nat.mul_le_mul (show 3 * n + 1 ≤ 193 by omega) hn
  omega
theorem applyG_small {op : Int} (hI : GI g fr s) (hx : ∀ x ∈ xs, isL g.n x) (hy : ∀ y ∈ ys, isL g.n y) (hxn : xs.length = n) (hyn : ys.length = n) (hn1 : 1 ≤ n) (hn : n ≤ 64) (h8 : 8 ≤ op) (h21 : op ≤ 21) (hs : op < 10 ∨ 12 < op ∨ n ≤ 8) : (applyG op g n xs ys).1.n ≤ g.n + 13000 := by
  have hl := hxn.trans hyn.symm
  have hz := constL_isL (n := n) (x := 0) hI.pos
  have hsz := shift_small hn
  have hr : ∀ a ∈ xs.reverse, isL g.n a := fun a ha => hx a (List.mem_reverse.1 ha)
  have hdiv : n ≤ 8 → 8 * (n + 1) * n ≤ 13000 := fun h => Nat.le_trans (Nat.mul_le_mul (Nat.mul_le_mul_left 8 (show n + 1 ≤ 9 by omega)) h) (by decide)
  have hmul : n ≤ 8 → 6 * n * n ≤ 13000 := fun h => Nat.le_trans (Nat.mul_le_mul (Nat.mul_le_mul_left 6 h) h) (by decide)
  have hc : op = 8 ∨ op = 9 ∨ op = 10 ∨ op = 11 ∨ op = 12 ∨ op = 13 ∨ op = 14 ∨ op = 15 ∨ op = 16 ∨ op = 17 ∨ op = 18 ∨ op = 19 ∨ op = 20 ∨ op = 21 := by omega
  rcases hc with rfl | rfl | rfl | rfl | rfl | rfl | rfl | rfl | rfl | rfl | rfl | rfl | rfl | rfl
  · obtain ⟨_, _, _, h, _⟩ := sumN_ok hI (isL_one hI).neg hx hy hl
    show (sumG g xs ys (-1)).1.n ≤ _
    omega
  · obtain ⟨_, _, _, h, _⟩ := sub_ok hI hx hy hl
    show (sumG g xs (notL ys) 1).1.n ≤ _
    omega
  · obtain ⟨_, _, _, h, _⟩ := prod_ok ys 0 g s (constL n 0) hI hx hz hy (by rw [constL_len, hxn])
    rw [hxn, hyn] at h
    have := hmul (by omega)
    show (prodG g (constL n 0) xs 0 ys).1.n ≤ _
    omega
  · obtain ⟨_, _, _, h, _⟩ := div_ok xs.reverse g s (constL n 0) [] hI hr hz hy (by simp) (by rw [constL_len, hyn])
    rw [List.length_reverse, hxn, hyn] at h
    have := hdiv (by omega)
    show (divG g xs.reverse (constL n 0) ys []).1.n ≤ _
    omega
  · obtain ⟨_, _, _, h, _⟩ := div_ok xs.reverse g s (constL n 0) [] hI hr hz hy (by simp) (by rw [constL_len, hyn])
    rw [List.length_reverse, hxn, hyn] at h
    have := hdiv (by omega)
    show (divG g xs.reverse (constL n 0) ys []).1.n ≤ _
    omega
  · obtain ⟨_, _, _, h, _⟩ := andN_ok hI hx hy hl
    show (zipG both g xs ys).1.n ≤ _
    omega
  · obtain ⟨_, _, _, h, _⟩ := orN_ok hI hx hy hl
    show (zipG either g xs ys).1.n ≤ _
    omega
  · obtain ⟨_, _, _, h, _⟩ := xorN_ok hI hx hy hl
    show (zipG odd g xs ys).1.n ≤ _
    omega
  · obtain ⟨_, _, _, h, _⟩ := shift_ok (fr := fr) (i := -1) hn ys 0 g s xs (-1) hI hxn hx hy (isL_one hI).neg (isL_one hI).neg
    rw [hyn] at h
    show (shiftG g xs ys 0 (-1) (-1)).1.n ≤ _
    omega
  · obtain ⟨_, _, _, h, _⟩ := shift_ok (fr := fr) (i := -1) hn ys 0 g s xs.reverse (-1) hI (by rw [List.length_reverse, hxn]) hr hy (isL_one hI).neg (isL_one hI).neg
    rw [hyn] at h
    show (shiftG g xs.reverse ys 0 (-1) (-1)).1.n ≤ _
    omega
  · obtain ⟨_, _, _, h, _⟩ := shift_ok (fr := fr) (i := xs.getD (n - 1) 0) hn ys 0 g s xs.reverse (-1) hI (by rw [List.length_reverse, hxn]) hr hy (isL_one hI).neg (top_isL hx hxn hn1)
    rw [hyn] at h
    show (shiftG g xs.reverse ys 0 (-1) (xs.getD (n - 1) 0)).1.n ≤ _
    omega
  · obtain ⟨_, _, _, h, _⟩ := same_ok xs ys g s 1 hI (isL_one hI) hx hy hl
    show (sameG g 1 xs ys).1.n ≤ _
    omega
  · obtain ⟨_, _, _, h, _⟩ := less_ok hI hx hy hl
    show (lessG g xs ys).1.n ≤ _
    omega
  · obtain ⟨_, _, _, h, _⟩ := less_ok hI (set_isL (k := n - 1) hx (top_isL hx hxn hn1).neg) (set_isL (k := n - 1) hy (top_isL hy hyn hn1).neg) (by rw [List.length_set, List.length_set]; exact hl)
    rw [List.length_set] at h
    show (lessG g (xs.set (n - 1) (-(xs.getD (n - 1) 0))) (ys.set (n - 1) (-(ys.getD (n - 1) 0)))).1.n ≤ _
    omega
end
def heavyD (d : Nd) : Prop := 10 ≤ d.op ∧ d.op ≤ 12 ∧ d.w = 64
instance (d : Nd) : Decidable (heavyD d) := by unfold heavyD; exact inferInstance
def costD (d : Nd) : Nat := if heavyD d then 40000 else 13000
structure WInv (g : G) (s : Nat → Bool) (l : List Int) (w v : Nat) : Prop where
  len : l.length = w
  isl : ∀ x ∈ l, isL g.n x
  num : num s l = v
theorem WInv.step {g g' : G} {s s' : Nat → Bool} {l : List Int} {w v : Nat} (h : WInv g s l w v) (k : Step g s g' s') : WInv g' s' l w v :=
  ⟨h.len, fun x hx => k.isL (h.isl x hx), (numS k h.isl).trans h.num⟩
structure BI (I R : Nat → Nat) (ls : List Nd) (k : Nat) (b : BS) (s : Nat → Bool) : Prop where
  gi : GI b.g (frB I R b) s
  len : b.ws.length = k
  il : b.inp.length = 16
  rl : b.reg.length = 8
  ws : ∀ j : Nat, j < k → WInv b.g s (b.at j) (wAt ls j).toNat ((vK I R ls k).getD j 0)
  inp : ∀ i, i < 16 → b.inp.getD i [] = [] ∨ WInv b.g s (b.inp.getD i []) 8 (I i)
  reg : ∀ i, i < 8 → b.reg.getD i [] = [] ∨ WInv b.g s (b.reg.getD i []) 64 (R i)
theorem bi_start (I R : Nat → Nat) (ls : List Nd) : BI I R ls 0 bs0 (fun _ => true) := by
  refine ⟨?_, rfl, rfl, rfl, fun j h => absurd h (by omega), fun i hi => .inl ?_, fun i hi => .inl ?_⟩
  · have e : frB I R bs0 = [] := rfl
    rw [e]; exact newG_ok
  · show (List.replicate 16 ([] : List Int)).getD i [] = []
    rw [List.getD_eq_getElem?_getD, List.getElem?_replicate, if_pos hi]; rfl
  · show (List.replicate 8 ([] : List Int)).getD i [] = []
    rw [List.getD_eq_getElem?_getD, List.getElem?_replicate, if_pos hi]; rfl
theorem at_push (r : BS × List Int) {k : Nat} (hl : r.1.ws.length = k) (j : Nat) (hj : j ≤ k) : (BS.push r).at j = if j = k then r.2 else r.1.at j := by
  unfold BS.at BS.push
  simp only [Int.toNat_natCast]
  rw [List.getD_eq_getElem?_getD, List.getElem?_append, hl]
  split
  · rw [if_neg (by omega), List.getD_eq_getElem?_getD]
  · rw [if_pos (by omega), show j - k = 0 by omega]; rfl
structure StepOk (I R : Nat → Nat) (ls : List Nd) (k : Nat) (b : BS) (s : Nat → Bool) (d : Nd) (r : BS × List Int) (s' : Nat → Bool) : Prop where
  ws : r.1.ws = b.ws
  gi : GI r.1.g (frB I R r.1) s'
  st : Step b.g s r.1.g s'
  il : r.1.inp.length = 16
  rl : r.1.reg.length = 8
  inp : ∀ i, i < 16 → r.1.inp.getD i [] = [] ∨ WInv r.1.g s' (r.1.inp.getD i []) 8 (I i)
  reg : ∀ i, i < 8 → r.1.reg.getD i [] = [] ∨ WInv r.1.g s' (r.1.reg.getD i []) 64 (R i)
  wd : WInv r.1.g s' r.2 d.w.toNat (valD I R ls (vK I R ls k) d)
  n : r.1.g.n ≤ b.g.n + costD d
theorem StepOk.push {I R : Nat → Nat} {ls : List Nd} {k : Nat} {b : BS} {s s' : Nat → Bool} {d : Nd} {r : BS × List Int} (h : StepOk I R ls k b s d r s') (hB : BI I R ls k b s) (hd : ls[k]? = some d) : BI I R ls (k + 1) (.push r) s' := by
  have hkl : k < ls.length := by
    rcases Nat.lt_or_ge k ls.length with h1 | h1
    · exact h1
    · rw [List.getElem?_eq_none h1] at hd; cases hd
  have hvl := vK_len (I := I) (R := R) (ls := ls) k (by omega)
  have hrl : r.1.ws.length = k := by rw [h.ws]; exact hB.len
  have hv : vK I R ls (k + 1) = vK I R ls k ++ [valD I R ls (vK I R ls k) d] := by rw [vK, hd]
  refine ⟨h.gi, by show (r.1.ws ++ [r.2]).length = k + 1; rw [List.length_append, hrl]; rfl, h.il, h.rl, fun j hj => ?_, h.inp, h.reg⟩
  rw [at_push r hrl j (by omega), hv, List.getD_eq_getElem?_getD, List.getElem?_append, hvl]
  by_cases e : j = k
  · subst e
    rw [if_pos rfl, if_neg (by omega), Nat.sub_self, wAt_get hd]
    exact h.wd
  · rw [if_neg e, if_pos (by omega), ← List.getD_eq_getElem?_getD]
    have := (hB.ws j (by omega)).step h.st
    have ea : r.1.at j = b.at j := by unfold BS.at; rw [h.ws]
    rw [ea]
    exact this
theorem bv_app0 (l m : List Bool) : bv (l ++ m) = bv l + 2 ^ l.length * bv m := by
  induction l with
  | nil => simp [bv]
  | cons a l ih => rw [List.cons_append, bv, ih, bv, List.length_cons, Nat.pow_succ, Nat.mul_add, Nat.mul_comm (2 ^ l.length) 2, Nat.mul_assoc]; omega
theorem constL_num0 {s : Nat → Bool} (h : s 1 = true) (n x : Nat) : num s (constL n x) = x % 2 ^ n := by
  unfold num
  rw [constL_lit h, bv_bits]
theorem getD_set_self {l : List (List Int)} {i : Nat} (v : List Int) (hi : i < l.length) : (l.set i v).getD i [] = v := by
  rw [List.getD_eq_getElem?_getD, List.getElem?_set_self hi]; rfl
theorem getD_set_ne {l : List (List Int)} {i j : Nat} (v : List Int) (hi : i ≠ j) : (l.set i v).getD j [] = l.getD j [] := by
  rw [List.getD_eq_getElem?_getD, List.getElem?_set_ne hi, ← List.getD_eq_getElem?_getD]
theorem step_gate {I R : Nat → Nat} {ls : List Nd} {k : Nat} {b : BS} {s s' : Nat → Bool} {d : Nd} {g' : G} {l : List Int} (hB : BI I R ls k b s) (hi : GI g' (frB I R b) s') (hs : Step b.g s g' s') (hw : WInv g' s' l d.w.toNat (valD I R ls (vK I R ls k) d)) (hn : g'.n ≤ b.g.n + costD d) :
    StepOk I R ls k b s d (⟨g', b.ws, b.inp, b.reg⟩, l) s' :=
  ⟨rfl, hi, hs, hB.il, hB.rl, fun i h => (hB.inp i h).imp id (fun w => w.step hs), fun i h => (hB.reg i h).imp id (fun w => w.step hs), hw, hn⟩
theorem step_same {I R : Nat → Nat} {ls : List Nd} {k : Nat} {b : BS} {s : Nat → Bool} {d : Nd} {l : List Int} (hB : BI I R ls k b s) (hw : WInv b.g s l d.w.toNat (valD I R ls (vK I R ls k) d)) : StepOk I R ls k b s d (b, l) s :=
  ⟨rfl, hB.gi, Step.refl _ _, hB.il, hB.rl, hB.inp, hB.reg, hw, Nat.le_add_right _ _⟩
theorem cost_13 (d : Nd) : 13000 ≤ costD d := by unfold costD; split <;> omega
theorem step_ok {I R : Nat → Nat} {ls : List Nd} {k : Nat} {b : BS} {s : Nat → Bool} {d : Nd} (hT : TF ls) (hB : BI I R ls k b s) (hd : ls[k]? = some d) (hI : ∀ i, I i < 256) (hR : ∀ i, R i < 18446744073709551616) : ∃ s', StepOk I R ls k b s d (bword b d) s' := by
  have hkl : k < ls.length := by
    rcases Nat.lt_or_ge k ls.length with h1 | h1
    · exact h1
    · rw [List.getElem?_eq_none h1] at hd; cases hd
  have hc13 := cost_13 d
  have wd : ∀ a : Nat, a < k → wAt ls a = 1 ∨ wAt ls a = 8 ∨ wAt ls a = 64 := fun a ha => hT.wd a (by omega)
  have kw : ∀ {K : Int} {a : Nat}, K = a → a < k → WInv b.g s (b.at K) (wAt ls a).toNat ((vK I R ls k).getD K.toNat 0) := fun {K a} e ha => by rw [e, Int.toNat_natCast]; exact hB.ws a ha
  have hdw := (hT k d hd).wd wd
  have hres : ∀ (m : Nat), okOp d.op → (b.at d.k0).length = m → (d.op = 5 ∨ (b.at d.k1).length = m) → 1 ≤ m → m ≤ 64 → (∀ x ∈ b.at d.k0, isL b.g.n x) → (d.op = 5 ∨ ∀ x ∈ b.at d.k1, isL b.g.n x) → (d.w.toNat = if 19 ≤ d.op then 1 else m) → (wAt ls d.k0).toNat = m → num s (b.at d.k0) = (vK I R ls k).getD d.k0.toNat 0 → (d.op = 5 ∨ num s (b.at d.k1) = (vK I R ls k).getD d.k1.toNat 0) → (10 ≤ d.op ∧ d.op ≤ 12 → (m : Int) = d.w) → (m = 1 ∨ m = 8 ∨ m = 64) →
      d.op ≠ 0 → d.op ≠ 1 → d.op ≠ 2 → d.op ≠ 6 → d.op ≠ 7 → d.op ≠ 22 → ∃ s', StepOk I R ls k b s d (bword b d) s' := by
    intro m ho hl0 hl1 h1 h64 hx hy hw hwm hv0 hv1 hm hm3 n0 n1 n2 n6 n7 n22
    have e : bword b d = (⟨(resG d.op b.g m (b.at d.k0) (b.at d.k1)).1, b.ws, b.inp, b.reg⟩, (resG d.op b.g m (b.at d.k0) (b.at d.k1)).2) := by
      unfold bword; rw [if_neg n0, if_neg n1, if_neg n2, if_neg n6, if_neg n7, if_neg n22, hl0]
    have ev : valD I R ls (vK I R ls k) d = (opI d.op m ((vK I R ls k).getD d.k0.toNat 0 : Nat) ((vK I R ls k).getD d.k1.toNat 0 : Nat)).toNat := by
      unfold valD; rw [if_neg n0, if_neg n1, if_neg n2, if_neg n6, if_neg n7, if_neg n22, hwm]
    by_cases h5 : d.op = 5
    · have e5 : resG d.op b.g m (b.at d.k0) (b.at d.k1) = resG d.op b.g m (b.at d.k0) (b.at d.k0) := by unfold resG; rw [if_pos h5, if_pos h5]
      obtain ⟨s', a1, a2, a3, a4, a5, a6⟩ := resG_ok hB.gi hx hx hl0 hl0 h1 h64 ho
      rw [e, e5]
      refine ⟨s', step_gate hB a1 a2 ⟨by rw [a5, hw], a4, ?_⟩ ?_⟩
      · have eo : ∀ y z : Int, opI d.op m (num s (b.at d.k0)) y = opI d.op m (num s (b.at d.k0)) z := by intro y z; unfold opI; rw [if_pos h5, if_pos h5]
        rw [ev, ← hv0, eo _ (num s (b.at d.k0))]
        omega
      · have : (resG d.op b.g m (b.at d.k0) (b.at d.k0)).1 = b.g := by unfold resG; rw [if_pos h5]
        rw [this]; omega
    · replace hl1 := hl1.resolve_left h5
      replace hy := hy.resolve_left h5
      replace hv1 := hv1.resolve_left h5
      obtain ⟨s', a1, a2, a3, a4, a5, a6⟩ := resG_ok hB.gi hx hy hl0 hl1 h1 h64 ho
      rw [e]
      refine ⟨s', step_gate hB a1 a2 ⟨by rw [a5, hw], a4, ?_⟩ ?_⟩
      · rw [ev, ← hv0, ← hv1]
        omega
      · by_cases hh : heavyD d
        · unfold costD; rw [if_pos hh]; exact a3
        · have hsm : d.op < 10 ∨ 12 < d.op ∨ m ≤ 8 := by
            unfold heavyD at hh
            rcases Decidable.em (d.op < 10) with h | h
            · exact .inl h
            rcases Decidable.em (12 < d.op) with h' | h'
            · exact .inr (.inl h')
            have := hm ⟨by omega, by omega⟩
            right; right
            rcases hm3 with h3 | h3 | h3
            · omega
            · omega
            · exact absurd ⟨by omega, by omega, by omega⟩ hh
          have ho2 : 8 ≤ d.op ∧ d.op ≤ 21 := by unfold okOp at ho; omega
          have er : resG d.op b.g m (b.at d.k0) (b.at d.k1) = applyG d.op b.g m (b.at d.k0) (b.at d.k1) := by unfold resG; rw [if_neg h5]
          rw [er]
          have := applyG_small hB.gi hx hy hl0 hl1 h1 h64 ho2.1 ho2.2 hsm
          omega
  cases hT k d hd with
  | const h hw hn hN _ =>
    have e : bword b d = (b, constL d.w.toNat d.n.toNat) := by unfold bword; rw [if_pos h]
    have ev : valD I R ls (vK I R ls k) d = d.n.toNat := by unfold valD; rw [if_pos h]
    rw [e]
    exact ⟨s, step_same hB ⟨constL_len _ _, constL_isL hB.gi.pos, by rw [constL_num0 hB.gi.one, ev, Nat.mod_eq_of_lt hN]⟩⟩
  | input h hw hn hN =>
    obtain ⟨i, hi⟩ : ∃ i, d.n.toNat = i := ⟨_, rfl⟩
    have hi16 : i < 16 := by omega
    have ev : valD I R ls (vK I R ls k) d = I i := by unfold valD; rw [if_neg (by omega), if_pos h, hi]
    have ew : d.w.toNat = 8 := by omega
    by_cases h0 : b.inp.getD i [] = []
    · have e : bword b d = (⟨addV b.g 8, b.ws, b.inp.set i (freeL b.g.n 8), b.reg⟩, freeL b.g.n 8) := by unfold bword; rw [if_neg (by omega), if_pos h, hi, if_pos h0]
      obtain ⟨s', a1, a2, a3⟩ := free_many hB.gi (I i) 8
      have hw8 : WInv (addV b.g 8) s' (freeL b.g.n 8) 8 (I i) := ⟨freeL_len _ _, freeL_isL _ _ _ (Nat.le_refl _), by
        unfold num
        rw [freeL_lit _ _ _ a3, bv_bits, Nat.mod_eq_of_lt (hI i)]⟩
      rw [e]
      refine ⟨s', rfl, a1.congr fun x => ?_, a2, by show (b.inp.set i _).length = 16; rw [List.length_set]; exact hB.il, hB.rl, fun j hj => ?_, fun j hj => (hB.reg j hj).imp id fun w => w.step a2, by rw [ew, ev]; exact hw8, by show b.g.n + 8 ≤ _; omega⟩
      · show x ∈ frB I R ⟨addV b.g 8, b.ws, b.inp.set i (freeL b.g.n 8), b.reg⟩ ↔ _
        unfold frB
        rw [List.mem_append, mem_set_flat hi16 hB.il h0, sayL_free, List.mem_append, List.mem_append]
        exact or_right_comm
      · show (b.inp.set i (freeL b.g.n 8)).getD j [] = [] ∨ _
        by_cases ej : i = j
        · subst ej
          right
          show WInv _ _ ((b.inp.set i (freeL b.g.n 8)).getD i []) 8 _
          rw [getD_set_self _ (by rw [hB.il]; exact hi16)]
          exact hw8
        · show _ ∨ WInv _ _ ((b.inp.set i (freeL b.g.n 8)).getD j []) 8 _
          rw [getD_set_ne _ ej]
          exact (hB.inp j hj).imp id fun w => w.step a2
    · have e : bword b d = (b, b.inp.getD i []) := by unfold bword; rw [if_neg (by omega), if_pos h, hi, if_neg h0]
      rw [e]
      exact ⟨s, step_same hB (by rw [ew, ev]; exact (hB.inp i hi16).resolve_left h0)⟩
  | reg h hw hn hN =>
    obtain ⟨i, hi⟩ : ∃ i, d.n.toNat = i := ⟨_, rfl⟩
    have hi8 : i < 8 := by omega
    have ev : valD I R ls (vK I R ls k) d = R i := by unfold valD; rw [if_neg (by omega), if_neg (by omega), if_pos h, hi]
    have ew : d.w.toNat = 64 := by omega
    by_cases h0 : b.reg.getD i [] = []
    · have e : bword b d = (⟨addV b.g 64, b.ws, b.inp, b.reg.set i (freeL b.g.n 64)⟩, freeL b.g.n 64) := by unfold bword; rw [if_neg (by omega), if_neg (by omega), if_pos h, hi, if_pos h0]
      obtain ⟨s', a1, a2, a3⟩ := free_many hB.gi (R i) 64
      have hw8 : WInv (addV b.g 64) s' (freeL b.g.n 64) 64 (R i) := ⟨freeL_len _ _, freeL_isL _ _ _ (Nat.le_refl _), by
        unfold num
        rw [freeL_lit _ _ _ a3, bv_bits, Nat.mod_eq_of_lt (hR i)]⟩
      rw [e]
      refine ⟨s', rfl, a1.congr fun x => ?_, a2, hB.il, by show (b.reg.set i _).length = 8; rw [List.length_set]; exact hB.rl, fun j hj => (hB.inp j hj).imp id fun w => w.step a2, fun j hj => ?_, by rw [ew, ev]; exact hw8, by show b.g.n + 64 ≤ _; omega⟩
      · show x ∈ frB I R ⟨addV b.g 64, b.ws, b.inp, b.reg.set i (freeL b.g.n 64)⟩ ↔ _
        unfold frB
        rw [List.mem_append, mem_set_flat hi8 hB.rl h0, sayL_free, List.mem_append, List.mem_append]
        exact or_assoc.symm
      · show (b.reg.set i (freeL b.g.n 64)).getD j [] = [] ∨ _
        by_cases ej : i = j
        · subst ej
          right
          show WInv _ _ ((b.reg.set i (freeL b.g.n 64)).getD i []) 64 _
          rw [getD_set_self _ (by rw [hB.rl]; exact hi8)]
          exact hw8
        · show _ ∨ WInv _ _ ((b.reg.set i (freeL b.g.n 64)).getD j []) 64 _
          rw [getD_set_ne _ ej]
          exact (hB.reg j hj).imp id fun w => w.step a2
    · have e : bword b d = (b, b.reg.getD i []) := by unfold bword; rw [if_neg (by omega), if_neg (by omega), if_pos h, hi, if_neg h0]
      rw [e]
      exact ⟨s, step_same hB (by rw [ew, ev]; exact (hB.reg i hi8).resolve_left h0)⟩
  | wide h a ha haj hw hx =>
    have W := kw ha haj
    have e : bword b d = (b, b.at d.k0 ++ constL (64 - (b.at d.k0).length) 0) := by unfold bword; rw [if_neg (by omega), if_neg (by omega), if_neg (by omega), if_pos h]
    have ev : valD I R ls (vK I R ls k) d = (vK I R ls k).getD d.k0.toNat 0 := by unfold valD; rw [if_neg (by omega), if_neg (by omega), if_neg (by omega), if_pos h]
    rw [e]
    refine ⟨s, step_same hB ⟨by rw [List.length_append, constL_len, W.len]; omega, fun x hx => (List.mem_append.1 hx).elim (W.isl x) (constL_isL hB.gi.pos x), ?_⟩⟩
    have h0 : bv ((constL (64 - (b.at d.k0).length) 0).map (lit s)) = 0 := (constL_num0 hB.gi.one _ 0).trans (Nat.zero_mod _)
    rw [ev, ← W.num]
    unfold num
    rw [List.map_append, bv_app0, h0]
    omega
  | low h a ha haj hw hx =>
    have W := kw ha haj
    have e : bword b d = (b, (b.at d.k0).take 8) := by unfold bword; rw [if_neg (by omega), if_neg (by omega), if_neg (by omega), if_neg (by omega), if_pos h]
    have ev : valD I R ls (vK I R ls k) d = (vK I R ls k).getD d.k0.toNat 0 % 256 := by unfold valD; rw [if_neg (by omega), if_neg (by omega), if_neg (by omega), if_neg (by omega), if_pos h]
    rw [e]
    exact ⟨s, step_same hB ⟨by rw [List.length_take, W.len]; omega, fun x hx => W.isl x (List.mem_of_mem_take hx), by rw [num_take, ev, W.num]⟩⟩
  | choice h a c e ha hc he haj hcj hej h1 hx hy h0 =>
    have W0 := kw ha haj
    have W1 := kw hc hcj
    have W2 := kw he hej
    have hl0 : (b.at d.k0).length = 1 := by rw [W0.len, h1]; rfl
    obtain ⟨z, hz⟩ : ∃ z, b.at d.k0 = [z] := List.length_eq_one_iff.1 hl0
    have hzl : isL b.g.n z := W0.isl z (by rw [hz]; exact List.mem_singleton.2 rfl)
    have eb : bword b d = (⟨(chooseG b.g z (b.at d.k1) (b.at d.k2)).1, b.ws, b.inp, b.reg⟩, (chooseG b.g z (b.at d.k1) (b.at d.k2)).2) := by
      unfold bword; rw [if_neg (by omega), if_neg (by omega), if_neg (by omega), if_neg (by omega), if_neg (by omega), if_pos h, hz]; rfl
    have ev : valD I R ls (vK I R ls k) d = if (vK I R ls k).getD d.k0.toNat 0 = 1 then (vK I R ls k).getD d.k1.toNat 0 else (vK I R ls k).getD d.k2.toNat 0 := by
      unfold valD; rw [if_neg (by omega), if_neg (by omega), if_neg (by omega), if_neg (by omega), if_neg (by omega), if_pos h]
    have hlen : (b.at d.k1).length = (b.at d.k2).length := by rw [W1.len, W2.len, hx, hy]
    obtain ⟨s', a1, a2, a3, a4, a5⟩ := chooseG_ok hB.gi hzl W1.isl W2.isl hlen
    have hv0 := W0.num
    rw [hz, num_one] at hv0
    rw [eb]
    refine ⟨s', step_gate hB a1 a2 ⟨?_, a4, ?_⟩ ?_⟩
    · have := zipG_len (fun g x y => choice g z x y) (b.at d.k1) (b.at d.k2) b.g hlen
      show (zipG (fun g x y => choice g z x y) b.g (b.at d.k1) (b.at d.k2)).2.length = _
      rw [this, W1.len, hx]
    · unfold num
      rw [a5, ev, ← hv0, ← W1.num, ← W2.num]
      unfold num
      cases lit s z <;> simp
    · have : (b.at d.k1).length ≤ 64 := by rw [W1.len, hx]; omega
      omega
  | not h a ha haj hw h0 z =>
    have W := kw ha haj
    have := wd a haj
    refine hres (wAt ls a).toNat (.inl h) W.len (.inl h) (by omega) (by omega) W.isl (.inl h) (by rw [if_neg (by omega), hw]) (by rw [ha]) W.num (.inl h) (by omega) (by omega) (by omega) (by omega) (by omega) (by omega) (by omega) (by omega)
  | two h a c ha hc haj hcj hx hy h0 =>
    have W := kw ha haj
    have V := kw hc hcj
    have := wd a haj
    refine hres (wAt ls a).toNat (.inr (by omega)) W.len (.inr (by rw [V.len, hx, hy])) (by omega) (by omega) W.isl (.inr V.isl) (by rw [if_neg (by omega), hx]) (by rw [ha]) W.num (.inr V.num) (by omega) (by omega) (by omega) (by omega) (by omega) (by omega) (by omega) (by omega)
  | test h a c ha hc haj hcj hx h0 hw =>
    have W := kw ha haj
    have V := kw hc hcj
    have := wd a haj
    refine hres (wAt ls a).toNat (.inr (by omega)) W.len (.inr (by rw [V.len, hx])) (by omega) (by omega) W.isl (.inr V.isl) (by rw [if_pos (by omega), hw]; rfl) (by rw [ha]) W.num (.inr V.num) (by omega) (by omega) (by omega) (by omega) (by omega) (by omega) (by omega) (by omega)
theorem blast_ok {I R : Nat → Nat} {ls : List Nd} (hT : TF ls) (hI : ∀ i, I i < 256) (hR : ∀ i, R i < 18446744073709551616) : ∀ k, k ≤ ls.length → ∃ s, BI I R ls k (bK ls k) s := by
  intro k
  induction k with
  | zero => intro _; exact ⟨_, bi_start I R ls⟩
  | succ k ih =>
    intro hk
    obtain ⟨s, hs⟩ := ih (by omega)
    have hd := List.getElem?_eq_getElem (show k < ls.length by omega)
    obtain ⟨s', h⟩ := step_ok hT hs hd hI hR
    refine ⟨s', ?_⟩
    have e : bK ls (k + 1) = .push (bword (bK ls k) ls[k]) := by rw [bK, hd]
    rw [e]
    exact h.push hs hd
def costL (ls : List Nd) : Nat := (ls.map costD).sum
theorem blast_n {ls : List Nd} (hT : TF ls) : ∀ k, k ≤ ls.length → (bK ls k).g.n ≤ 1 + costL (ls.take k) := by
  intro k
  induction k with
  | zero => intro _; exact Nat.le_refl _
  | succ k ih =>
    intro hk
    have hd := List.getElem?_eq_getElem (show k < ls.length by omega)
    obtain ⟨s, hs⟩ := blast_ok (I := fun _ => 0) (R := fun _ => 0) hT (fun _ => by decide) (fun _ => by decide) k (by omega)
    obtain ⟨s', h⟩ := step_ok hT hs hd (fun _ => by decide) (fun _ => by decide)
    have e : bK ls (k + 1) = .push (bword (bK ls k) ls[k]) := by rw [bK, hd]
    have ec : costL (ls.take (k + 1)) = costL (ls.take k) + costD ls[k] := by
      unfold costL
      rw [List.take_add_one, hd, List.map_append, List.sum_append]
      simp
    have := h.n
    have := ih (by omega)
    rw [e, ec]
    show (bword (bK ls k) ls[k]).1.g.n ≤ _
    omega
end Go.Proofs.YtmaogkgjiplckaaGreat
namespace Go.Proofs.YtmaogkgjiplckaaGreat
open Go.RowKit
def bcells (c0 c1 c2 : Value) (iv rv : List Value) (lv wv : Value) (gb : Nat) : List Value := [c0, c1, c2] ++ (iv ++ (rv ++ [lv, .pointer (some ⟨gb, 0, none⟩), wv]))
section
variable {c0 c1 c2 : Value} {iv rv : List Value} {lv wv : Value} {gb : Nat}
theorem bc_inp (hi : iv.length = 16) {i : Nat} {v : Value} (h : iv[i]? = some v) : (bcells c0 c1 c2 iv rv lv wv gb)[3 + i]? = some v := by
  have hl := (List.getElem?_eq_some_iff.1 h).1
  unfold bcells
  rw [List.getElem?_append_right (by show 3 ≤ _; omega), show 3 + i - [c0, c1, c2].length = i by simp, List.getElem?_append_left hl]
  exact h
theorem bc_reg (hi : iv.length = 16) (hr : rv.length = 8) {i : Nat} {v : Value} (h : rv[i]? = some v) : (bcells c0 c1 c2 iv rv lv wv gb)[19 + i]? = some v := by
  have hl := (List.getElem?_eq_some_iff.1 h).1
  unfold bcells
  rw [List.getElem?_append_right (by show 3 ≤ _; omega), show 19 + i - [c0, c1, c2].length = 16 + i by simp; omega, List.getElem?_append_right (by omega), hi, show 16 + i - 16 = i by omega, List.getElem?_append_left hl]
  exact h
theorem bc_end (hi : iv.length = 16) (hr : rv.length = 8) (j : Nat) : (bcells c0 c1 c2 iv rv lv wv gb)[27 + j]? = [lv, .pointer (some ⟨gb, 0, none⟩), wv][j]? := by
  unfold bcells
  rw [List.getElem?_append_right (by show 3 ≤ _; omega), show 27 + j - [c0, c1, c2].length = 24 + j by simp; omega, List.getElem?_append_right (by omega), hi, show 24 + j - 16 = 8 + j by omega, List.getElem?_append_right (by omega), hr, show 8 + j - 8 = j by omega]
theorem bc_set_inp (hi : iv.length = 16) (v : Value) {i : Nat} (h : i < 16) : (bcells c0 c1 c2 iv rv lv wv gb).set (3 + i) v = bcells c0 c1 c2 (iv.set i v) rv lv wv gb := by
  unfold bcells
  rw [List.set_append_right _ _ (by show 3 ≤ _; omega), show 3 + i - [c0, c1, c2].length = i by simp, List.set_append_left _ _ (by omega)]
theorem bc_set_reg (hi : iv.length = 16) (hr : rv.length = 8) (v : Value) {i : Nat} (h : i < 8) : (bcells c0 c1 c2 iv rv lv wv gb).set (19 + i) v = bcells c0 c1 c2 iv (rv.set i v) lv wv gb := by
  unfold bcells
  rw [List.set_append_right _ _ (by show 3 ≤ _; omega), show 19 + i - [c0, c1, c2].length = 16 + i by simp; omega, List.set_append_right _ _ (by omega), hi, show 16 + i - 16 = i by omega, List.set_append_left _ _ (by omega)]
theorem bc_set_w (hi : iv.length = 16) (hr : rv.length = 8) (v : Value) : (bcells c0 c1 c2 iv rv lv wv gb).set 29 v = bcells c0 c1 c2 iv rv lv v gb := by
  unfold bcells
  rw [List.set_append_right _ _ (by show 3 ≤ _; omega), show 29 - [c0, c1, c2].length = 26 by simp, List.set_append_right _ _ (by omega), hi, List.set_append_right _ _ (by omega), hr]
  rfl
end
def BZ (X : Nat → Prop) (bb : Nat) (wv : Value) : Nat → Prop := fun k => X k ∧ k ≠ bb ∧ some k ≠ wv.ownBlock
structure BRep (X : Nat → Prop) (base : Nat) (w : World) (bb gb : Nat) (b : BS) (lv : Value) (iv rv : List Value) (wv : Value) (vs : List Value) : Prop where
  box : w.heap[bb]? = some (.cells (bcells (.slice none 0 0) (.int .i64 0) (.slice none 0 0) iv rv lv wv gb).toArray 71 (0, 0))
  xb : X bb
  gr : GR X base w gb b.g
  il : iv.length = 16
  rl : rv.length = 8
  inp : SlsX (BZ X bb wv) w iv b.inp
  reg : SlsX (BZ X bb wv) w rv b.reg
  ni : ∀ (i : Nat) (v : Value), iv[i]? = some v → b.inp[i]? = some [] → v = .slice none 0 0
  nr : ∀ (i : Nat) (v : Value), rv[i]? = some v → b.reg[i]? = some [] → v = .slice none 0 0
  row : w.ownsRow base 31 1 wv vs.length vs
  xw : ∀ k, wv.ownBlock = some k → X k ∧ k ≠ bb
  words : SlsX (BZ X bb wv) w vs b.ws
section
variable {X Y : Nat → Prop} {base bb gb : Nat} {w w' : World} {b : BS} {lv wv : Value} {iv rv vs : List Value}
theorem BRep.cell (h : BRep X base w bb gb b lv iv rv wv vs) (j : Nat) : w.cell? ⟨bb, j, none⟩ = (bcells (.slice none 0 0) (.int .i64 0) (.slice none 0 0) iv rv lv wv gb)[j]? := by
  rw [cell_of_row w bb j _ _ _ h.box, List.getElem?_toArray]
theorem BRep.cg (h : BRep X base w bb gb b lv iv rv wv vs) : w.cell? ⟨bb, 28, none⟩ = some (.pointer (some ⟨gb, 0, none⟩)) := by rw [h.cell, bc_end h.il h.rl 1]; rfl
theorem BRep.cw (h : BRep X base w bb gb b lv iv rv wv vs) : w.cell? ⟨bb, 29, none⟩ = some wv := by rw [h.cell, bc_end h.il h.rl 2]; rfl
theorem BRep.ci (h : BRep X base w bb gb b lv iv rv wv vs) {i : Nat} {v : Value} (hv : iv[i]? = some v) : w.cell? ⟨bb, 3 + i, none⟩ = some v := by rw [h.cell, bc_inp h.il hv]
theorem BRep.cr (h : BRep X base w bb gb b lv iv rv wv vs) {i : Nat} {v : Value} (hv : rv[i]? = some v) : w.cell? ⟨bb, 19 + i, none⟩ = some v := by rw [h.cell, bc_reg h.il h.rl hv]
theorem BRep.lt (h : BRep X base w bb gb b lv iv rv wv vs) : bb < w.heap.size := lt_of_block h.box
theorem BRep.turn (h : BRep X base w bb gb b lv iv rv wv vs) (hk : Kept X w w') {g' : G} (hG : GR Y base w' gb g') (hXY : ∀ k, X k → Y k) : BRep Y base w' bb gb ⟨g', b.ws, b.inp, b.reg⟩ lv iv rv wv vs := by
  have up : ∀ k, k < w.heap.size → BZ X bb wv k → BZ Y bb wv k := fun k _ hz => ⟨hXY k hz.1, hz.2⟩
  have kz : Kept (BZ X bb wv) w w' := hk.mono fun k _ hz => hz.1
  have hs := hk.size
  have mv : ∀ {xs : List Value} {cl : List (List Int)}, SlsX (BZ X bb wv) w xs cl → SlsX (BZ Y bb wv) w' xs cl := fun hx => (hx.kept kz).mono fun k _ hz => ⟨hXY k hz.1, hz.2⟩
  exact ⟨hk.at h.box h.xb, hXY _ h.xb, hG, h.il, h.rl, mv h.inp, mv h.reg, h.ni, h.nr, owns_kept h.row hk fun k e => (h.xw k e).1, fun k e => ⟨hXY k (h.xw k e).1, (h.xw k e).2⟩, mv h.words⟩
theorem BRep.below (h : BRep X base w bb gb b lv iv rv wv vs) (hb : Below w.heap.size w w') : BRep X base w' bb gb b lv iv rv wv vs :=
  h.turn (Kept.ofBelow hb) (h.gr.below hb) fun _ hx => hx
theorem BRep.drew (h : BRep X base w bb gb b lv iv rv wv vs) : BRep X base ({ w with drawn := w.drawn + 1 } : World) bb gb b lv iv rv wv vs :=
  h.below ⟨rfl, rfl, rfl, Nat.le_refl _, fun _ _ => rfl⟩
theorem BRep.word (h : BRep X base w bb gb b lv iv rv wv vs) (a : Nat) (ha : a < b.ws.length) : ∃ q n c x m c', wv = .slice (some ⟨q, 0, none⟩) n c ∧ a < n ∧ w.cell? ⟨q, a, none⟩ = some (.slice x m c') ∧ SlX (BZ X bb wv) w (.slice x m c') (b.at a) ∧ m = (b.at a).length := by
  have hl := h.words.1
  obtain ⟨v, hv⟩ : ∃ v, vs[a]? = some v := ⟨_, List.getElem?_eq_getElem (by omega)⟩
  obtain ⟨l, hl2⟩ : ∃ l, b.ws[a]? = some l := ⟨_, List.getElem?_eq_getElem ha⟩
  have hs := h.words.2 a v l hv hl2
  have el : b.at a = l := by unfold BS.at; rw [Int.toNat_natCast, List.getD_eq_getElem?_getD, hl2]; rfl
  obtain ⟨x, c', rfl⟩ := hs.shape
  rcases h.row with ⟨e1, ⟨rfl, e2⟩ | ⟨q, cap, cur, rfl, e2, e3, e4, e5, e6, e7⟩⟩
  · omega
  · refine ⟨q, vs.length, cap, x, l.length, c', rfl, by omega, ?_, by rw [el]; exact hs, by rw [el]⟩
    have := cell_of_row w q a _ _ _ e3
    rw [this, ← Array.getElem?_toList]
    rw [← e7, List.getElem?_take] at hv
    split at hv
    · exact hv
    · cases hv
end
theorem kid_any (d : Nd) (bb q n c a : Nat) (x : Option Addr) (m c' : Nat) (kk : Int) (w : World) (hw : w.cell? ⟨bb, 29, none⟩ = some (.slice (some ⟨q, 0, none⟩) n c)) (hv : w.cell? ⟨q, a, none⟩ = some (.slice x m c')) (han : a < n) (hk : (kk = 0 ∧ d.k0 = a) ∨ (kk = 1 ∧ d.k1 = a) ∨ (kk = 2 ∧ d.k2 = a)) :
    Calls Tryz.prog 64 #[.pointer (some ⟨bb, 0, none⟩), .agg #[.int .i64 d.op, .int .i64 d.w, .int .u64 d.n, .int .i64 d.k0, .int .i64 d.k1, .int .i64 d.k2], .int .i64 kk] w fun e w' => e = .returned (.slice x m c') ∧ Below w.heap.size w w' := by
  have hb : Below w.heap.size w (w.alloc (.cells #[.int .i64 d.op, .int .i64 d.w, .int .u64 d.n, .int .i64 d.k0, .int .i64 d.k1, .int .i64 d.k2] 49)) := by (repeat (first | with_reducible exact Below.refl _ _ | assumption | with_reducible refine below_drewN ?_ _ | with_reducible refine Below.drew ?_ | with_reducible refine Below.setRow ?_ ?_ _ | with_reducible refine Below.alloc ?_ ?_ _ | with_reducible refine Below.setCell ?_ ?_ _ | with_reducible exact Nat.le_refl _ | (focus (simp; done)) | (focus (simp; omega)) | omega))
  have hw' := cell_keep hb hw
  have hv' := cell_keep hb hv
  have hai : (a : Int) < (n : Int) := by omega
  have HB := Lib.hid hb
  clear hb
  obtain ⟨op, wd, nn, k0, k1, k2⟩ := d
  dsimp only at hk hw' hv' HB ⊢
  rcases hk with ⟨rfl, rfl⟩ | ⟨rfl, rfl⟩ | ⟨rfl, rfl⟩
  all_goals
    go_enter Tryz.func64, Tryz.ntmps64
    (repeat (first | (with_reducible first | refine xA ?_ | refine xB ?_ | refine xC ?_ | refine xD ?_ | refine xH ?_ | refine xI rfl ?_ | refine xE ?_ | refine xF ?_ | refine xG ?_) | go_values | go_skip | go_guarded | go_step | go_upon | go_back | ((with_reducible show Oper.upon _ _ _ _ _ _); go_simp) | (dsimp only)))
    go_quiet (fail)
    (repeat (first | (with_reducible first | refine xA ?_ | refine xB ?_ | refine xC ?_ | refine xD ?_ | refine xH ?_ | refine xI rfl ?_ | refine xE ?_ | refine xF ?_ | refine xG ?_) | go_values | go_skip | go_guarded | go_step | go_upon | go_back | ((with_reducible show Oper.upon _ _ _ _ _ _); go_simp) | (dsimp only)))
    go_ret
    exact ⟨rfl, by first | exact HB.out | ((repeat (first | with_reducible exact Below.refl _ _ | assumption | with_reducible refine below_drewN ?_ _ | with_reducible refine Below.drew ?_ | with_reducible refine Below.setRow ?_ ?_ _ | with_reducible refine Below.alloc ?_ ?_ _ | with_reducible refine Below.setCell ?_ ?_ _ | with_reducible exact Nat.le_refl _ | (focus (simp; done)) | (focus (simp; omega)) | omega)))⟩
end Go.Proofs.YtmaogkgjiplckaaGreat
namespace Go.Proofs.YtmaogkgjiplckaaGreat
open Go.RowKit
theorem keep_cell {w w' : World} {q : Nat} {p : Addr} {c : Value} (hg : w.grownBy w' (some q)) (h : w.cell? p = some c) (hne : p.block ≠ q) : w'.cell? p = some c :=
  (World.cell?_of_block (hg.block p.block (World.block_lt_of_cell? w p h) (fun e => hne (by injection e)))).trans h
def WordB (X : Nat → Prop) (base bb gb : Nat) (lv wv : Value) (vs : List Value) (w : World) (r : BS × List Int) (e : Ending) (w' : World) : Prop :=
  ∃ (v : Value) (Y : Nat → Prop) (iv rv : List Value), e = .returned v ∧ (∀ k, X k → Y k) ∧ BRep Y base w' bb gb r.1 lv iv rv wv vs ∧ SlX (BZ Y bb wv) w' v r.2 ∧ Kept (fun k => X k ∧ k ≠ bb) w w'
theorem freeV {X : Nat → Prop} {base gb : Nat} {g : G} (w : World) (hG : GR X base w gb g) (V : Int) (hV : Hid ((g.n : Int) + 1 = V)) (hn : Hid (g.n < 1048576)) :
    Calls Tryz.prog 75 #[.pointer (some ⟨gb, 0, none⟩)] w fun e w' => e = .returned (.int .i64 V) ∧ GR X base w' gb (addV g 1) ∧ Kept X w w' := by
  rw [← hV.out]; exact Free_any w hG hn.out
set_option maxRecDepth 100000 in
set_option maxHeartbeats 1000000 in
theorem bfree_any {X : Nat → Prop} {base bb gb : Nat} {g : G} (w : World) (hG : GR X base w gb g) (hc : w.cell? ⟨bb, 28, none⟩ = some (.pointer (some ⟨gb, 0, none⟩))) (hx : X bb) (n : Nat) (hn1 : 1 ≤ n) (hn2 : n ≤ 64) (hn : g.n + n ≤ 1048576) :
    Calls Tryz.prog 62 #[.pointer (some ⟨bb, 0, none⟩), .int .i64 n] w fun e w' => e = .returned (.slice (some ⟨w.heap.size, 0, none⟩) n n) ∧ OwnI w' w.heap.size n (freeL g.n n) ∧ GR (fun k => X k ∨ k = w.heap.size) base w' gb (addV g n) ∧ Kept X w w' := by
  have Hn1 := Lib.hid (show n ≤ 1000000 by omega)
  have Hn := Lib.hid hn
  have hnb : (n : Int) ≤ 64 := by omega
  have HG := Lib.hid hG
  have hbl := hG.xb bb hx
  clear hG hn
  go_enter Tryz.func62, Tryz.ntmps62
  (repeat (first | (with_reducible first | refine xA ?_ | refine xB ?_ | refine xC ?_ | refine xD ?_ | refine xH ?_ | refine xI rfl ?_ | refine xE ?_ | refine xF ?_ | refine xG ?_) | go_skip | go_guarded | (at_make; refine wl_make_own rfl _ _ rfl n rfl rfl Hn1.out ?_; intro w1 hO hg; (try simp only [Act.put, qz4, qz5, qz6])) | go_values | go_skip | go_guarded | go_step | go_upon | go_back | ((with_reducible show Oper.upon _ _ _ _ _ _); go_simp) | (dsimp only)))
  have hG1 := HG.out.owned hg (Nat.le_refl _) hO.lt
  have hK1 : Kept X w w1 := ⟨hg.os, hg.tape, hg.output, hg.size, fun i hi _ => hg.block i hi (by simp)⟩
  have hO1 : OwnI w1 w.heap.size n (filled (freeL g.n 0) n) := by simpa [filled, freeL] using hO
  have hc1 := hK1.cell hc hx
  clear hO hg hc
  go_loopw [11] (fun i wr => ∃ k : Nat, k ≤ n ∧ i = .int .i64 k ∧ Hid (OwnI wr w.heap.size n (filled (freeL g.n k) n)) ∧ GR (fun k => X k ∨ k = w.heap.size) base wr gb (addV g k) ∧ Kept X w wr ∧ wr.cell? ⟨bb, 28, none⟩ = some (.pointer (some ⟨gb, 0, none⟩))) (fun i _ => n - (intOf i).toNat)
  case atStart => exact ⟨0, Nat.zero_le _, rfl, Lib.hid hO1, hG1, hK1, hc1⟩
  case round =>
    clear hO1 hG1 hK1 hc1
    obtain ⟨k, hk, rfl, HO, hG, hK, hc⟩ := hrel
    rcases Nat.lt_or_ge k n with hlt | hge
    · obtain ⟨V, hV⟩ : ∃ V : Int, Hid (((addV g k).n : Int) + 1 = V) := ⟨_, Lib.hid rfl⟩
      have hV2 : ((g.n + 1 + k : Nat) : Int) = V := by rw [← hV.out]; show _ = ((g.n + k : Nat) : Int) + 1; omega
      have f0 : (V == 0) = false := by simp; omega
      have HV2 := Lib.hid hV2
      clear hV2
      have HN := Lib.hid (show (addV g k).n < 1048576 by have := Hn.out; show g.n + k < _; omega)
      have hlk : (filled (freeL g.n k) n).length = n := filled_len (by rw [freeL_len]; omega)
      have Hlk := Lib.hid hlk
      clear hlk
      (repeat (first | (with_reducible first | refine xA ?_ | refine xB ?_ | refine xC ?_ | refine xD ?_ | refine xH ?_ | refine xI rfl ?_ | refine xE ?_ | refine xF ?_ | refine xG ?_) | go_skip | go_guarded | (go_at_call 75; (with_reducible refine (freeV _ hG V hV HN).mono ?_); rintro _ w2 ⟨rfl, hG2, hk2⟩; have HO2 := Lib.hid (HO.out.kept hk2 (.inr rfl)); have hK2 := hK.trans (hk2.mono fun _ _ h => .inl h); have hc2 := hk2.cell hc (.inl hx); clear hG hK hc HO hk2) | ((with_reducible refine wl_id ?_); refine wl_store_own rfl _ _ rfl w.heap.size n _ k rfl V rfl HO2.out hlt ?_; intro w3 hO3 hg3; have hG3 := hG2.other hg3 (.inr rfl); have hK3 := hK2.owned hg3 (Nat.le_refl _); have hc3 := keep_cell hg3 hc2 (by show bb ≠ w.heap.size; omega); have hr3 := hO3.row k V (by rw [List.getElem?_set_self (by rw [Hlk.out]; exact hlt)]); rw [Nat.zero_add] at hr3; have HO3 := Lib.hid hO3; clear hO3 hg3 hG2 hK2 hc2 HO2; (try simp only [Act.put, qz4, qz5, qz6])) | go_values | go_skip | go_guarded | go_step | go_upon | go_back | ((with_reducible show Oper.upon _ _ _ _ _ _); go_simp) | (dsimp only)))
      refine ⟨⟨k + 1, by omega, by go_num, Lib.hid ?_, hG3, hK3, hc3⟩, by simp [intOf]; omega⟩
      have h := HO3.out
      rw [freeL_succ, HV2.out]
      have e := filled_set (outs := freeL g.n k) (n := n) (by rw [freeL_len]; exact hlt) V
      rw [freeL_len] at e
      rw [← e]
      exact h
    · obtain rfl : k = n := by omega
      have h := HO.out
      rw [filled_full (freeL_len _ _)] at h
      have HO' := Lib.hid h
      clear h
      (repeat (first | (with_reducible first | refine xA ?_ | refine xB ?_ | refine xC ?_ | refine xD ?_ | refine xH ?_ | refine xI rfl ?_ | refine xE ?_ | refine xF ?_ | refine xG ?_) | go_values | go_skip | go_guarded | go_step | go_upon | go_back | ((with_reducible show Oper.upon _ _ _ _ _ _); go_simp) | (dsimp only)))
      go_ret
      exact ⟨rfl, HO'.out, hG, hK⟩
end Go.Proofs.YtmaogkgjiplckaaGreat
namespace Go.Proofs.YtmaogkgjiplckaaGreat
open Go.RowKit
theorem nd_cells {u : World} {q : Nat} {d : Nd} (h : RowAt 6 Nd.cells u q 0 [d]) : u.cell? ⟨q, 0, none⟩ = some (.int .i64 d.op) ∧ u.cell? ⟨q, 1, none⟩ = some (.int .i64 d.w) ∧ u.cell? ⟨q, 2, none⟩ = some (.int .u64 d.n) ∧ u.cell? ⟨q, 3, none⟩ = some (.int .i64 d.k0) ∧ u.cell? ⟨q, 4, none⟩ = some (.int .i64 d.k1) ∧ u.cell? ⟨q, 5, none⟩ = some (.int .i64 d.k2) :=
  ⟨h 0 d rfl 0 _ rfl, h 0 d rfl 1 _ rfl, h 0 d rfl 2 _ rfl, h 0 d rfl 3 _ rfl, h 0 d rfl 4 _ rfl, h 0 d rfl 5 _ rfl⟩
section
variable {X : Nat → Prop} {base bb gb : Nat} {b : BS} {lv wv : Value} {iv rv vs : List Value}
theorem BRep.owned {w w' : World} (h : BRep X base w bb gb b lv iv rv wv vs) (hb : Below w.heap.size w w') {q : Nat} (h1 : w.heap.size ≤ q) (h2 : q < w'.heap.size) : BRep (fun k => X k ∨ k = q) base w' bb gb b lv iv rv wv vs ∧ BZ (fun k => X k ∨ k = q) bb wv q := by
  refine ⟨h.turn (Kept.ofBelow hb) (h.gr.owned (below_own hb) h1 h2) fun _ hx => .inl hx, .inr rfl, by have := h.lt; omega, fun e => ?_⟩
  have := h.gr.xb _ (h.xw q e.symm).1
  omega
set_option maxRecDepth 100000 in
theorem constant_any (w : World) (h : BRep X base w bb gb b lv iv rv wv vs) (d : Nd) (N : Nat) (hw : d.w = N) (hN : 1 ≤ N ∧ N ≤ 64) (hn0 : 0 ≤ d.n) (hn1 : d.n < 18446744073709551616) :
    Calls Tryz.prog 43 #[.pointer (some ⟨bb, 0, none⟩), .agg #[.int .i64 d.op, .int .i64 d.w, .int .u64 d.n, .int .i64 d.k0, .int .i64 d.k1, .int .i64 d.k2]] w (WordB X base bb gb lv wv vs w (b, constL N d.n.toNat)) := by
  have Hmx := Lib.hid (show max 1 (min d.w 64) = (N : Int) by omega)
  have hcg := h.cg
  have H := Lib.hid h
  clear h hw
  go_enter Tryz.func43, Tryz.ntmps43
  (repeat (first | (with_reducible first | refine xA ?_ | refine xB ?_ | refine xC ?_ | refine xD ?_ | refine xH ?_ | refine xI rfl ?_ | refine xE ?_ | refine xF ?_ | refine xG ?_) | go_values | go_skip | go_guarded | go_step | go_upon | go_back | ((with_reducible show Oper.upon _ _ _ _ _ _); go_simp) | (dsimp only)))
  refine wp_abs (fun u => Below w.heap.size w u ∧ RowAt 6 Nd.cells u w.heap.size 0 [d]) ⟨by (repeat (first | with_reducible exact Below.refl _ _ | assumption | with_reducible refine below_drewN ?_ _ | with_reducible refine Below.drew ?_ | with_reducible refine Below.setRow ?_ ?_ _ | with_reducible refine Below.alloc ?_ ?_ _ | with_reducible refine Below.setCell ?_ ?_ _ | with_reducible exact Nat.le_refl _ | (focus (simp; done)) | (focus (simp; omega)) | omega)), box_row w d 49⟩ ?_; rintro w1 ⟨hb1, HR⟩
  refine wp_region_held (S := fun u => u.cell? ⟨bb, 28, none⟩ = some (.pointer (some ⟨gb, 0, none⟩)) ∧ RowAt 6 Nd.cells u w.heap.size 0 [d]) (by kernel_rfl) ?_; replace HR : RowAt 6 Nd.cells ({ w1 with drawn := w1.drawn + 1 } : World) w.heap.size 0 [d] := HR; replace hb1 : Below w.heap.size w ({ w1 with drawn := w1.drawn + 1 } : World) := hb1.trans ⟨rfl, rfl, rfl, Nat.le_refl _, fun _ _ => rfl⟩; generalize ({ w1 with drawn := w1.drawn + 1 } : World) = u0 at *; have HSC : u0.cell? ⟨bb, 28, none⟩ = some (.pointer (some ⟨gb, 0, none⟩)) ∧ RowAt 6 Nd.cells u0 w.heap.size 0 [d] := ⟨cell_keep hb1 hcg, HR⟩
  refine wpAnyH_take (i := 0) (v := .pointer (some ⟨bb, 0, none⟩)) rfl (by kernel_rfl) (by kernel_rfl) (by kernel_rfl) (fun _ _ _ h => h) (Or.inl ⟨rfl, fun w _ => by go_simp⟩) HSC ?_; simp only [Act.put, qz1, qz2, qz3, qz4, qz5, qz6]
  refine wpAnyH_take (i := 1) (v := .pointer (some ⟨bb, 0, none⟩)) rfl (by kernel_rfl) (by kernel_rfl) (by kernel_rfl) (fun _ _ _ h => h) (Or.inl ⟨rfl, fun w _ => by go_simp⟩) HSC ?_; simp only [Act.put, qz1, qz2, qz3, qz4, qz5, qz6]
  refine wpAnyH_take (i := 2) (v := .pointer (some ⟨bb, 28, none⟩)) rfl (by kernel_rfl) (by kernel_rfl) (by kernel_rfl) (fun _ _ _ h => h) (Or.inl ⟨rfl, fun w _ => by go_simp⟩) HSC ?_; simp only [Act.put, qz1, qz2, qz3, qz4, qz5, qz6]
  refine wpAnyH_take (i := 3) (v := .pointer (some ⟨gb, 0, none⟩)) rfl (by kernel_rfl) (by kernel_rfl) (by kernel_rfl) (fun _ _ _ h => h) (Or.inl ⟨rfl, fun w hw => by have h := hw.1; go_simp⟩) HSC ?_; simp only [Act.put, qz1, qz2, qz3, qz4, qz5, qz6]
  refine wpAnyH_take (i := 4) (v := .pointer (some ⟨w.heap.size, 1, none⟩)) rfl (by kernel_rfl) (by kernel_rfl) (by kernel_rfl) (fun _ _ _ h => h) (Or.inl ⟨rfl, fun w _ => by go_simp⟩) HSC ?_; simp only [Act.put, qz1, qz2, qz3, qz4, qz5, qz6]
  refine wpAnyH_take (i := 5) (v := .int .i64 d.w) rfl (by kernel_rfl) (by kernel_rfl) (by kernel_rfl) (fun _ _ _ h => h) (Or.inl ⟨rfl, fun w hw => by obtain ⟨n0, n1, n2, n3, n4, n5⟩ := nd_cells hw.2; go_simp⟩) HSC ?_; simp only [Act.put, qz1, qz2, qz3, qz4, qz5, qz6]
  refine wpAnyH_take (i := 6) (v := .pointer (some ⟨w.heap.size, 2, none⟩)) rfl (by kernel_rfl) (by kernel_rfl) (by kernel_rfl) (fun _ _ _ h => h) (Or.inl ⟨rfl, fun w _ => by go_simp⟩) HSC ?_; simp only [Act.put, qz1, qz2, qz3, qz4, qz5, qz6]
  refine wpAnyH_take (i := 7) (v := .int .u64 d.n) rfl (by kernel_rfl) (by kernel_rfl) (by kernel_rfl) (fun _ _ _ h => h) (Or.inl ⟨rfl, fun w hw => by obtain ⟨n0, n1, n2, n3, n4, n5⟩ := nd_cells hw.2; go_simp⟩) HSC ?_; simp only [Act.put, qz1, qz2, qz3, qz4, qz5, qz6]
  refine wpAnyH_all (rs := [8]) (by kernel_rfl) (by simp) (fun i hi => ?_)
  obtain rfl : i = 8 := by simpa using hi
  refine wpOp_one rfl ?_
  (repeat (first | (with_reducible first | refine xA ?_ | refine xB ?_ | refine xC ?_ | refine xD ?_ | refine xH ?_ | refine xI rfl ?_ | refine xE ?_ | refine xF ?_ | refine xG ?_) | go_skip | go_guarded | (go_at_call 61; (with_reducible refine (WordC_any u0 _ d.w d.n hn0 hn1 N Hmx.out).mono ?_); rintro _ w2 ⟨rfl, hO2, hb2⟩; replace HSC := And.intro (cell_keep hb2 HSC.1) (HSC.2.below hb2)) | go_values | go_skip | go_guarded | go_step | go_upon | go_back | ((with_reducible show Oper.upon _ _ _ _ _ _); go_simp) | (dsimp only)))
  refine ⟨HSC, ?_⟩
  refine wpAnyH_all (rs := [9]) (by kernel_rfl) (by simp) (fun i hi => ?_)
  obtain rfl : i = 9 := by simpa using hi
  refine wpOp_one rfl ?_
  (repeat (first | (with_reducible first | refine xA ?_ | refine xB ?_ | refine xC ?_ | refine xD ?_ | refine xH ?_ | refine xI rfl ?_ | refine xE ?_ | refine xF ?_ | refine xG ?_) | go_values | go_skip | go_guarded | go_step | go_upon | go_back | ((with_reducible show Oper.upon _ _ _ _ _ _); go_simp) | (dsimp only)))
  refine ⟨HSC, ?_⟩
  refine wpAnyH_done (by kernel_rfl) ?_ _
  (repeat (first | (with_reducible first | refine xA ?_ | refine xB ?_ | refine xC ?_ | refine xD ?_ | refine xH ?_ | refine xI rfl ?_ | refine xE ?_ | refine xF ?_ | refine xG ?_) | go_values | go_skip | go_guarded | go_step | go_upon | go_back | ((with_reducible show Oper.upon _ _ _ _ _ _); go_simp) | (dsimp only)))
  go_ret
  have hb := hb1.trans (hb2.mono hb1.size)
  obtain ⟨r1, r2⟩ := H.out.owned hb hb1.size hO2.lt
  exact ⟨_, _, iv, rv, rfl, fun k hk => .inl hk, r1, hO2.slX r2, Kept.ofBelow hb⟩
end
end Go.Proofs.YtmaogkgjiplckaaGreat
namespace Go.Proofs.YtmaogkgjiplckaaGreat
open Go.RowKit
section
variable {X : Nat → Prop} {base bb gb : Nat} {b : BS} {lv wv : Value} {iv rv vs : List Value}
theorem row_lt {u : World} {q : Nat} {d : Nd} (h : RowAt 6 Nd.cells u q 0 [d]) : q < u.heap.size := World.block_lt_of_cell? u _ (nd_cells h).1
theorem row_kept {Z : Nat → Prop} {u u' : World} {q : Nat} {d : Nd} (h : RowAt 6 Nd.cells u q 0 [d]) (hk : Kept Z u u') (hz : Z q) : RowAt 6 Nd.cells u' q 0 [d] := fun i e hi j c hj => hk.cell (h i e hi j c hj) hz
theorem slx_take {Z : Nat → Prop} {w : World} {bq o n c : Nat} {l : List Int} (h : SlX Z w (.slice (some ⟨bq, o, none⟩) l.length c) l) (hn : n ≤ l.length) : SlX Z w (.slice (some ⟨bq, o, none⟩) n c) (l.take n) := by
  obtain ⟨ao, cap, e, hc, h0, hr⟩ := h
  injection e with e1 e2 e3
  subst e1; subst e3
  refine ⟨_, c, by rw [List.length_take, Nat.min_eq_left hn], by rw [List.length_take]; omega, h0, fun hne => ?_⟩
  obtain ⟨b', o', e, hz, hl, hR⟩ := hr (by rintro rfl; simp at hne)
  refine ⟨b', o', e, hz, hl, fun i x hi => ?_⟩
  rw [List.getElem?_take] at hi
  split at hi
  · exact hR i x hi
  · cases hi
theorem WordB.of_below {w w' : World} (h : BRep X base w bb gb b lv iv rv wv vs) (hb : Below w.heap.size w w') {v : Value} {l : List Int} (hs : SlX (BZ X bb wv) w v l) : WordB X base bb gb lv wv vs w (b, l) (.returned v) w' :=
  ⟨v, X, iv, rv, rfl, fun _ hk => hk, h.below hb, hs.kept (Kept.ofBelow hb), Kept.ofBelow hb⟩
theorem blastB_of {Y : Nat → Prop} {w u w2 : World} {r : G × List Int} {v : Value} (h : BRep X base w bb gb b lv iv rv wv vs) (hb : Below w.heap.size w u) (hXY : ∀ k, X k → Y k) (hS : SlX (fun k => Y k ∧ u.heap.size ≤ k) w2 v r.2) (hG : GR Y base w2 gb r.1) (hK : Kept X u w2) :
    WordB X base bb gb lv wv vs w (⟨r.1, b.ws, b.inp, b.reg⟩, r.2) (.returned v) w2 := by
  have hk := (Kept.ofBelow (X := X) hb).trans hK
  refine ⟨v, Y, iv, rv, rfl, hXY, h.turn hk hG hXY, hS.mono fun k _ hz => ⟨hz.1, ?_, fun e => ?_⟩, hk.mono fun k _ hz => hz.1⟩
  · have := h.lt
    have := hb.size
    have := hz.2
    omega
  · have := h.gr.xb k (h.xw k e.symm).1
    have := hb.size
    have := hz.2
    omega
set_option maxRecDepth 100000 in
theorem low_any (w : World) (h : BRep X base w bb gb b lv iv rv wv vs) (d : Nd) (a0 : Nat) (hk0 : d.k0 = a0) (ha : a0 < b.ws.length) (hl : (b.at a0).length = 64) :
    Calls Tryz.prog 48 #[.pointer (some ⟨bb, 0, none⟩), .agg #[.int .i64 d.op, .int .i64 d.w, .int .u64 d.n, .int .i64 d.k0, .int .i64 d.k1, .int .i64 d.k2]] w (WordB X base bb gb lv wv vs w (b, (b.at a0).take 8)) := by
  obtain ⟨q, n, c, x0, m0, e0, hwv, han0, hv0, hS, hm⟩ := h.word a0 ha
  have hcw := h.cw
  rw [hwv] at hcw
  subst hm
  obtain ⟨bq, oq, rfl, -, -, hcap, -⟩ := hS.row (by omega)
  have H := Lib.hid h
  have HS := Lib.hid hS
  have hc8 : (64 : Int) ≤ e0 := by omega
  have hb1 : Below w.heap.size w (w.alloc (.cells #[.int .i64 d.op, .int .i64 d.w, .int .u64 d.n, .int .i64 d.k0, .int .i64 d.k1, .int .i64 d.k2] 49)) := by (repeat (first | with_reducible exact Below.refl _ _ | assumption | with_reducible refine below_drewN ?_ _ | with_reducible refine Below.drew ?_ | with_reducible refine Below.setRow ?_ ?_ _ | with_reducible refine Below.alloc ?_ ?_ _ | with_reducible refine Below.setCell ?_ ?_ _ | with_reducible exact Nat.le_refl _ | (focus (simp; done)) | (focus (simp; omega)) | omega))
  have HL := Lib.hid hl
  have HK0 := Lib.hid hk0
  clear h hS hwv hk0 hl
  go_enter Tryz.func48, Tryz.ntmps48
  (repeat (first | (with_reducible first | refine xA ?_ | refine xB ?_ | refine xC ?_ | refine xD ?_ | refine xH ?_ | refine xI rfl ?_ | refine xE ?_ | refine xF ?_ | refine xG ?_) | go_skip | go_guarded | (go_at_call 64; (with_reducible refine (kid_any d bb q n c a0 (some ⟨bq, oq, none⟩) (b.at a0).length e0 0 _ (cell_keep hb1 hcw) (cell_keep hb1 hv0) han0 (.inl ⟨rfl, HK0.out⟩)).mono ?_); rintro _ u1 ⟨rfl, hbk⟩; replace hb1 := hb1.trans (hbk.mono hb1.size); clear hbk) | go_values | go_skip | go_guarded | go_step | go_upon | go_back | ((with_reducible show Oper.upon _ _ _ _ _ _); go_simp) | (dsimp only)))
  go_ret
  exact WordB.of_below H.out hb1 (slx_take HS.out (by rw [HL.out]; omega))
set_option maxRecDepth 100000 in
set_option maxHeartbeats 1000000 in
theorem apply_b {fr : List Int} {s : Nat → Bool} (w : World) (hba : base ≤ w.heap.size) (h : BRep X base w bb gb b lv iv rv wv vs) (d : Nd) (a0 a1 : Nat) (hk0 : d.k0 = a0) (hk1 : d.k1 = a1) (ha0 : a0 < b.ws.length) (ha1 : a1 < b.ws.length) (N : Nat) (hN : 1 ≤ N ∧ N ≤ 64) (hl0 : (b.at a0).length = N) (hl1 : d.op = 5 ∨ (b.at a1).length = N)
    (hx : ∀ x ∈ b.at a0, isL b.g.n x) (hy : d.op = 5 ∨ ∀ x ∈ b.at a1, isL b.g.n x) (hI : GI b.g fr s) (ho : okOp d.op) (hn : b.g.n + 40000 ≤ 1048576) (r : G × List Int) (hr : Hid (resG d.op b.g N (b.at a0) (b.at a1) = r)) :
    Calls Tryz.prog 46 #[.pointer (some ⟨bb, 0, none⟩), .agg #[.int .i64 d.op, .int .i64 d.w, .int .u64 d.n, .int .i64 d.k0, .int .i64 d.k1, .int .i64 d.k2]] w (WordB X base bb gb lv wv vs w (⟨r.1, b.ws, b.inp, b.reg⟩, r.2)) := by
  obtain ⟨q, n, c, x0, m0, e0, hwv, han0, hv0, hS0, hm0⟩ := h.word a0 ha0
  obtain ⟨q', n', c', x1, m1, e1, hwv', han1, hv1, hS1, hm1⟩ := h.word a1 ha1
  rw [hwv] at hwv'
  injection hwv' with hq1 hq2 hq3
  injection hq1 with hq1
  injection hq1 with hq1
  subst hq1; subst hq2; subst hq3
  have hcw := h.cw
  rw [hwv] at hcw
  have hcg := h.cg
  have hs0 := hS0.mono (Y := X) fun _ _ hz => hz.1
  have hs1 := hS1.mono (Y := X) fun _ _ hz => hz.1
  have HA : Hid (∀ u : World, Below w.heap.size w u → w.heap.size < u.heap.size → Calls Tryz.prog 63 #[.pointer (some ⟨gb, 0, none⟩), .int .i64 d.op, .slice x0 m0 e0, .slice x1 m1 e1] u (WordY (fun k => X k ∨ k = w.heap.size) base gb u r)) := Lib.hid (fun u hb hlt => by
    rw [← hr.out]
    have g0 := (hs0.kept (Kept.ofBelow hb)).mono (Y := fun k => X k ∨ k = w.heap.size) fun _ _ hz => .inl hz
    have g1 := (hs1.kept (Kept.ofBelow hb)).mono (Y := fun k => X k ∨ k = w.heap.size) fun _ _ hz => .inl hz
    have hG := h.gr.owned (below_own hb) (Nat.le_refl _) hlt
    rcases ho with h5 | ⟨h8, h21⟩
    · rw [h5]
      exact Apply_not u hG _ _ _ _ N g0 g1 hl0 hN.1 hN.2 hx
    · exact Apply_res d.op u hG (Nat.le_trans hba hb.size) _ _ _ _ N g0 g1 hl0 (hl1.resolve_left (by omega)) hN.1 hN.2 hn hx (hy.resolve_left (by omega)) hI (.inr ⟨h8, h21⟩))
  have H := Lib.hid h
  have HK0 := Lib.hid hk0
  have HK1 := Lib.hid hk1
  clear hk0 hk1 h hwv hS0 hS1 hs0 hs1 hx hy hI ho hn hr hl0 hl1 hba hm0 hm1
  go_enter Tryz.func46, Tryz.ntmps46
  (repeat (first | (with_reducible first | refine xA ?_ | refine xB ?_ | refine xC ?_ | refine xD ?_ | refine xH ?_ | refine xI rfl ?_ | refine xE ?_ | refine xF ?_ | refine xG ?_) | go_values | go_skip | go_guarded | go_step | go_upon | go_back | ((with_reducible show Oper.upon _ _ _ _ _ _); go_simp) | (dsimp only)))
  refine wp_abs (fun u => Below w.heap.size w u ∧ RowAt 6 Nd.cells u w.heap.size 0 [d]) ⟨by (repeat (first | with_reducible exact Below.refl _ _ | assumption | with_reducible refine below_drewN ?_ _ | with_reducible refine Below.drew ?_ | with_reducible refine Below.setRow ?_ ?_ _ | with_reducible refine Below.alloc ?_ ?_ _ | with_reducible refine Below.setCell ?_ ?_ _ | with_reducible exact Nat.le_refl _ | (focus (simp; done)) | (focus (simp; omega)) | omega)), box_row w d 49⟩ ?_; rintro w1 ⟨hb1, HR⟩
  refine wp_region_held (S := fun u => u.cell? ⟨bb, 28, none⟩ = some (.pointer (some ⟨gb, 0, none⟩)) ∧ RowAt 6 Nd.cells u w.heap.size 0 [d]) (by kernel_rfl) ?_; replace HR : RowAt 6 Nd.cells ({ w1 with drawn := w1.drawn + 1 } : World) w.heap.size 0 [d] := HR; replace hb1 : Below w.heap.size w ({ w1 with drawn := w1.drawn + 1 } : World) := hb1.trans ⟨rfl, rfl, rfl, Nat.le_refl _, fun _ _ => rfl⟩; generalize ({ w1 with drawn := w1.drawn + 1 } : World) = u0 at *; have HSC : u0.cell? ⟨bb, 28, none⟩ = some (.pointer (some ⟨gb, 0, none⟩)) ∧ RowAt 6 Nd.cells u0 w.heap.size 0 [d] := ⟨cell_keep hb1 hcg, HR⟩; clear HR
  refine wpAnyH_take (i := 0) (v := .pointer (some ⟨bb, 0, none⟩)) rfl (by kernel_rfl) (by kernel_rfl) (by kernel_rfl) (fun _ _ _ h => h) (Or.inl ⟨rfl, fun w _ => by go_simp⟩) HSC ?_; simp only [Act.put, qz1, qz2, qz3, qz4, qz5, qz6]
  refine wpAnyH_take (i := 1) (v := .pointer (some ⟨bb, 0, none⟩)) rfl (by kernel_rfl) (by kernel_rfl) (by kernel_rfl) (fun _ _ _ h => h) (Or.inl ⟨rfl, fun w _ => by go_simp⟩) HSC ?_; simp only [Act.put, qz1, qz2, qz3, qz4, qz5, qz6]
  refine wpAnyH_take (i := 2) (v := .pointer (some ⟨bb, 28, none⟩)) rfl (by kernel_rfl) (by kernel_rfl) (by kernel_rfl) (fun _ _ _ h => h) (Or.inl ⟨rfl, fun w _ => by go_simp⟩) HSC ?_; simp only [Act.put, qz1, qz2, qz3, qz4, qz5, qz6]
  refine wpAnyH_take (i := 3) (v := .pointer (some ⟨gb, 0, none⟩)) rfl (by kernel_rfl) (by kernel_rfl) (by kernel_rfl) (fun _ _ _ h => h) (Or.inl ⟨rfl, fun w hw => by have h := hw.1; go_simp⟩) HSC ?_; simp only [Act.put, qz1, qz2, qz3, qz4, qz5, qz6]
  refine wpAnyH_take (i := 4) (v := .pointer (some ⟨w.heap.size, 0, none⟩)) rfl (by kernel_rfl) (by kernel_rfl) (by kernel_rfl) (fun _ _ _ h => h) (Or.inl ⟨rfl, fun w _ => by go_simp⟩) HSC ?_; simp only [Act.put, qz1, qz2, qz3, qz4, qz5, qz6]
  refine wpAnyH_take (i := 5) (v := .int .i64 d.op) rfl (by kernel_rfl) (by kernel_rfl) (by kernel_rfl) (fun _ _ _ h => h) (Or.inl ⟨rfl, fun w hw => by obtain ⟨n0, n1, n2, n3, n4, n5⟩ := nd_cells hw.2; go_simp⟩) HSC ?_; simp only [Act.put, qz1, qz2, qz3, qz4, qz5, qz6]
  refine wpAnyH_take (i := 6) (v := .pointer (some ⟨bb, 0, none⟩)) rfl (by kernel_rfl) (by kernel_rfl) (by kernel_rfl) (fun _ _ _ h => h) (Or.inl ⟨rfl, fun w _ => by go_simp⟩) HSC ?_; simp only [Act.put, qz1, qz2, qz3, qz4, qz5, qz6]
  refine wpAnyH_take (i := 7) (v := .agg #[.int .i64 d.op, .int .i64 d.w, .int .u64 d.n, .int .i64 d.k0, .int .i64 d.k1, .int .i64 d.k2]) rfl (by kernel_rfl) (by kernel_rfl) (by kernel_rfl) (fun _ _ _ h => h) (Or.inl ⟨rfl, fun w hw => by obtain ⟨n0, n1, n2, n3, n4, n5⟩ := nd_cells hw.2; go_simp⟩) HSC ?_; simp only [Act.put, qz1, qz2, qz3, qz4, qz5, qz6]
  refine wpAnyH_take (i := 9) (v := .pointer (some ⟨bb, 0, none⟩)) rfl (by kernel_rfl) (by kernel_rfl) (by kernel_rfl) (fun _ _ _ h => h) (Or.inl ⟨rfl, fun w _ => by go_simp⟩) HSC ?_; simp only [Act.put, qz1, qz2, qz3, qz4, qz5, qz6]
  refine wpAnyH_take (i := 10) (v := .agg #[.int .i64 d.op, .int .i64 d.w, .int .u64 d.n, .int .i64 d.k0, .int .i64 d.k1, .int .i64 d.k2]) rfl (by kernel_rfl) (by kernel_rfl) (by kernel_rfl) (fun _ _ _ h => h) (Or.inl ⟨rfl, fun w hw => by obtain ⟨n0, n1, n2, n3, n4, n5⟩ := nd_cells hw.2; go_simp⟩) HSC ?_; simp only [Act.put, qz1, qz2, qz3, qz4, qz5, qz6]
  refine wpAnyH_all (rs := [8]) (by kernel_rfl) (by simp) (fun i hi => ?_)
  obtain rfl : i = 8 := by simpa using hi
  refine wpOp_one rfl ?_
  (repeat (first | (with_reducible first | refine xA ?_ | refine xB ?_ | refine xC ?_ | refine xD ?_ | refine xH ?_ | refine xI rfl ?_ | refine xE ?_ | refine xF ?_ | refine xG ?_) | go_skip | go_guarded | (go_at_call 64; (with_reducible refine (kid_any d bb q n c a0 x0 m0 e0 0 _ (cell_keep hb1 hcw) (cell_keep hb1 hv0) han0 (.inl ⟨rfl, HK0.out⟩)).mono ?_); rintro _ u1 ⟨rfl, hbk⟩; replace hb1 := hb1.trans (hbk.mono hb1.size); replace HSC := And.intro (cell_keep hbk HSC.1) (HSC.2.below hbk); clear hbk) | go_values | go_skip | go_guarded | go_step | go_upon | go_back | ((with_reducible show Oper.upon _ _ _ _ _ _); go_simp) | (dsimp only)))
  refine ⟨HSC, ?_⟩
  refine wpAnyH_all (rs := [11]) (by kernel_rfl) (by simp) (fun i hi => ?_)
  obtain rfl : i = 11 := by simpa using hi
  refine wpOp_one rfl ?_
  (repeat (first | (with_reducible first | refine xA ?_ | refine xB ?_ | refine xC ?_ | refine xD ?_ | refine xH ?_ | refine xI rfl ?_ | refine xE ?_ | refine xF ?_ | refine xG ?_) | go_skip | go_guarded | (go_at_call 64; (with_reducible refine (kid_any d bb q n c a1 x1 m1 e1 1 _ (cell_keep hb1 hcw) (cell_keep hb1 hv1) han1 (.inr (.inl ⟨rfl, HK1.out⟩))).mono ?_); rintro _ u1 ⟨rfl, hbk⟩; replace hb1 := hb1.trans (hbk.mono hb1.size); replace HSC := And.intro (cell_keep hbk HSC.1) (HSC.2.below hbk); clear hbk) | go_values | go_skip | go_guarded | go_step | go_upon | go_back | ((with_reducible show Oper.upon _ _ _ _ _ _); go_simp) | (dsimp only)))
  refine ⟨HSC, ?_⟩
  refine wpAnyH_all (rs := [12]) (by kernel_rfl) (by simp) (fun i hi => ?_)
  obtain rfl : i = 12 := by simpa using hi
  refine wpOp_one rfl ?_
  have hlt := row_lt HSC.2
  (repeat (first | (with_reducible first | refine xA ?_ | refine xB ?_ | refine xC ?_ | refine xD ?_ | refine xH ?_ | refine xI rfl ?_ | refine xE ?_ | refine xF ?_ | refine xG ?_) | go_skip | go_guarded | (go_at_call 63; (with_reducible refine (HA.out _ hb1 hlt).mono ?_); rintro _ w2 ⟨v, Y, rfl, hXY, hS, hG, hK⟩) | go_values | go_skip | go_guarded | go_step | go_upon | go_back | ((with_reducible show Oper.upon _ _ _ _ _ _); go_simp) | (dsimp only)))
  refine ⟨⟨hK.cell HSC.1 (.inl H.out.xb), row_kept HSC.2 hK (.inr rfl)⟩, ?_⟩
  refine wpAnyH_all (rs := [13]) (by kernel_rfl) (by simp) (fun i hi => ?_)
  obtain rfl : i = 13 := by simpa using hi
  refine wpOp_one rfl ?_
  (repeat (first | (with_reducible first | refine xA ?_ | refine xB ?_ | refine xC ?_ | refine xD ?_ | refine xH ?_ | refine xI rfl ?_ | refine xE ?_ | refine xF ?_ | refine xG ?_) | go_values | go_skip | go_guarded | go_step | go_upon | go_back | ((with_reducible show Oper.upon _ _ _ _ _ _); go_simp) | (dsimp only)))
  refine ⟨⟨hK.cell HSC.1 (.inl H.out.xb), row_kept HSC.2 hK (.inr rfl)⟩, ?_⟩
  refine wpAnyH_done (by kernel_rfl) ?_ _
  (repeat (first | (with_reducible first | refine xA ?_ | refine xB ?_ | refine xC ?_ | refine xD ?_ | refine xH ?_ | refine xI rfl ?_ | refine xE ?_ | refine xF ?_ | refine xG ?_) | go_values | go_skip | go_guarded | go_step | go_upon | go_back | ((with_reducible show Oper.upon _ _ _ _ _ _); go_simp) | (dsimp only)))
  go_ret
  exact blastB_of H.out hb1 (fun k h => hXY k (.inl h)) hS hG (hK.mono fun k _ h => .inl h)
end
end Go.Proofs.YtmaogkgjiplckaaGreat
namespace Go.Proofs.YtmaogkgjiplckaaGreat
open Go.RowKit
section
variable {X : Nat → Prop} {base bb gb : Nat} {b : BS} {lv wv : Value} {iv rv vs : List Value}
set_option maxRecDepth 100000 in
set_option maxHeartbeats 1000000 in
theorem choice_b {fr : List Int} {s : Nat → Bool} (w : World) (hba : base ≤ w.heap.size) (h : BRep X base w bb gb b lv iv rv wv vs) (d : Nd) (a0 a1 a2 : Nat) (hk0 : d.k0 = a0) (hk1 : d.k1 = a1) (hk2 : d.k2 = a2) (ha0 : a0 < b.ws.length) (ha1 : a1 < b.ws.length) (ha2 : a2 < b.ws.length) (z : Int) (hz : b.at a0 = [z]) (N : Nat) (hN : 1 ≤ N ∧ N ≤ 64) (hl1 : (b.at a1).length = N) (hl2 : (b.at a2).length = N)
    (hzl : isL b.g.n z) (hx : ∀ x ∈ b.at a1, isL b.g.n x) (hy : ∀ x ∈ b.at a2, isL b.g.n x) (hI : GI b.g fr s) (hn : b.g.n + 192 ≤ 1048576) (r : G × List Int) (hr : Hid (chooseG b.g z (b.at a1) (b.at a2) = r)) :
    Calls Tryz.prog 49 #[.pointer (some ⟨bb, 0, none⟩), .agg #[.int .i64 d.op, .int .i64 d.w, .int .u64 d.n, .int .i64 d.k0, .int .i64 d.k1, .int .i64 d.k2]] w (WordB X base bb gb lv wv vs w (⟨r.1, b.ws, b.inp, b.reg⟩, r.2)) := by
  obtain ⟨q, n, c, x0, m0, e0, hwv, han0, hv0, hS0, hm0⟩ := h.word a0 ha0
  obtain ⟨q', n', c', x1, m1, e1, hwv', han1, hv1, hS1, hm1⟩ := h.word a1 ha1
  obtain ⟨q'', n'', c'', x2, m2, e2, hwv'', han2, hv2, hS2, hm2⟩ := h.word a2 ha2
  rw [hwv] at hwv' hwv''
  injection hwv' with hq1 hq2 hq3
  injection hq1 with hq1
  injection hq1 with hq1
  subst hq1; subst hq2; subst hq3
  injection hwv'' with hq1 hq2 hq3
  injection hq1 with hq1
  injection hq1 with hq1
  subst hq1; subst hq2; subst hq3
  have hcw := h.cw
  rw [hwv] at hcw
  have hcg := h.cg
  rw [hz] at hS0 hm0
  obtain ⟨bz, oz, rfl, xbz, lbz, cbz, hRz⟩ := hS0.row (Nat.zero_lt_one)
  have hcz := hRz 0 z rfl
  rw [Nat.add_zero] at hcz
  have hbzX : X bz := xbz.1
  obtain rfl : m0 = 1 := hm0
  obtain rfl : m1 = N := by rw [hm1, hl1]
  obtain rfl : m2 = m1 := by rw [hm2, hl2]
  have hs1 := hS1.mono (Y := X) fun _ _ hz => hz.1
  have hs2 := hS2.mono (Y := X) fun _ _ hz => hz.1
  have HA : Hid (∀ u : World, Below w.heap.size w u → w.heap.size < u.heap.size → Calls Tryz.prog 65 #[.pointer (some ⟨gb, 0, none⟩), .int .i64 z, .slice x1 m2 e1, .slice x2 m2 e2] u fun e w' => ∃ q, e = .returned (.slice (some ⟨q, 0, none⟩) m2 m2) ∧ OwnI w' q m2 r.2 ∧ u.heap.size ≤ q ∧ GR (fun k => (X k ∨ k = w.heap.size) ∨ k = q) base w' gb r.1 ∧ Kept (fun k => X k ∨ k = w.heap.size) u w') := Lib.hid (fun u hb hlt => by
    have g1 := (hs1.kept (Kept.ofBelow hb)).mono (Y := fun k => X k ∨ k = w.heap.size) fun _ _ hz => .inl hz
    have g2 := (hs2.kept (Kept.ofBelow hb)).mono (Y := fun k => X k ∨ k = w.heap.size) fun _ _ hz => .inl hz
    have hG := h.gr.owned (below_own hb) (Nat.le_refl _) hlt
    exact choose_law u hG (Nat.le_trans hba hb.size) z m2 _ _ _ _ _ _ hl1 hl2 g1 g2 hN.1 hN.2 hn hI hzl hx hy r hr)
  have H := Lib.hid h
  have HK0 := Lib.hid hk0
  have HK1 := Lib.hid hk1
  have HK2 := Lib.hid hk2
  clear hk0 hk1 hk2 h hwv hS0 hS1 hS2 hs1 hs2 hx hy hI hn hr hl1 hl2 hba hm1 hm2 hRz hz hzl xbz
  go_enter Tryz.func49, Tryz.ntmps49
  (repeat (first | (with_reducible first | refine xA ?_ | refine xB ?_ | refine xC ?_ | refine xD ?_ | refine xH ?_ | refine xI rfl ?_ | refine xE ?_ | refine xF ?_ | refine xG ?_) | go_values | go_skip | go_guarded | go_step | go_upon | go_back | ((with_reducible show Oper.upon _ _ _ _ _ _); go_simp) | (dsimp only)))
  refine wp_abs (fun u => Below w.heap.size w u ∧ RowAt 6 Nd.cells u w.heap.size 0 [d]) ⟨by (repeat (first | with_reducible exact Below.refl _ _ | assumption | with_reducible refine below_drewN ?_ _ | with_reducible refine Below.drew ?_ | with_reducible refine Below.setRow ?_ ?_ _ | with_reducible refine Below.alloc ?_ ?_ _ | with_reducible refine Below.setCell ?_ ?_ _ | with_reducible exact Nat.le_refl _ | (focus (simp; done)) | (focus (simp; omega)) | omega)), box_row w d 49⟩ ?_; rintro w1 ⟨hb1, HR⟩
  refine wp_region_held (S := fun u => u.cell? ⟨bb, 28, none⟩ = some (.pointer (some ⟨gb, 0, none⟩)) ∧ RowAt 6 Nd.cells u w.heap.size 0 [d] ∧ u.cell? ⟨bz, oz, none⟩ = some (.int .i64 z)) (by kernel_rfl) ?_; replace HR : RowAt 6 Nd.cells ({ w1 with drawn := w1.drawn + 1 } : World) w.heap.size 0 [d] := HR; replace hb1 : Below w.heap.size w ({ w1 with drawn := w1.drawn + 1 } : World) := hb1.trans ⟨rfl, rfl, rfl, Nat.le_refl _, fun _ _ => rfl⟩; generalize ({ w1 with drawn := w1.drawn + 1 } : World) = u0 at *; have HSC : u0.cell? ⟨bb, 28, none⟩ = some (.pointer (some ⟨gb, 0, none⟩)) ∧ RowAt 6 Nd.cells u0 w.heap.size 0 [d] ∧ u0.cell? ⟨bz, oz, none⟩ = some (.int .i64 z) := ⟨cell_keep hb1 hcg, HR, cell_keep hb1 hcz⟩; clear HR
  refine wpAnyH_take (i := 0) (v := .pointer (some ⟨bb, 0, none⟩)) rfl (by kernel_rfl) (by kernel_rfl) (by kernel_rfl) (fun _ _ _ h => h) (Or.inl ⟨rfl, fun w _ => by go_simp⟩) HSC ?_; simp only [Act.put, qz1, qz2, qz3, qz4, qz5, qz6]
  refine wpAnyH_take (i := 1) (v := .pointer (some ⟨bb, 0, none⟩)) rfl (by kernel_rfl) (by kernel_rfl) (by kernel_rfl) (fun _ _ _ h => h) (Or.inl ⟨rfl, fun w _ => by go_simp⟩) HSC ?_; simp only [Act.put, qz1, qz2, qz3, qz4, qz5, qz6]
  refine wpAnyH_take (i := 2) (v := .pointer (some ⟨bb, 28, none⟩)) rfl (by kernel_rfl) (by kernel_rfl) (by kernel_rfl) (fun _ _ _ h => h) (Or.inl ⟨rfl, fun w _ => by go_simp⟩) HSC ?_; simp only [Act.put, qz1, qz2, qz3, qz4, qz5, qz6]
  refine wpAnyH_take (i := 3) (v := .pointer (some ⟨gb, 0, none⟩)) rfl (by kernel_rfl) (by kernel_rfl) (by kernel_rfl) (fun _ _ _ h => h) (Or.inl ⟨rfl, fun w hw => by have h := hw.1; go_simp⟩) HSC ?_; simp only [Act.put, qz1, qz2, qz3, qz4, qz5, qz6]
  refine wpAnyH_take (i := 4) (v := .pointer (some ⟨bb, 0, none⟩)) rfl (by kernel_rfl) (by kernel_rfl) (by kernel_rfl) (fun _ _ _ h => h) (Or.inl ⟨rfl, fun w _ => by go_simp⟩) HSC ?_; simp only [Act.put, qz1, qz2, qz3, qz4, qz5, qz6]
  refine wpAnyH_take (i := 5) (v := .agg #[.int .i64 d.op, .int .i64 d.w, .int .u64 d.n, .int .i64 d.k0, .int .i64 d.k1, .int .i64 d.k2]) rfl (by kernel_rfl) (by kernel_rfl) (by kernel_rfl) (fun _ _ _ h => h) (Or.inl ⟨rfl, fun w hw => by obtain ⟨n0, n1, n2, n3, n4, n5⟩ := nd_cells hw.2.1; go_simp⟩) HSC ?_; simp only [Act.put, qz1, qz2, qz3, qz4, qz5, qz6]
  refine wpAnyH_take (i := 9) (v := .pointer (some ⟨bb, 0, none⟩)) rfl (by kernel_rfl) (by kernel_rfl) (by kernel_rfl) (fun _ _ _ h => h) (Or.inl ⟨rfl, fun w _ => by go_simp⟩) HSC ?_; simp only [Act.put, qz1, qz2, qz3, qz4, qz5, qz6]
  refine wpAnyH_take (i := 10) (v := .agg #[.int .i64 d.op, .int .i64 d.w, .int .u64 d.n, .int .i64 d.k0, .int .i64 d.k1, .int .i64 d.k2]) rfl (by kernel_rfl) (by kernel_rfl) (by kernel_rfl) (fun _ _ _ h => h) (Or.inl ⟨rfl, fun w hw => by obtain ⟨n0, n1, n2, n3, n4, n5⟩ := nd_cells hw.2.1; go_simp⟩) HSC ?_; simp only [Act.put, qz1, qz2, qz3, qz4, qz5, qz6]
  refine wpAnyH_take (i := 12) (v := .pointer (some ⟨bb, 0, none⟩)) rfl (by kernel_rfl) (by kernel_rfl) (by kernel_rfl) (fun _ _ _ h => h) (Or.inl ⟨rfl, fun w _ => by go_simp⟩) HSC ?_; simp only [Act.put, qz1, qz2, qz3, qz4, qz5, qz6]
  refine wpAnyH_take (i := 13) (v := .agg #[.int .i64 d.op, .int .i64 d.w, .int .u64 d.n, .int .i64 d.k0, .int .i64 d.k1, .int .i64 d.k2]) rfl (by kernel_rfl) (by kernel_rfl) (by kernel_rfl) (fun _ _ _ h => h) (Or.inl ⟨rfl, fun w hw => by obtain ⟨n0, n1, n2, n3, n4, n5⟩ := nd_cells hw.2.1; go_simp⟩) HSC ?_; simp only [Act.put, qz1, qz2, qz3, qz4, qz5, qz6]
  refine wpAnyH_all (rs := [6]) (by kernel_rfl) (by simp) (fun i hi => ?_)
  obtain rfl : i = 6 := by simpa using hi
  refine wpOp_one rfl ?_
  (repeat (first | (with_reducible first | refine xA ?_ | refine xB ?_ | refine xC ?_ | refine xD ?_ | refine xH ?_ | refine xI rfl ?_ | refine xE ?_ | refine xF ?_ | refine xG ?_) | go_skip | go_guarded | (go_at_call 64; (with_reducible refine (kid_any d bb q n c a0 (some ⟨bz, oz, none⟩) 1 e0 0 _ (cell_keep hb1 hcw) (cell_keep hb1 hv0) han0 (.inl ⟨rfl, HK0.out⟩)).mono ?_); rintro _ u1 ⟨rfl, hbk⟩; replace hb1 := hb1.trans (hbk.mono hb1.size); replace HSC := And.intro (cell_keep hbk HSC.1) (And.intro (HSC.2.1.below hbk) (cell_keep hbk HSC.2.2)); clear hbk) | go_values | go_skip | go_guarded | go_step | go_upon | go_back | ((with_reducible show Oper.upon _ _ _ _ _ _); go_simp) | (dsimp only)))
  refine ⟨HSC, ?_⟩
  refine wpAnyH_take (i := 7) (v := .pointer (some ⟨bz, oz, none⟩)) rfl (by kernel_rfl) (by kernel_rfl) (by kernel_rfl) (fun _ _ _ h => h) (Or.inl ⟨rfl, fun w _ => by go_simp⟩) HSC ?_; simp only [Act.put, qz1, qz2, qz3, qz4, qz5, qz6]
  refine wpAnyH_take (i := 8) (v := .int .i64 z) rfl (by kernel_rfl) (by kernel_rfl) (by kernel_rfl) (fun _ _ _ h => h) (Or.inl ⟨rfl, fun w hw => by have h := hw.2.2; go_simp⟩) HSC ?_; simp only [Act.put, qz1, qz2, qz3, qz4, qz5, qz6]
  refine wpAnyH_all (rs := [11]) (by kernel_rfl) (by simp) (fun i hi => ?_)
  obtain rfl : i = 11 := by simpa using hi
  refine wpOp_one rfl ?_
  (repeat (first | (with_reducible first | refine xA ?_ | refine xB ?_ | refine xC ?_ | refine xD ?_ | refine xH ?_ | refine xI rfl ?_ | refine xE ?_ | refine xF ?_ | refine xG ?_) | go_skip | go_guarded | (go_at_call 64; (with_reducible refine (kid_any d bb q n c a1 x1 m2 e1 1 _ (cell_keep hb1 hcw) (cell_keep hb1 hv1) han1 (.inr (.inl ⟨rfl, HK1.out⟩))).mono ?_); rintro _ u1 ⟨rfl, hbk⟩; replace hb1 := hb1.trans (hbk.mono hb1.size); replace HSC := And.intro (cell_keep hbk HSC.1) (And.intro (HSC.2.1.below hbk) (cell_keep hbk HSC.2.2)); clear hbk) | go_values | go_skip | go_guarded | go_step | go_upon | go_back | ((with_reducible show Oper.upon _ _ _ _ _ _); go_simp) | (dsimp only)))
  refine ⟨HSC, ?_⟩
  refine wpAnyH_all (rs := [14]) (by kernel_rfl) (by simp) (fun i hi => ?_)
  obtain rfl : i = 14 := by simpa using hi
  refine wpOp_one rfl ?_
  (repeat (first | (with_reducible first | refine xA ?_ | refine xB ?_ | refine xC ?_ | refine xD ?_ | refine xH ?_ | refine xI rfl ?_ | refine xE ?_ | refine xF ?_ | refine xG ?_) | go_skip | go_guarded | (go_at_call 64; (with_reducible refine (kid_any d bb q n c a2 x2 m2 e2 2 _ (cell_keep hb1 hcw) (cell_keep hb1 hv2) han2 (.inr (.inr ⟨rfl, HK2.out⟩))).mono ?_); rintro _ u1 ⟨rfl, hbk⟩; replace hb1 := hb1.trans (hbk.mono hb1.size); replace HSC := And.intro (cell_keep hbk HSC.1) (And.intro (HSC.2.1.below hbk) (cell_keep hbk HSC.2.2)); clear hbk) | go_values | go_skip | go_guarded | go_step | go_upon | go_back | ((with_reducible show Oper.upon _ _ _ _ _ _); go_simp) | (dsimp only)))
  refine ⟨HSC, ?_⟩
  refine wpAnyH_all (rs := [15]) (by kernel_rfl) (by simp) (fun i hi => ?_)
  obtain rfl : i = 15 := by simpa using hi
  refine wpOp_one rfl ?_
  have hlt := row_lt HSC.2.1
  (repeat (first | (with_reducible first | refine xA ?_ | refine xB ?_ | refine xC ?_ | refine xD ?_ | refine xH ?_ | refine xI rfl ?_ | refine xE ?_ | refine xF ?_ | refine xG ?_) | go_skip | go_guarded | (go_at_call 65; (with_reducible refine (HA.out _ hb1 hlt).mono ?_); rintro _ w2 ⟨qr, rfl, hO, hqr, hG, hK⟩) | go_values | go_skip | go_guarded | go_step | go_upon | go_back | ((with_reducible show Oper.upon _ _ _ _ _ _); go_simp) | (dsimp only)))
  refine ⟨⟨hK.cell HSC.1 (.inl H.out.xb), row_kept HSC.2.1 hK (.inr rfl), hK.cell HSC.2.2 (.inl hbzX)⟩, ?_⟩
  refine wpAnyH_all (rs := [16]) (by kernel_rfl) (by simp) (fun i hi => ?_)
  obtain rfl : i = 16 := by simpa using hi
  refine wpOp_one rfl ?_
  (repeat (first | (with_reducible first | refine xA ?_ | refine xB ?_ | refine xC ?_ | refine xD ?_ | refine xH ?_ | refine xI rfl ?_ | refine xE ?_ | refine xF ?_ | refine xG ?_) | go_values | go_skip | go_guarded | go_step | go_upon | go_back | ((with_reducible show Oper.upon _ _ _ _ _ _); go_simp) | (dsimp only)))
  refine ⟨⟨hK.cell HSC.1 (.inl H.out.xb), row_kept HSC.2.1 hK (.inr rfl), hK.cell HSC.2.2 (.inl hbzX)⟩, ?_⟩
  refine wpAnyH_done (by kernel_rfl) ?_ _
  (repeat (first | (with_reducible first | refine xA ?_ | refine xB ?_ | refine xC ?_ | refine xD ?_ | refine xH ?_ | refine xI rfl ?_ | refine xE ?_ | refine xF ?_ | refine xG ?_) | go_values | go_skip | go_guarded | go_step | go_upon | go_back | ((with_reducible show Oper.upon _ _ _ _ _ _); go_simp) | (dsimp only)))
  go_ret
  exact blastB_of H.out hb1 (fun k h => .inl (.inl h)) (hO.slX ⟨.inr rfl, hqr⟩) hG (hK.mono fun k _ h => .inl h)
end
end Go.Proofs.YtmaogkgjiplckaaGreat
namespace Go.Proofs.YtmaogkgjiplckaaGreat
open Go.RowKit
section
variable {X : Nat → Prop} {base bb gb : Nat} {b : BS} {lv wv : Value} {iv rv vs : List Value}
theorem keep_cellr {w w' : World} {r : Option Nat} {p : Addr} {c : Value} (hg : w.grownBy w' r) (h : w.cell? p = some c) (hne : some p.block ≠ r) : w'.cell? p = some c :=
  (World.cell?_of_block (hg.block p.block (World.block_lt_of_cell? w p h) hne)).trans h
theorem own_some {w : World} {B T n : Nat} {v : Value} {l : List Value} (h : w.ownsRow B T 1 v n l) (hn : 1 ≤ n) : ∃ k, v.ownBlock = some k := by
  rcases h.2 with ⟨e, h0⟩ | ⟨g, cap, cur, e, _⟩
  · omega
  · subst e; exact ⟨g, rfl⟩
theorem below_grown {w u w' : World} {r : Option Nat} (hb : Below w.heap.size w u) (hg : u.grownBy w' r) (hr : ∀ k, r = some k → w.heap.size ≤ k) : Below w.heap.size w w' :=
  ⟨hg.os.trans hb.os, hg.tape.trans hb.tape, hg.output.trans hb.output, Nat.le_trans hb.size hg.size, fun k hk => (hg.block k (Nat.lt_of_lt_of_le hk hb.size) (fun e => by have := hr k e.symm; omega)).trans (hb.block k hk)⟩
set_option maxRecDepth 100000 in
set_option maxHeartbeats 1000000 in
theorem wide_b (w : World) (h : BRep X base w bb gb b lv iv rv wv vs) (d : Nd) (a0 : Nat) (hk0 : d.k0 = a0) (ha : a0 < b.ws.length) (hl : (b.at a0).length = 1 ∨ (b.at a0).length = 8) :
    Calls Tryz.prog 47 #[.pointer (some ⟨bb, 0, none⟩), .agg #[.int .i64 d.op, .int .i64 d.w, .int .u64 d.n, .int .i64 d.k0, .int .i64 d.k1, .int .i64 d.k2]] w (WordB X base bb gb lv wv vs w (b, b.at a0 ++ constL (64 - (b.at a0).length) 0)) := by
  obtain ⟨q, n, c, x0, m0, e0, hwv, han0, hv0, hS, hm⟩ := h.word a0 ha
  have hcw := h.cw
  have hcg := h.cg
  rw [hwv] at hcw
  have hbb := h.lt
  rw [← hm] at hl
  have hm64 : m0 ≤ 8 := by omega
  have hm1 : 1 ≤ m0 := by omega
  have hmI : (64 : Int) - (m0 : Int) = ((64 - m0 : Nat) : Int) := by omega
  have Hmx := Lib.hid (show max 1 (min ((64 - m0 : Nat) : Int) 64) = ((64 - m0 : Nat) : Int) by omega)
  have H := Lib.hid h
  have HK0 := Lib.hid hk0
  have HC : Hid (∀ u : World, Below w.heap.size w u → Calls Tryz.prog 25 #[.slice x0 m0 e0] u fun e w' => ∃ v', e = .returned v' ∧ w'.ownsRow u.heap.size 3 1 v' m0 ((b.at a0).map (Value.int .i64)) ∧ Below u.heap.size u w') := Lib.hid (fun u hb => by
    have := clone_any _ _ u (hS.kept (Kept.ofBelow hb)) (by rintro e; rw [e] at hm; simp at hm; omega) (by omega)
    rw [← hm] at this
    exact this)
  have HM := Lib.hid hm
  clear h hS hwv hk0 hl hm
  have hb1 : Below w.heap.size w (w.alloc (.cells #[.int .i64 d.op, .int .i64 d.w, .int .u64 d.n, .int .i64 d.k0, .int .i64 d.k1, .int .i64 d.k2] 49)) := by (repeat (first | with_reducible exact Below.refl _ _ | assumption | with_reducible refine below_drewN ?_ _ | with_reducible refine Below.drew ?_ | with_reducible refine Below.setRow ?_ ?_ _ | with_reducible refine Below.alloc ?_ ?_ _ | with_reducible refine Below.setCell ?_ ?_ _ | with_reducible exact Nat.le_refl _ | (focus (simp; done)) | (focus (simp; omega)) | omega))
  go_enter Tryz.func47, Tryz.ntmps47
  (repeat (first | (with_reducible first | refine xA ?_ | refine xB ?_ | refine xC ?_ | refine xD ?_ | refine xH ?_ | refine xI rfl ?_ | refine xE ?_ | refine xF ?_ | refine xG ?_) | go_skip | go_guarded | (go_at_call 64; (with_reducible refine (kid_any d bb q n c a0 x0 m0 e0 0 _ (cell_keep hb1 hcw) (cell_keep hb1 hv0) han0 (.inl ⟨rfl, HK0.out⟩)).mono ?_); rintro _ u1 ⟨rfl, hbk⟩; replace hb1 := hb1.trans (hbk.mono hb1.size); clear hbk) | go_values | go_skip | go_guarded | go_step | go_upon | go_back | ((with_reducible show Oper.upon _ _ _ _ _ _); go_simp) | (dsimp only)))
  refine wp_region_held (S := fun u => u.cell? ⟨bb, 28, none⟩ = some (.pointer (some ⟨gb, 0, none⟩))) (by kernel_rfl) ?_; replace hb1 : Below w.heap.size w ({ u1 with drawn := u1.drawn + 1 } : World) := hb1.trans ⟨rfl, rfl, rfl, Nat.le_refl _, fun _ _ => rfl⟩; generalize ({ u1 with drawn := u1.drawn + 1 } : World) = u0 at *; have HSC : u0.cell? ⟨bb, 28, none⟩ = some (.pointer (some ⟨gb, 0, none⟩)) := cell_keep hb1 hcg
  refine wpAnyH_take (i := 0) (v := .slice x0 m0 e0) rfl (by kernel_rfl) (by kernel_rfl) (by kernel_rfl) (fun _ _ _ h => h) (Or.inl ⟨rfl, fun w _ => by go_simp⟩) HSC ?_; simp only [Act.put, qz1, qz2, qz3, qz4, qz5, qz6]
  refine wpAnyH_take (i := 2) (v := .pointer (some ⟨bb, 0, none⟩)) rfl (by kernel_rfl) (by kernel_rfl) (by kernel_rfl) (fun _ _ _ h => h) (Or.inl ⟨rfl, fun w _ => by go_simp⟩) HSC ?_; simp only [Act.put, qz1, qz2, qz3, qz4, qz5, qz6]
  refine wpAnyH_take (i := 3) (v := .pointer (some ⟨bb, 0, none⟩)) rfl (by kernel_rfl) (by kernel_rfl) (by kernel_rfl) (fun _ _ _ h => h) (Or.inl ⟨rfl, fun w _ => by go_simp⟩) HSC ?_; simp only [Act.put, qz1, qz2, qz3, qz4, qz5, qz6]
  refine wpAnyH_take (i := 4) (v := .pointer (some ⟨bb, 28, none⟩)) rfl (by kernel_rfl) (by kernel_rfl) (by kernel_rfl) (fun _ _ _ h => h) (Or.inl ⟨rfl, fun w _ => by go_simp⟩) HSC ?_; simp only [Act.put, qz1, qz2, qz3, qz4, qz5, qz6]
  refine wpAnyH_take (i := 5) (v := .pointer (some ⟨gb, 0, none⟩)) rfl (by kernel_rfl) (by kernel_rfl) (by kernel_rfl) (fun _ _ _ h => h) (Or.inl ⟨rfl, fun w hw => by have h := hw; go_simp⟩) HSC ?_; simp only [Act.put, qz1, qz2, qz3, qz4, qz5, qz6]
  refine wpAnyH_take (i := 6) (v := .slice x0 m0 e0) rfl (by kernel_rfl) (by kernel_rfl) (by kernel_rfl) (fun _ _ _ h => h) (Or.inl ⟨rfl, fun w _ => by go_simp⟩) HSC ?_; simp only [Act.put, qz1, qz2, qz3, qz4, qz5, qz6]
  refine wpAnyH_take (i := 7) (v := .int .i64 m0) rfl (by kernel_rfl) (by kernel_rfl) (by kernel_rfl) (fun _ _ _ h => h) (Or.inl ⟨rfl, fun w _ => by go_simp⟩) HSC ?_; simp only [Act.put, qz1, qz2, qz3, qz4, qz5, qz6]
  refine wpAnyH_take (i := 8) (v := .int .i64 ((64 - m0 : Nat) : Int)) rfl (by kernel_rfl) (by kernel_rfl) (by kernel_rfl) (fun _ _ _ h => h) (Or.inl ⟨rfl, fun w _ => by have e : IntKind.i64.wrap ((64 - m0 : Nat) : Int) = ((64 - m0 : Nat) : Int) := IntWalk.i64_in _ ⟨by omega, by omega⟩; go_simp⟩) HSC ?_
  simp only [Act.put, qz1, qz2, qz3, qz4, qz5, qz6]
  refine wpAnyH_all (rs := [1]) (by kernel_rfl) (by simp) (fun i hi => ?_)
  obtain rfl : i = 1 := by simpa using hi
  refine wpOp_one rfl ?_
  (repeat (first | (with_reducible first | refine xA ?_ | refine xB ?_ | refine xC ?_ | refine xD ?_ | refine xH ?_ | refine xI rfl ?_ | refine xE ?_ | refine xF ?_ | refine xG ?_) | go_skip | go_guarded | (go_at_call 25; (with_reducible refine (HC.out _ hb1).mono ?_); rintro _ u2 ⟨v2, rfl, hO2, hbk⟩; have hu0 := hb1.size; have hs02 := hbk.size; replace hb1 := hb1.trans (hbk.mono hb1.size); replace HSC := cell_keep hbk HSC; clear hbk) | go_values | go_skip | go_guarded | go_step | go_upon | go_back | ((with_reducible show Oper.upon _ _ _ _ _ _); go_simp) | (dsimp only)))
  refine ⟨HSC, ?_⟩
  refine wpAnyH_all (rs := [9]) (by kernel_rfl) (by simp) (fun i hi => ?_)
  obtain rfl : i = 9 := by simpa using hi
  refine wpOp_one rfl ?_
  (repeat (first | (with_reducible first | refine xA ?_ | refine xB ?_ | refine xC ?_ | refine xD ?_ | refine xH ?_ | refine xI rfl ?_ | refine xE ?_ | refine xF ?_ | refine xG ?_) | go_skip | go_guarded | (go_at_call 61; (with_reducible refine (WordC_any u2 _ ((64 - m0 : Nat) : Int) 0 (Int.le_refl 0) (by decide) (64 - m0) Hmx.out).mono ?_); rintro _ u3 ⟨rfl, hO3, hbk⟩; replace hb1 := hb1.trans (hbk.mono hb1.size); replace HSC := cell_keep hbk HSC; have hO2' := owns_kept hO2 (Kept.ofBelow (X := fun _ => True) hbk) (fun _ _ => trivial); have hsz := hbk.size; clear hbk) | go_values | go_skip | go_guarded | go_step | go_upon | go_back | ((with_reducible show Oper.upon _ _ _ _ _ _); go_simp) | (dsimp only)))
  refine ⟨HSC, ?_⟩
  have hu3 : u0.heap.size ≤ u3.heap.size := by omega
  refine wpAnyH_all (rs := [10]) (by kernel_rfl) (by simp) (fun i hi => ?_)
  obtain rfl : i = 10 := by simpa using hi
  refine wpOp_one rfl ?_
  (repeat (first | (with_reducible first | refine xA ?_ | refine xB ?_ | refine xC ?_ | refine xD ?_ | refine xH ?_ | refine xI rfl ?_ | refine xE ?_ | refine xF ?_ | refine xG ?_) | go_skip | go_guarded | ((with_reducible refine wl_id ?_); refine wl_appendI rfl _ _ rfl u0.heap.size v2 m0 _ rfl hO2' u2.heap.size 0 (64 - m0) (64 - m0) _ rfl (constL_len _ _) hO3.row (by omega) hu3 ?_; intro v4 w4 hO4 hg4 hl4; (try simp only [Act.put, qz4, qz5, qz6])) | go_values | go_skip | go_guarded | go_step | go_upon | go_back | ((with_reducible show Oper.upon _ _ _ _ _ _); go_simp) | (dsimp only)))
  obtain ⟨k2, hk2⟩ : ∃ k2, v2.ownBlock = some k2 := own_some hO2' (by omega)
  have hk2b := hO2'.lt k2 hk2
  have hne : some bb ≠ v2.ownBlock := fun e => by rw [hk2] at e; injection e with e; omega
  have HSC4 := keep_cellr hg4 HSC hne
  refine ⟨HSC4, ?_⟩
  refine wpAnyH_all (rs := [11]) (by kernel_rfl) (by simp) (fun i hi => ?_)
  obtain rfl : i = 11 := by simpa using hi
  refine wpOp_one rfl ?_
  (repeat (first | (with_reducible first | refine xA ?_ | refine xB ?_ | refine xC ?_ | refine xD ?_ | refine xH ?_ | refine xI rfl ?_ | refine xE ?_ | refine xF ?_ | refine xG ?_) | go_values | go_skip | go_guarded | go_step | go_upon | go_back | ((with_reducible show Oper.upon _ _ _ _ _ _); go_simp) | (dsimp only)))
  refine ⟨HSC4, ?_⟩
  refine wpAnyH_done (by kernel_rfl) ?_ _
  (repeat (first | (with_reducible first | refine xA ?_ | refine xB ?_ | refine xC ?_ | refine xD ?_ | refine xH ?_ | refine xI rfl ?_ | refine xE ?_ | refine xF ?_ | refine xG ?_) | go_values | go_skip | go_guarded | go_step | go_upon | go_back | ((with_reducible show Oper.upon _ _ _ _ _ _); go_simp) | (dsimp only)))
  go_ret
  have hb4 := below_grown hb1 hg4 (fun k e => by rw [hk2] at e; injection e with e; omega)
  obtain ⟨k4, hk4⟩ : ∃ k4, v4.ownBlock = some k4 := own_some hO4 (by omega)
  have hk4b := hO4.lt k4 hk4
  obtain ⟨r1, r2⟩ := H.out.owned hb4 (q := k4) (by omega) hk4b.2
  rw [← HM.out]
  exact ⟨v4, _, iv, rv, rfl, fun k hk => .inl hk, r1, own_sl hO4 (fun k e => by rw [hk4] at e; injection e with e; subst e; exact r2), Kept.ofBelow hb4⟩
end
end Go.Proofs.YtmaogkgjiplckaaGreat
namespace Go.Proofs.YtmaogkgjiplckaaGreat
open Go.RowKit
section
variable {X : Nat → Prop} {base bb gb : Nat} {b : BS} {lv wv : Value} {iv rv vs : List Value}
theorem set_grown {w : World} {q i : Nat} {v : Value} : w.grownBy (w.setCell ⟨q, i, none⟩ v) (some q) := ⟨rfl, rfl, rfl, by simp, fun k hk hn => heap_setCell_other _ _ k _ (fun e => hn (by rw [e]))⟩
theorem slsx_set {Z : Nat → Prop} {w : World} {xs : List Value} {cl : List (List Int)} (h : SlsX Z w xs cl) (i : Nat) {v : Value} {l : List Int} (hv : SlX Z w v l) : SlsX Z w (xs.set i v) (cl.set i l) := by
  refine ⟨by rw [List.length_set, List.length_set]; exact h.1, fun j x m hx hm => ?_⟩
  by_cases e : i = j
  · subst e
    rw [List.getElem?_set] at hx hm
    rw [if_pos rfl] at hx hm
    split at hx
    · rename_i hl
      rw [if_pos (by rw [← h.1]; exact hl)] at hm
      injection hx with hx
      injection hm with hm
      subst hx; subst hm
      exact hv
    · cases hx
  · rw [List.getElem?_set_ne e] at hx hm
    exact h.2 j x m hx hm
theorem BRep.setI {w : World} (h : BRep X base w bb gb b lv iv rv wv vs) {i : Nat} (hi : i < 16) {v : Value} {l : List Int} (hv : SlX (BZ X bb wv) w v l) (hne : l ≠ []) :
    BRep X base (w.setCell ⟨bb, 3 + i, none⟩ v) bb gb ⟨b.g, b.ws, b.inp.set i l, b.reg⟩ lv (iv.set i v) rv wv vs := by
  have hg : w.grownBy (w.setCell ⟨bb, 3 + i, none⟩ v) (some bb) := set_grown
  have hk : Kept (fun k => k ≠ bb) w (w.setCell ⟨bb, 3 + i, none⟩ v) := ⟨hg.os, hg.tape, hg.output, hg.size, fun i hi hx => hg.block i hi (fun e => hx (by injection e))⟩
  have kz := hk.mono (Y := BZ X bb wv) fun k _ hz => hz.2.1
  have hbox := heap_setCell_same w bb (3 + i) _ _ v h.box
  rw [List.setIfInBounds_toArray, bc_set_inp h.il v hi] at hbox
  refine ⟨hbox, h.xb, h.gr.other hg h.xb, by rw [List.length_set]; exact h.il, h.rl, (slsx_set h.inp i hv).kept kz, h.reg.kept kz, ?_, ?_, owns_kept h.row hk fun k e => (h.xw k e).2, h.xw, h.words.kept kz⟩
  · intro j x hx hm
    by_cases e : i = j
    · subst e
      exfalso
      rw [List.getElem?_set, if_pos rfl] at hm
      split at hm
      · injection hm with hm; exact hne hm
      · cases hm
    · exact h.ni j x (by rwa [List.getElem?_set_ne e] at hx) (by rwa [List.getElem?_set_ne e] at hm)
  · exact h.nr
set_option maxRecDepth 100000 in
set_option maxHeartbeats 1000000 in
theorem input_b (w : World) (h : BRep X base w bb gb b lv iv rv wv vs) (hIL : b.inp.length = 16) (op wd k0 k1 k2 : Int) (i : Nat) (hi : i < 16) (hn : b.g.n + 8 ≤ 1048576) (r : BS × List Int) (hr : Hid ((if b.inp.getD i [] = [] then (⟨addV b.g 8, b.ws, b.inp.set i (freeL b.g.n 8), b.reg⟩, freeL b.g.n 8) else (b, b.inp.getD i [])) = r)) :
    Calls Tryz.prog 44 #[.pointer (some ⟨bb, 0, none⟩), .agg #[.int .i64 op, .int .i64 wd, .int .u64 (i : Nat), .int .i64 k0, .int .i64 k1, .int .i64 k2]] w (WordB X base bb gb lv wv vs w r) := by
  have q28 : ∀ (w : World) (a : Option Addr) (n c n' c' : Nat), (binOp .eql 31 (.slice a n c) (.slice none n' c')).run Tryz.prog w = .ok (.bool a.isNone) w := fun w a n c n' c' => Lib.run_eql_slice_nil w _ _ a n c n' c' Tryz.underlying31
  have hiI : (i : Int) < 16 := by omega
  have hi0 : (0 : Int) ≤ (i : Int) := by omega
  have hil := h.inp.1
  obtain ⟨v, hv⟩ : ∃ v, iv[i]? = some v := ⟨_, List.getElem?_eq_getElem (by omega)⟩
  obtain ⟨l, hl⟩ : ∃ l, b.inp[i]? = some l := ⟨_, List.getElem?_eq_getElem (by omega)⟩
  have hgd : b.inp.getD i [] = l := by rw [List.getD_eq_getElem?_getD, hl]; rfl
  have hS := h.inp.2 i v l hv hl
  have hc := h.ci hv
  have hX := box_row w ⟨op, wd, (i : Nat), k0, k1, k2⟩ 49
  dsimp only at hX
  have hb1 : Below w.heap.size w (w.alloc (.cells #[.int .i64 op, .int .i64 wd, .int .u64 (i : Nat), .int .i64 k0, .int .i64 k1, .int .i64 k2] 49)) := by (repeat (first | with_reducible exact Below.refl _ _ | assumption | with_reducible refine below_drewN ?_ _ | with_reducible refine Below.drew ?_ | with_reducible refine Below.setRow ?_ ?_ _ | with_reducible refine Below.alloc ?_ ?_ _ | with_reducible refine Below.setCell ?_ ?_ _ | with_reducible exact Nat.le_refl _ | (focus (simp; done)) | (focus (simp; omega)) | omega))
  have H := Lib.hid h
  by_cases h0 : l = []
  · subst h0
    have hv0 := h.ni i v hv hl
    subst hv0
    have hr1 := hr.out
    rw [hgd, if_pos rfl] at hr1
    have HR := Lib.hid hr1
    have HL := Lib.hid hl
    have HV := Lib.hid hv
    have Hn := Lib.hid hn
    clear h hr hr1 hgd hl hv hS hn
    go_enter Tryz.func44, Tryz.ntmps44
    (repeat (first | (with_reducible first | refine xA ?_ | refine xB ?_ | refine xC ?_ | refine xD ?_ | refine xH ?_ | refine xI rfl ?_ | refine xE ?_ | refine xF ?_ | refine xG ?_) | go_values | go_skip | go_guarded | go_step | go_upon | go_back | ((with_reducible show Oper.upon _ _ _ _ _ _); go_simp) | (dsimp only)))
    refine wp_abs (fun u => Below w.heap.size w u ∧ RowAt 6 Nd.cells u w.heap.size 0 [⟨op, wd, (i : Nat), k0, k1, k2⟩]) ⟨hb1, hX⟩ ?_
    clear hb1 hX
    rintro w1 ⟨hb1, HR1⟩
    have hc1 := cell_keep hb1 hc
    obtain ⟨n0, n1, n2, n3, n4, n5⟩ := nd_cells HR1
    dsimp only at n2
    clear n0 n1 n3 n4 n5
    go_quiet (fail)
    (repeat (first | (with_reducible first | refine xA ?_ | refine xB ?_ | refine xC ?_ | refine xD ?_ | refine xH ?_ | refine xI rfl ?_ | refine xE ?_ | refine xF ?_ | refine xG ?_) | go_values | go_skip | go_guarded | go_step | go_upon | go_back | ((with_reducible show Oper.upon _ _ _ _ _ _); go_simp) | (dsimp only)))
    refine wp_abs (fun u => Below w.heap.size w u ∧ RowAt 6 Nd.cells u w.heap.size 0 [⟨op, wd, (i : Nat), k0, k1, k2⟩]) ⟨below_drewN hb1 _, HR1⟩ ?_
    clear hb1 HR1 hc1 n2
    rintro w1 ⟨hb1, HR1⟩
    refine wp_region_held (S := fun u => RowAt 6 Nd.cells u w.heap.size 0 [⟨op, wd, (i : Nat), k0, k1, k2⟩]) (by kernel_rfl) ?_
    replace HR1 : RowAt 6 Nd.cells ({ w1 with drawn := w1.drawn + 1 } : World) w.heap.size 0 [⟨op, wd, (i : Nat), k0, k1, k2⟩] := HR1
    replace hb1 : Below w.heap.size w ({ w1 with drawn := w1.drawn + 1 } : World) := hb1.trans ⟨rfl, rfl, rfl, Nat.le_refl _, fun _ _ => rfl⟩
    generalize ({ w1 with drawn := w1.drawn + 1 } : World) = u0 at *
    have HSC := HR1
    clear HR1
    refine wpAnyH_take (i := 0) (v := .pointer (some ⟨bb, 0, none⟩)) rfl (by kernel_rfl) (by kernel_rfl) (by kernel_rfl) (fun _ _ _ h => h) (Or.inl ⟨rfl, fun w _ => by go_simp⟩) HSC ?_; simp only [Act.put, qz1, qz2, qz3, qz4, qz5, qz6]
    refine wpAnyH_take (i := 1) (v := .pointer (some ⟨w.heap.size, 2, none⟩)) rfl (by kernel_rfl) (by kernel_rfl) (by kernel_rfl) (fun _ _ _ h => h) (Or.inl ⟨rfl, fun w _ => by go_simp⟩) HSC ?_; simp only [Act.put, qz1, qz2, qz3, qz4, qz5, qz6]
    refine wpAnyH_take (i := 2) (v := .int .u64 (i : Nat)) rfl (by kernel_rfl) (by kernel_rfl) (by kernel_rfl) (fun _ _ _ h => h) (Or.inl ⟨rfl, fun w hw => by have n2 := (nd_cells hw).2.2.1; dsimp only at n2; go_simp⟩) HSC ?_; simp only [Act.put, qz1, qz2, qz3, qz4, qz5, qz6]
    refine wpAnyH_take (i := 3) (v := .pointer (some ⟨bb, 0, none⟩)) rfl (by kernel_rfl) (by kernel_rfl) (by kernel_rfl) (fun _ _ _ h => h) (Or.inl ⟨rfl, fun w _ => by go_simp⟩) HSC ?_; simp only [Act.put, qz1, qz2, qz3, qz4, qz5, qz6]
    refine wpAnyH_take (i := 5) (v := .pointer (some ⟨bb, 0, none⟩)) rfl (by kernel_rfl) (by kernel_rfl) (by kernel_rfl) (fun _ _ _ h => h) (Or.inl ⟨rfl, fun w _ => by go_simp⟩) HSC ?_; simp only [Act.put, qz1, qz2, qz3, qz4, qz5, qz6]
    refine wpAnyH_take (i := 6) (v := .pointer (some ⟨bb, 0, none⟩)) rfl (by kernel_rfl) (by kernel_rfl) (by kernel_rfl) (fun _ _ _ h => h) (Or.inl ⟨rfl, fun w _ => by go_simp⟩) HSC ?_; simp only [Act.put, qz1, qz2, qz3, qz4, qz5, qz6]
    refine wpAnyH_take (i := 7) (v := .pointer (some ⟨bb, 3, none⟩)) rfl (by kernel_rfl) (by kernel_rfl) (by kernel_rfl) (fun _ _ _ h => h) (Or.inl ⟨rfl, fun w _ => by go_simp⟩) HSC ?_; simp only [Act.put, qz1, qz2, qz3, qz4, qz5, qz6]
    refine wpAnyH_all (rs := [4]) (by kernel_rfl) (by simp) (fun i hj => ?_)
    obtain rfl : i = 4 := by simpa using hj
    refine wpOp_one rfl ?_
    obtain ⟨hO, hzq⟩ := H.out.owned hb1 (q := w.heap.size) (Nat.le_refl _) (row_lt HSC)
    have hcg := hO.cg
    have HF : Hid (Calls Tryz.prog 62 #[.pointer (some ⟨bb, 0, none⟩), .int .i64 8] u0 fun e w' => e = .returned (.slice (some ⟨u0.heap.size, 0, none⟩) 8 8) ∧ OwnI w' u0.heap.size 8 (freeL b.g.n 8) ∧ GR (fun k => (X k ∨ k = w.heap.size) ∨ k = u0.heap.size) base w' gb (addV b.g 8) ∧ Kept (fun k => X k ∨ k = w.heap.size) u0 w') := Lib.hid (bfree_any _ hO.gr hcg hO.xb 8 (by decide) (by decide) Hn.out)
    (repeat (first | (with_reducible first | refine xA ?_ | refine xB ?_ | refine xC ?_ | refine xD ?_ | refine xH ?_ | refine xI rfl ?_ | refine xE ?_ | refine xF ?_ | refine xG ?_) | go_skip | go_guarded | (go_at_call 62; (with_reducible refine HF.out.mono ?_); rintro _ w2 ⟨rfl, hF, hG, hK⟩) | go_values | go_skip | go_guarded | go_step | go_upon | go_back | ((with_reducible show Oper.upon _ _ _ _ _ _); go_simp) | (dsimp only)))
    have hR2 := row_kept HSC hK (.inr rfl)
    refine ⟨hR2, ?_⟩
    refine wpAnyH_take (i := 8) (v := .pointer (some ⟨bb, 3 + i, none⟩)) rfl (by kernel_rfl) (by kernel_rfl) (by kernel_rfl) (fun _ _ _ h => h) (Or.inl ⟨rfl, fun w _ => by go_simp⟩) hR2 ?_
    simp only [Act.put, qz1, qz2, qz3, qz4, qz5, qz6]
    refine wpAnyH_all (rs := [9]) (by kernel_rfl) (by simp) (fun i hj => ?_)
    obtain rfl : i = 9 := by simpa using hj
    refine wpOp_one rfl ?_
    have hT := hO.turn hK hG (fun k h => .inl h)
    have hcell := hT.ci HV.out
    have hfr := frozen_of_row w2 bb (3 + i) _ _ hT.box
    (repeat (first | (with_reducible first | refine xA ?_ | refine xB ?_ | refine xC ?_ | refine xD ?_ | refine xH ?_ | refine xI rfl ?_ | refine xE ?_ | refine xF ?_ | refine xG ?_) | go_values | go_skip | go_guarded | go_step | go_upon | go_back | ((with_reducible show Oper.upon _ _ _ _ _ _); go_simp) | (dsimp only)))
    have hZ : BZ (fun k => (X k ∨ k = w.heap.size) ∨ k = u0.heap.size) bb wv u0.heap.size := ⟨.inr rfl, by have := hO.lt; omega, fun e => by have := hO.gr.xb _ (hO.xw _ e.symm).1; omega⟩
    have hT2 := hT.setI hi (hF.slX hZ) (by intro e; have := freeL_len b.g.n 8; rw [e] at this; cases this)
    have hsg : w2.grownBy (w2.setCell ⟨bb, 3 + i, none⟩ (.slice (some ⟨u0.heap.size, 0, none⟩) 8 8)) (some bb) := set_grown
    have hne : w.heap.size ≠ bb := fun e => hzq.2.1 e
    have hks : Kept (fun k => k ≠ bb) w2 (w2.setCell ⟨bb, 3 + i, none⟩ (.slice (some ⟨u0.heap.size, 0, none⟩) 8 8)) := ⟨hsg.os, hsg.tape, hsg.output, hsg.size, fun i hi hx => hsg.block i hi (fun e => hx (by injection e))⟩
    have hR3 := row_kept hR2 hks hne
    refine ⟨hR3, ?_⟩
    refine wpAnyH_done (by kernel_rfl) ?_ _
    (repeat (first | (with_reducible first | refine xA ?_ | refine xB ?_ | refine xC ?_ | refine xD ?_ | refine xH ?_ | refine xI rfl ?_ | refine xE ?_ | refine xF ?_ | refine xG ?_) | go_values | go_skip | go_guarded | go_step | go_upon | go_back | ((with_reducible show Oper.upon _ _ _ _ _ _); go_simp) | (dsimp only)))
    have hSL := (hF.slX hZ).kept (hks.mono fun k _ h => h.2.1)
    have hKK : Kept (fun k => X k ∧ k ≠ bb) w (w2.setCell ⟨bb, 3 + i, none⟩ (.slice (some ⟨u0.heap.size, 0, none⟩) 8 8)) := ((Kept.ofBelow hb1).trans (hK.mono fun k _ h => .inl h.1)).trans (hks.mono fun k _ h => h.2)
    have hcell3 := hT2.ci (i := i) (v := .slice (some ⟨u0.heap.size, 0, none⟩) 8 8) (by rw [List.getElem?_set_self (by have := (List.getElem?_eq_some_iff.1 HV.out).1; exact this)])
    have HT := Lib.hid hT2
    have HSL := Lib.hid hSL
    have HKK := Lib.hid hKK
    refine wp_abs (fun u => u = (w2.setCell ⟨bb, 3 + i, none⟩ (.slice (some ⟨u0.heap.size, 0, none⟩) 8 8))) rfl ?_
    intro w3 e3
    rw [← e3] at HT HSL HKK hR3 hcell3
    obtain ⟨n0, n1, n2, n3, n4, n5⟩ := nd_cells hR3
    dsimp only at n2
    clear n0 n1 n3 n4 n5 e3 hT2 hSL hKK hsg hks hT hcell hfr hR2 hR3 hcg hO hG hK hF
    go_quiet (fail)
    (repeat (first | (with_reducible first | refine xA ?_ | refine xB ?_ | refine xC ?_ | refine xD ?_ | refine xH ?_ | refine xI rfl ?_ | refine xE ?_ | refine xF ?_ | refine xG ?_) | go_values | go_skip | go_guarded | go_step | go_upon | go_back | ((with_reducible show Oper.upon _ _ _ _ _ _); go_simp) | (dsimp only)))
    go_ret
    rw [← HR.out]
    have hbd : Below w3.heap.size w3 (w3.drewN nq) := below_drewN (Below.refl _ _) _
    exact ⟨_, _, _, _, rfl, fun k h => .inl (.inl h), HT.out.below hbd, HSL.out.kept (Kept.ofBelow hbd), HKK.out.trans (Kept.ofBelow hbd)⟩
  · have hv2 : ∃ bq oq c, v = .slice (some ⟨bq, oq, none⟩) l.length c := by
      obtain ⟨ao, c, rfl⟩ := hS.shape
      obtain ⟨bq, oq, rfl, _⟩ := hS.row (List.length_pos_iff.2 h0)
      exact ⟨bq, oq, c, rfl⟩
    obtain ⟨bq, oq, c, rfl⟩ := hv2
    have hr1 := hr.out
    rw [hgd, if_neg h0] at hr1
    subst hr1
    have HS := Lib.hid hS
    clear h hr hgd hl hv hS hn h0
    go_enter Tryz.func44, Tryz.ntmps44
    (repeat (first | (with_reducible first | refine xA ?_ | refine xB ?_ | refine xC ?_ | refine xD ?_ | refine xH ?_ | refine xI rfl ?_ | refine xE ?_ | refine xF ?_ | refine xG ?_) | go_values | go_skip | go_guarded | go_step | go_upon | go_back | ((with_reducible show Oper.upon _ _ _ _ _ _); go_simp) | (dsimp only)))
    refine wp_abs (fun u => Below w.heap.size w u ∧ RowAt 6 Nd.cells u w.heap.size 0 [⟨op, wd, (i : Nat), k0, k1, k2⟩]) ⟨hb1, hX⟩ ?_
    clear hb1 hX
    rintro w1 ⟨hb1, HR1⟩
    have hc1 := cell_keep hb1 hc
    obtain ⟨n0, n1, n2, n3, n4, n5⟩ := nd_cells HR1
    dsimp only at n2
    clear n0 n1 n3 n4 n5
    go_quiet (fail)
    (repeat (first | (with_reducible first | refine xA ?_ | refine xB ?_ | refine xC ?_ | refine xD ?_ | refine xH ?_ | refine xI rfl ?_ | refine xE ?_ | refine xF ?_ | refine xG ?_) | go_values | go_skip | go_guarded | go_step | go_upon | go_back | ((with_reducible show Oper.upon _ _ _ _ _ _); go_simp) | (dsimp only)))
    refine wp_abs (fun u => Below w.heap.size w u ∧ u.cell? ⟨bb, 3 + i, none⟩ = some (.slice (some ⟨bq, oq, none⟩) l.length c) ∧ u.cell? ⟨w.heap.size, 2, none⟩ = some (.int .u64 (i : Nat))) ⟨below_drewN hb1 _, hc1, n2⟩ ?_
    clear hb1 HR1 hc1 n2
    rintro w1 ⟨hb1, hc1, n2⟩
    go_quiet (fail)
    (repeat (first | (with_reducible first | refine xA ?_ | refine xB ?_ | refine xC ?_ | refine xD ?_ | refine xH ?_ | refine xI rfl ?_ | refine xE ?_ | refine xF ?_ | refine xG ?_) | go_values | go_skip | go_guarded | go_step | go_upon | go_back | ((with_reducible show Oper.upon _ _ _ _ _ _); go_simp) | (dsimp only)))
    go_ret
    exact WordB.of_below H.out (below_drewN hb1 _) HS.out
end
end Go.Proofs.YtmaogkgjiplckaaGreat
namespace Go.Proofs.YtmaogkgjiplckaaGreat
open Go.RowKit
section
variable {X : Nat → Prop} {base bb gb : Nat} {b : BS} {lv wv : Value} {iv rv vs : List Value}
theorem BRep.setR {w : World} (h : BRep X base w bb gb b lv iv rv wv vs) {i : Nat} (hi : i < 8) {v : Value} {l : List Int} (hv : SlX (BZ X bb wv) w v l) (hne : l ≠ []) :
    BRep X base (w.setCell ⟨bb, 19 + i, none⟩ v) bb gb ⟨b.g, b.ws, b.inp, b.reg.set i l⟩ lv iv (rv.set i v) wv vs := by
  have hg : w.grownBy (w.setCell ⟨bb, 19 + i, none⟩ v) (some bb) := set_grown
  have hk : Kept (fun k => k ≠ bb) w (w.setCell ⟨bb, 19 + i, none⟩ v) := ⟨hg.os, hg.tape, hg.output, hg.size, fun i hi hx => hg.block i hi (fun e => hx (by injection e))⟩
  have kz := hk.mono (Y := BZ X bb wv) fun k _ hz => hz.2.1
  have hbox := heap_setCell_same w bb (19 + i) _ _ v h.box
  rw [List.setIfInBounds_toArray, bc_set_reg h.il h.rl v hi] at hbox
  refine ⟨hbox, h.xb, h.gr.other hg h.xb, h.il, by rw [List.length_set]; exact h.rl, h.inp.kept kz, (slsx_set h.reg i hv).kept kz, ?_, ?_, owns_kept h.row hk fun k e => (h.xw k e).2, h.xw, h.words.kept kz⟩
  · exact h.ni
  · intro j x hx hm
    by_cases e : i = j
    · subst e
      exfalso
      rw [List.getElem?_set, if_pos rfl] at hm
      split at hm
      · injection hm with hm; exact hne hm
      · cases hm
    · exact h.nr j x (by rwa [List.getElem?_set_ne e] at hx) (by rwa [List.getElem?_set_ne e] at hm)
set_option maxRecDepth 100000 in
set_option maxHeartbeats 1000000 in
theorem reg_b (w : World) (h : BRep X base w bb gb b lv iv rv wv vs) (hIL : b.reg.length = 8) (op wd k0 k1 k2 : Int) (i : Nat) (hi : i < 8) (hn : b.g.n + 64 ≤ 1048576) (r : BS × List Int) (hr : Hid ((if b.reg.getD i [] = [] then (⟨addV b.g 64, b.ws, b.inp, b.reg.set i (freeL b.g.n 64)⟩, freeL b.g.n 64) else (b, b.reg.getD i [])) = r)) :
    Calls Tryz.prog 45 #[.pointer (some ⟨bb, 0, none⟩), .agg #[.int .i64 op, .int .i64 wd, .int .u64 (i : Nat), .int .i64 k0, .int .i64 k1, .int .i64 k2]] w (WordB X base bb gb lv wv vs w r) := by
  have q28 : ∀ (w : World) (a : Option Addr) (n c n' c' : Nat), (binOp .eql 31 (.slice a n c) (.slice none n' c')).run Tryz.prog w = .ok (.bool a.isNone) w := fun w a n c n' c' => Lib.run_eql_slice_nil w _ _ a n c n' c' Tryz.underlying31
  have hiI : (i : Int) < 8 := by omega
  have hi0 : (0 : Int) ≤ (i : Int) := by omega
  have hil := h.reg.1
  obtain ⟨v, hv⟩ : ∃ v, rv[i]? = some v := ⟨_, List.getElem?_eq_getElem (by omega)⟩
  obtain ⟨l, hl⟩ : ∃ l, b.reg[i]? = some l := ⟨_, List.getElem?_eq_getElem (by omega)⟩
  have hgd : b.reg.getD i [] = l := by rw [List.getD_eq_getElem?_getD, hl]; rfl
  have hS := h.reg.2 i v l hv hl
  have hc := h.cr hv
  have hX := box_row w ⟨op, wd, (i : Nat), k0, k1, k2⟩ 49
  dsimp only at hX
  have hb1 : Below w.heap.size w (w.alloc (.cells #[.int .i64 op, .int .i64 wd, .int .u64 (i : Nat), .int .i64 k0, .int .i64 k1, .int .i64 k2] 49)) := by (repeat (first | with_reducible exact Below.refl _ _ | assumption | with_reducible refine below_drewN ?_ _ | with_reducible refine Below.drew ?_ | with_reducible refine Below.setRow ?_ ?_ _ | with_reducible refine Below.alloc ?_ ?_ _ | with_reducible refine Below.setCell ?_ ?_ _ | with_reducible exact Nat.le_refl _ | (focus (simp; done)) | (focus (simp; omega)) | omega))
  have H := Lib.hid h
  by_cases h0 : l = []
  · subst h0
    have hv0 := h.nr i v hv hl
    subst hv0
    have hr1 := hr.out
    rw [hgd, if_pos rfl] at hr1
    have HR := Lib.hid hr1
    have HL := Lib.hid hl
    have HV := Lib.hid hv
    have Hn := Lib.hid hn
    clear h hr hr1 hgd hl hv hS hn
    go_enter Tryz.func45, Tryz.ntmps45
    (repeat (first | (with_reducible first | refine xA ?_ | refine xB ?_ | refine xC ?_ | refine xD ?_ | refine xH ?_ | refine xI rfl ?_ | refine xE ?_ | refine xF ?_ | refine xG ?_) | go_values | go_skip | go_guarded | go_step | go_upon | go_back | ((with_reducible show Oper.upon _ _ _ _ _ _); go_simp) | (dsimp only)))
    refine wp_abs (fun u => Below w.heap.size w u ∧ RowAt 6 Nd.cells u w.heap.size 0 [⟨op, wd, (i : Nat), k0, k1, k2⟩]) ⟨hb1, hX⟩ ?_
    clear hb1 hX
    rintro w1 ⟨hb1, HR1⟩
    have hc1 := cell_keep hb1 hc
    obtain ⟨n0, n1, n2, n3, n4, n5⟩ := nd_cells HR1
    dsimp only at n2
    clear n0 n1 n3 n4 n5
    go_quiet (fail)
    (repeat (first | (with_reducible first | refine xA ?_ | refine xB ?_ | refine xC ?_ | refine xD ?_ | refine xH ?_ | refine xI rfl ?_ | refine xE ?_ | refine xF ?_ | refine xG ?_) | go_values | go_skip | go_guarded | go_step | go_upon | go_back | ((with_reducible show Oper.upon _ _ _ _ _ _); go_simp) | (dsimp only)))
    refine wp_abs (fun u => Below w.heap.size w u ∧ RowAt 6 Nd.cells u w.heap.size 0 [⟨op, wd, (i : Nat), k0, k1, k2⟩]) ⟨below_drewN hb1 _, HR1⟩ ?_
    clear hb1 HR1 hc1 n2
    rintro w1 ⟨hb1, HR1⟩
    refine wp_region_held (S := fun u => RowAt 6 Nd.cells u w.heap.size 0 [⟨op, wd, (i : Nat), k0, k1, k2⟩]) (by kernel_rfl) ?_
    replace HR1 : RowAt 6 Nd.cells ({ w1 with drawn := w1.drawn + 1 } : World) w.heap.size 0 [⟨op, wd, (i : Nat), k0, k1, k2⟩] := HR1
    replace hb1 : Below w.heap.size w ({ w1 with drawn := w1.drawn + 1 } : World) := hb1.trans ⟨rfl, rfl, rfl, Nat.le_refl _, fun _ _ => rfl⟩
    generalize ({ w1 with drawn := w1.drawn + 1 } : World) = u0 at *
    have HSC := HR1
    clear HR1
    refine wpAnyH_take (i := 0) (v := .pointer (some ⟨bb, 0, none⟩)) rfl (by kernel_rfl) (by kernel_rfl) (by kernel_rfl) (fun _ _ _ h => h) (Or.inl ⟨rfl, fun w _ => by go_simp⟩) HSC ?_; simp only [Act.put, qz1, qz2, qz3, qz4, qz5, qz6]
    refine wpAnyH_take (i := 1) (v := .pointer (some ⟨w.heap.size, 2, none⟩)) rfl (by kernel_rfl) (by kernel_rfl) (by kernel_rfl) (fun _ _ _ h => h) (Or.inl ⟨rfl, fun w _ => by go_simp⟩) HSC ?_; simp only [Act.put, qz1, qz2, qz3, qz4, qz5, qz6]
    refine wpAnyH_take (i := 2) (v := .int .u64 (i : Nat)) rfl (by kernel_rfl) (by kernel_rfl) (by kernel_rfl) (fun _ _ _ h => h) (Or.inl ⟨rfl, fun w hw => by have n2 := (nd_cells hw).2.2.1; dsimp only at n2; go_simp⟩) HSC ?_; simp only [Act.put, qz1, qz2, qz3, qz4, qz5, qz6]
    refine wpAnyH_take (i := 3) (v := .pointer (some ⟨bb, 0, none⟩)) rfl (by kernel_rfl) (by kernel_rfl) (by kernel_rfl) (fun _ _ _ h => h) (Or.inl ⟨rfl, fun w _ => by go_simp⟩) HSC ?_; simp only [Act.put, qz1, qz2, qz3, qz4, qz5, qz6]
    refine wpAnyH_take (i := 5) (v := .pointer (some ⟨bb, 0, none⟩)) rfl (by kernel_rfl) (by kernel_rfl) (by kernel_rfl) (fun _ _ _ h => h) (Or.inl ⟨rfl, fun w _ => by go_simp⟩) HSC ?_; simp only [Act.put, qz1, qz2, qz3, qz4, qz5, qz6]
    refine wpAnyH_take (i := 6) (v := .pointer (some ⟨bb, 0, none⟩)) rfl (by kernel_rfl) (by kernel_rfl) (by kernel_rfl) (fun _ _ _ h => h) (Or.inl ⟨rfl, fun w _ => by go_simp⟩) HSC ?_; simp only [Act.put, qz1, qz2, qz3, qz4, qz5, qz6]
    refine wpAnyH_take (i := 7) (v := .pointer (some ⟨bb, 19, none⟩)) rfl (by kernel_rfl) (by kernel_rfl) (by kernel_rfl) (fun _ _ _ h => h) (Or.inl ⟨rfl, fun w _ => by go_simp⟩) HSC ?_; simp only [Act.put, qz1, qz2, qz3, qz4, qz5, qz6]
    refine wpAnyH_all (rs := [4]) (by kernel_rfl) (by simp) (fun i hj => ?_)
    obtain rfl : i = 4 := by simpa using hj
    refine wpOp_one rfl ?_
    obtain ⟨hO, hzq⟩ := H.out.owned hb1 (q := w.heap.size) (Nat.le_refl _) (row_lt HSC)
    have hcg := hO.cg
    have HF : Hid (Calls Tryz.prog 62 #[.pointer (some ⟨bb, 0, none⟩), .int .i64 64] u0 fun e w' => e = .returned (.slice (some ⟨u0.heap.size, 0, none⟩) 64 64) ∧ OwnI w' u0.heap.size 64 (freeL b.g.n 64) ∧ GR (fun k => (X k ∨ k = w.heap.size) ∨ k = u0.heap.size) base w' gb (addV b.g 64) ∧ Kept (fun k => X k ∨ k = w.heap.size) u0 w') := Lib.hid (bfree_any _ hO.gr hcg hO.xb 64 (by decide) (by decide) Hn.out)
    (repeat (first | (with_reducible first | refine xA ?_ | refine xB ?_ | refine xC ?_ | refine xD ?_ | refine xH ?_ | refine xI rfl ?_ | refine xE ?_ | refine xF ?_ | refine xG ?_) | go_skip | go_guarded | (go_at_call 62; (with_reducible refine HF.out.mono ?_); rintro _ w2 ⟨rfl, hF, hG, hK⟩) | go_values | go_skip | go_guarded | go_step | go_upon | go_back | ((with_reducible show Oper.upon _ _ _ _ _ _); go_simp) | (dsimp only)))
    have hR2 := row_kept HSC hK (.inr rfl)
    refine ⟨hR2, ?_⟩
    refine wpAnyH_take (i := 8) (v := .pointer (some ⟨bb, 19 + i, none⟩)) rfl (by kernel_rfl) (by kernel_rfl) (by kernel_rfl) (fun _ _ _ h => h) (Or.inl ⟨rfl, fun w _ => by go_simp⟩) hR2 ?_
    simp only [Act.put, qz1, qz2, qz3, qz4, qz5, qz6]
    refine wpAnyH_all (rs := [9]) (by kernel_rfl) (by simp) (fun i hj => ?_)
    obtain rfl : i = 9 := by simpa using hj
    refine wpOp_one rfl ?_
    have hT := hO.turn hK hG (fun k h => .inl h)
    have hcell := hT.cr HV.out
    have hfr := frozen_of_row w2 bb (19 + i) _ _ hT.box
    (repeat (first | (with_reducible first | refine xA ?_ | refine xB ?_ | refine xC ?_ | refine xD ?_ | refine xH ?_ | refine xI rfl ?_ | refine xE ?_ | refine xF ?_ | refine xG ?_) | go_values | go_skip | go_guarded | go_step | go_upon | go_back | ((with_reducible show Oper.upon _ _ _ _ _ _); go_simp) | (dsimp only)))
    have hZ : BZ (fun k => (X k ∨ k = w.heap.size) ∨ k = u0.heap.size) bb wv u0.heap.size := ⟨.inr rfl, by have := hO.lt; omega, fun e => by have := hO.gr.xb _ (hO.xw _ e.symm).1; omega⟩
    have hT2 := hT.setR hi (hF.slX hZ) (by intro e; have := freeL_len b.g.n 64; rw [e] at this; cases this)
    have hsg : w2.grownBy (w2.setCell ⟨bb, 19 + i, none⟩ (.slice (some ⟨u0.heap.size, 0, none⟩) 64 64)) (some bb) := set_grown
    have hne : w.heap.size ≠ bb := fun e => hzq.2.1 e
    have hks : Kept (fun k => k ≠ bb) w2 (w2.setCell ⟨bb, 19 + i, none⟩ (.slice (some ⟨u0.heap.size, 0, none⟩) 64 64)) := ⟨hsg.os, hsg.tape, hsg.output, hsg.size, fun i hi hx => hsg.block i hi (fun e => hx (by injection e))⟩
    have hR3 := row_kept hR2 hks hne
    refine ⟨hR3, ?_⟩
    refine wpAnyH_done (by kernel_rfl) ?_ _
    (repeat (first | (with_reducible first | refine xA ?_ | refine xB ?_ | refine xC ?_ | refine xD ?_ | refine xH ?_ | refine xI rfl ?_ | refine xE ?_ | refine xF ?_ | refine xG ?_) | go_values | go_skip | go_guarded | go_step | go_upon | go_back | ((with_reducible show Oper.upon _ _ _ _ _ _); go_simp) | (dsimp only)))
    have hSL := (hF.slX hZ).kept (hks.mono fun k _ h => h.2.1)
    have hKK : Kept (fun k => X k ∧ k ≠ bb) w (w2.setCell ⟨bb, 19 + i, none⟩ (.slice (some ⟨u0.heap.size, 0, none⟩) 64 64)) := ((Kept.ofBelow hb1).trans (hK.mono fun k _ h => .inl h.1)).trans (hks.mono fun k _ h => h.2)
    have hcell3 := hT2.cr (i := i) (v := .slice (some ⟨u0.heap.size, 0, none⟩) 64 64) (by rw [List.getElem?_set_self (by have := (List.getElem?_eq_some_iff.1 HV.out).1; exact this)])
    have HT := Lib.hid hT2
    have HSL := Lib.hid hSL
    have HKK := Lib.hid hKK
    refine wp_abs (fun u => u = (w2.setCell ⟨bb, 19 + i, none⟩ (.slice (some ⟨u0.heap.size, 0, none⟩) 64 64))) rfl ?_
    intro w3 e3
    rw [← e3] at HT HSL HKK hR3 hcell3
    obtain ⟨n0, n1, n2, n3, n4, n5⟩ := nd_cells hR3
    dsimp only at n2
    clear n0 n1 n3 n4 n5 e3 hT2 hSL hKK hsg hks hT hcell hfr hR2 hR3 hcg hO hG hK hF
    go_quiet (fail)
    (repeat (first | (with_reducible first | refine xA ?_ | refine xB ?_ | refine xC ?_ | refine xD ?_ | refine xH ?_ | refine xI rfl ?_ | refine xE ?_ | refine xF ?_ | refine xG ?_) | go_values | go_skip | go_guarded | go_step | go_upon | go_back | ((with_reducible show Oper.upon _ _ _ _ _ _); go_simp) | (dsimp only)))
    go_ret
    rw [← HR.out]
    have hbd : Below w3.heap.size w3 (w3.drewN nq) := below_drewN (Below.refl _ _) _
    exact ⟨_, _, _, _, rfl, fun k h => .inl (.inl h), HT.out.below hbd, HSL.out.kept (Kept.ofBelow hbd), HKK.out.trans (Kept.ofBelow hbd)⟩
  · have hv2 : ∃ bq oq c, v = .slice (some ⟨bq, oq, none⟩) l.length c := by
      obtain ⟨ao, c, rfl⟩ := hS.shape
      obtain ⟨bq, oq, rfl, _⟩ := hS.row (List.length_pos_iff.2 h0)
      exact ⟨bq, oq, c, rfl⟩
    obtain ⟨bq, oq, c, rfl⟩ := hv2
    have hr1 := hr.out
    rw [hgd, if_neg h0] at hr1
    subst hr1
    have HS := Lib.hid hS
    clear h hr hgd hl hv hS hn h0
    go_enter Tryz.func45, Tryz.ntmps45
    (repeat (first | (with_reducible first | refine xA ?_ | refine xB ?_ | refine xC ?_ | refine xD ?_ | refine xH ?_ | refine xI rfl ?_ | refine xE ?_ | refine xF ?_ | refine xG ?_) | go_values | go_skip | go_guarded | go_step | go_upon | go_back | ((with_reducible show Oper.upon _ _ _ _ _ _); go_simp) | (dsimp only)))
    refine wp_abs (fun u => Below w.heap.size w u ∧ RowAt 6 Nd.cells u w.heap.size 0 [⟨op, wd, (i : Nat), k0, k1, k2⟩]) ⟨hb1, hX⟩ ?_
    clear hb1 hX
    rintro w1 ⟨hb1, HR1⟩
    have hc1 := cell_keep hb1 hc
    obtain ⟨n0, n1, n2, n3, n4, n5⟩ := nd_cells HR1
    dsimp only at n2
    clear n0 n1 n3 n4 n5
    go_quiet (fail)
    (repeat (first | (with_reducible first | refine xA ?_ | refine xB ?_ | refine xC ?_ | refine xD ?_ | refine xH ?_ | refine xI rfl ?_ | refine xE ?_ | refine xF ?_ | refine xG ?_) | go_values | go_skip | go_guarded | go_step | go_upon | go_back | ((with_reducible show Oper.upon _ _ _ _ _ _); go_simp) | (dsimp only)))
    refine wp_abs (fun u => Below w.heap.size w u ∧ u.cell? ⟨bb, 19 + i, none⟩ = some (.slice (some ⟨bq, oq, none⟩) l.length c) ∧ u.cell? ⟨w.heap.size, 2, none⟩ = some (.int .u64 (i : Nat))) ⟨below_drewN hb1 _, hc1, n2⟩ ?_
    clear hb1 HR1 hc1 n2
    rintro w1 ⟨hb1, hc1, n2⟩
    go_quiet (fail)
    (repeat (first | (with_reducible first | refine xA ?_ | refine xB ?_ | refine xC ?_ | refine xD ?_ | refine xH ?_ | refine xI rfl ?_ | refine xE ?_ | refine xF ?_ | refine xG ?_) | go_values | go_skip | go_guarded | go_step | go_upon | go_back | ((with_reducible show Oper.upon _ _ _ _ _ _); go_simp) | (dsimp only)))
    go_ret
    exact WordB.of_below H.out (below_drewN hb1 _) HS.out
end
end Go.Proofs.YtmaogkgjiplckaaGreat
namespace Go.Proofs.YtmaogkgjiplckaaGreat
open Go.RowKit
def wayK (m j : Nat) : Value := if j = 0 then .func (Fn.func 43) #[] #[] else if j = 1 then .func (Fn.func 44) #[] #[] else if j = 2 then .func (Fn.func 45) #[] #[] else if j = 5 then .func (Fn.func 46) #[] #[] else if j = 6 then .func (Fn.func 47) #[] #[] else if j = 7 then .func (Fn.func 48) #[] #[] else if j = 22 then .func (Fn.func 49) #[] #[] else if 8 ≤ j ∧ j < m then .func (Fn.func 46) #[] #[] else Value.nilFunc
def waysV (m : Nat) : List Value := (List.range 25).map (wayK m)
theorem waysV_len (m : Nat) : (waysV m).length = 25 := by simp [waysV]
theorem waysV_get (m j : Nat) (h : j < 25) : (waysV m)[j]? = some (wayK m j) := by
  unfold waysV
  rw [List.getElem?_map, List.getElem?_range h]; rfl
theorem waysV_set (m : Nat) (h8 : 8 ≤ m) (h : m < 22) : (waysV m).set m (.func (Fn.func 46) #[] #[]) = waysV (m + 1) := by
  apply List.ext_getElem?
  intro j
  by_cases e : m = j
  · subst e
    rw [List.getElem?_set_self (by rw [waysV_len]; omega), waysV_get _ _ (by omega)]
    unfold wayK
    simp
    split <;> try omega
    split <;> try omega
    split <;> try omega
    split <;> try omega
    split <;> try omega
    split <;> try omega
    split <;> try omega
    rfl
  · rw [List.getElem?_set_ne e]
    rcases Nat.lt_or_ge j 25 with h25 | h25
    · rw [waysV_get _ _ h25, waysV_get _ _ h25]
      unfold wayK
      have : (8 ≤ j ∧ j < m) ↔ (8 ≤ j ∧ j < m + 1) := by omega
      simp only [this]
    · rw [List.getElem?_eq_none (by rw [waysV_len]; exact h25), List.getElem?_eq_none (by rw [waysV_len]; exact h25)]
theorem way_one (m j : Nat) : (wayK m j).oneCell' = true := by
  unfold wayK
  repeat (split; · rfl)
  rfl
theorem waysV_one (m : Nat) : (waysV m).toArray.all (·.oneCell') = true := by
  rw [List.all_toArray, List.all_eq_true]
  intro v hv
  unfold waysV at hv
  obtain ⟨j, _, rfl⟩ := List.mem_map.1 hv
  exact way_one m j
theorem sizeTW : (Tryz.prog.info? 63).map (·.size) = some 25 := by kernel_rfl
section
variable {ops : Array Oper} {rest : List Oper} {o : Oper} {a : Act} {w : World} {Q : Exit → Act → World → Prop}
theorem wl_bld {cells : Array Value} (hg : o.guard = none) (t : TypeId) (parts : Array (Nat × Operand)) (ho : o.op = .build t parts) (hf : Tryz.prog.built t (parts.map fun (i, x) => (i, a.eval x)).toList = some cells)
    (h : wpList Tryz.prog ops Q rest (a.put o.dst (.agg cells)) w) : wpList Tryz.prog ops Q (o :: rest) a w := by
  refine wpList_build hg t parts ho (by rw [hf]; rfl) ?_
  rw [hf]
  exact h
theorem wl_strow (hgd : o.guard = none) (ty : TypeId) (x y : Operand) (ho : o.op = .store ty x y)
    (g : Nat) (cells : Array Value) (hx : a.eval x = .pointer (some ⟨g, 0, none⟩)) (hy : a.eval y = .agg cells)
    (t : TypeId) (old : Array Value) (hg : w.heap[g]? = some (.cells old t (0, 0))) (hi : (Tryz.prog.info? ty).map (·.size) = some cells.size)
    (hold : old.size = cells.size) (h1 : cells.all (·.oneCell') = true)
    (h : ∀ w', w'.heap[g]? = some (.cells cells t (0, 0)) → w.grownBy w' (some g) → wpList Tryz.prog ops Q rest (a.put o.dst undef) w') : wpList Tryz.prog ops Q (o :: rest) a w :=
  wpList_store_row hgd ty x y ho g cells hx hy t old hg hi hold h1 (h _ (setRow_heap w g old cells t (0, 0) hg) ⟨rfl, rfl, rfl, by simp, fun k _ hne => setRow_other w g k cells (fun e => hne (by rw [e]))⟩)
end
set_option maxRecDepth 100000 in
set_option maxHeartbeats 1000000 in
theorem ways_any (w : World) : Calls Tryz.prog 21 #[] w fun e w' => e = .returned (.agg (waysV 22).toArray) ∧ Below w.heap.size w w' := by
  go_enter Tryz.func21, Tryz.ntmps21
  (iterate 9 (first | (with_reducible first | refine xA ?_ | refine xB ?_ | refine xC ?_ | refine xD ?_ | refine xH ?_ | refine xI rfl ?_ | refine xE ?_ | refine xF ?_ | refine xG ?_) | go_values | go_skip | go_guarded | go_step | go_upon | go_back | ((with_reducible show Oper.upon _ _ _ _ _ _); go_simp) | (dsimp only)))
  have h0 : (w.alloc (Obj.cells #[Value.nilFunc, Value.nilFunc, Value.nilFunc, Value.nilFunc, Value.nilFunc, Value.nilFunc, Value.nilFunc, Value.nilFunc, Value.nilFunc, Value.nilFunc, Value.nilFunc, Value.nilFunc, Value.nilFunc, Value.nilFunc, Value.nilFunc, Value.nilFunc, Value.nilFunc, Value.nilFunc, Value.nilFunc, Value.nilFunc, Value.nilFunc, Value.nilFunc, Value.nilFunc, Value.nilFunc, Value.nilFunc] 63)).heap[w.heap.size]? = some (.cells #[Value.nilFunc, Value.nilFunc, Value.nilFunc, Value.nilFunc, Value.nilFunc, Value.nilFunc, Value.nilFunc, Value.nilFunc, Value.nilFunc, Value.nilFunc, Value.nilFunc, Value.nilFunc, Value.nilFunc, Value.nilFunc, Value.nilFunc, Value.nilFunc, Value.nilFunc, Value.nilFunc, Value.nilFunc, Value.nilFunc, Value.nilFunc, Value.nilFunc, Value.nilFunc, Value.nilFunc, Value.nilFunc] 63 (0, 0)) := heap_alloc_new w _
  have hb0 : Below w.heap.size w (w.alloc (Obj.cells #[Value.nilFunc, Value.nilFunc, Value.nilFunc, Value.nilFunc, Value.nilFunc, Value.nilFunc, Value.nilFunc, Value.nilFunc, Value.nilFunc, Value.nilFunc, Value.nilFunc, Value.nilFunc, Value.nilFunc, Value.nilFunc, Value.nilFunc, Value.nilFunc, Value.nilFunc, Value.nilFunc, Value.nilFunc, Value.nilFunc, Value.nilFunc, Value.nilFunc, Value.nilFunc, Value.nilFunc, Value.nilFunc] 63)) := by (repeat (first | with_reducible exact Below.refl _ _ | assumption | with_reducible refine below_drewN ?_ _ | with_reducible refine Below.drew ?_ | with_reducible refine Below.setRow ?_ ?_ _ | with_reducible refine Below.alloc ?_ ?_ _ | with_reducible refine Below.setCell ?_ ?_ _ | with_reducible exact Nat.le_refl _ | (focus (simp; done)) | (focus (simp; omega)) | omega))
  refine wp_abs (fun u => Below w.heap.size w u ∧ u.heap.size = w.heap.size + 1 ∧ u.heap[w.heap.size]? = some (.cells #[Value.nilFunc, Value.nilFunc, Value.nilFunc, Value.nilFunc, Value.nilFunc, Value.nilFunc, Value.nilFunc, Value.nilFunc, Value.nilFunc, Value.nilFunc, Value.nilFunc, Value.nilFunc, Value.nilFunc, Value.nilFunc, Value.nilFunc, Value.nilFunc, Value.nilFunc, Value.nilFunc, Value.nilFunc, Value.nilFunc, Value.nilFunc, Value.nilFunc, Value.nilFunc, Value.nilFunc, Value.nilFunc] 63 (0, 0))) ⟨hb0, by simp, h0⟩ ?_
  clear hb0 h0
  rintro w1 ⟨hb1, hs1, hr1⟩
  have HS1 := Lib.hid hs1
  have HR1 := Lib.hid hr1
  have HN1 := Lib.hid (show (w1.alloc (Obj.cells #[Value.nilFunc, Value.nilFunc, Value.nilFunc, Value.nilFunc, Value.nilFunc, Value.nilFunc, Value.nilFunc, Value.nilFunc, Value.nilFunc, Value.nilFunc, Value.nilFunc, Value.nilFunc, Value.nilFunc, Value.nilFunc, Value.nilFunc, Value.nilFunc, Value.nilFunc, Value.nilFunc, Value.nilFunc, Value.nilFunc, Value.nilFunc, Value.nilFunc, Value.nilFunc, Value.nilFunc, Value.nilFunc] 63)).heap[w1.heap.size]? = some (.cells #[Value.nilFunc, Value.nilFunc, Value.nilFunc, Value.nilFunc, Value.nilFunc, Value.nilFunc, Value.nilFunc, Value.nilFunc, Value.nilFunc, Value.nilFunc, Value.nilFunc, Value.nilFunc, Value.nilFunc, Value.nilFunc, Value.nilFunc, Value.nilFunc, Value.nilFunc, Value.nilFunc, Value.nilFunc, Value.nilFunc, Value.nilFunc, Value.nilFunc, Value.nilFunc, Value.nilFunc, Value.nilFunc] 63 (0, 0)) from heap_alloc_new w1 _)
  clear hs1 hr1
  (repeat (first | (with_reducible first | refine xA ?_ | refine xB ?_ | refine xC ?_ | refine xD ?_ | refine xH ?_ | refine xI rfl ?_ | refine xE ?_ | refine xF ?_ | refine xG ?_) | go_skip | go_guarded | ((with_reducible refine wl_id ?_); refine wl_bld (cells := (waysV 8).toArray) rfl 63 _ rfl (by kernel_rfl) ?_; (try simp only [Act.put, qz4, qz5, qz6])) | ((with_reducible refine wl_id ?_); refine wl_strow rfl 63 _ _ rfl w1.heap.size (waysV 8).toArray rfl rfl 63 #[Value.nilFunc, Value.nilFunc, Value.nilFunc, Value.nilFunc, Value.nilFunc, Value.nilFunc, Value.nilFunc, Value.nilFunc, Value.nilFunc, Value.nilFunc, Value.nilFunc, Value.nilFunc, Value.nilFunc, Value.nilFunc, Value.nilFunc, Value.nilFunc, Value.nilFunc, Value.nilFunc, Value.nilFunc, Value.nilFunc, Value.nilFunc, Value.nilFunc, Value.nilFunc, Value.nilFunc, Value.nilFunc] HN1.out (by rw [List.size_toArray, waysV_len]; exact sizeTW) (waysV_len 8).symm (waysV_one 8) ?_; intro w2 hh2 hg2; (try simp only [Act.put, qz4, qz5, qz6])) | go_values | go_skip | go_guarded | go_step | go_upon | go_back | ((with_reducible show Oper.upon _ _ _ _ _ _); go_simp) | (dsimp only)))
  have hq : w.heap.size < w1.heap.size := by have := HS1.out; omega
  have hr2 : w2.heap[w.heap.size]? = some (.cells #[Value.nilFunc, Value.nilFunc, Value.nilFunc, Value.nilFunc, Value.nilFunc, Value.nilFunc, Value.nilFunc, Value.nilFunc, Value.nilFunc, Value.nilFunc, Value.nilFunc, Value.nilFunc, Value.nilFunc, Value.nilFunc, Value.nilFunc, Value.nilFunc, Value.nilFunc, Value.nilFunc, Value.nilFunc, Value.nilFunc, Value.nilFunc, Value.nilFunc, Value.nilFunc, Value.nilFunc, Value.nilFunc] 63 (0, 0)) := keep_at hg2 ((heap_alloc_old w1 _ hq).trans HR1.out) (fun e => by injection e with e; omega)
  have hb2 : Below w.heap.size w w2 := below_grown (Below.alloc hb1 (by omega) _) hg2 (fun k e => by injection e with e; omega)
  generalize w1.heap.size = q at *
  clear hb1 HS1 HR1 HN1 hg2
  have HR2 := Lib.hid hr2
  have HT2 := Lib.hid hh2
  clear hr2 hh2
  go_loopw [2] (fun i wr => ∃ k : Nat, 8 ≤ k ∧ k ≤ 22 ∧ i = .int .i64 k ∧ Hid (wr.heap[q]? = some (.cells (waysV k).toArray 63 (0, 0))) ∧ Hid (wr.heap[w.heap.size]? = some (.cells #[Value.nilFunc, Value.nilFunc, Value.nilFunc, Value.nilFunc, Value.nilFunc, Value.nilFunc, Value.nilFunc, Value.nilFunc, Value.nilFunc, Value.nilFunc, Value.nilFunc, Value.nilFunc, Value.nilFunc, Value.nilFunc, Value.nilFunc, Value.nilFunc, Value.nilFunc, Value.nilFunc, Value.nilFunc, Value.nilFunc, Value.nilFunc, Value.nilFunc, Value.nilFunc, Value.nilFunc, Value.nilFunc] 63 (0, 0))) ∧ Below w.heap.size w wr) (fun i _ => 22 - (intOf i).toNat)
  case atStart => exact ⟨8, by omega, by omega, rfl, HT2, HR2, hb2⟩
  case round =>
    clear HT2 HR2 hb2
    obtain ⟨k, hk8, hk, rfl, HT, HR, HB⟩ := hrel
    rcases Nat.lt_or_ge k 22 with hlt | hge
    · have hc := cell_of_row wr q k _ _ _ HT.out
      rw [List.getElem?_toArray, waysV_get _ _ (by omega)] at hc
      have hw0 : ∃ v, wayK k k = v ∧ v = Value.nilFunc := ⟨_, rfl, by unfold wayK; rw [if_neg (by omega), if_neg (by omega), if_neg (by omega), if_neg (by omega), if_neg (by omega), if_neg (by omega), if_neg (by omega), if_neg (by omega)]⟩
      obtain ⟨v, hv, rfl⟩ := hw0
      rw [hv] at hc
      have hf := frozen_of_row wr q k _ _ HT.out
      have hki : (k : Int) ≤ 21 := by omega
      have hk0 : (0 : Int) ≤ (k : Int) := by omega
      clear hv
      (repeat (first | (with_reducible first | refine xA ?_ | refine xB ?_ | refine xC ?_ | refine xD ?_ | refine xH ?_ | refine xI rfl ?_ | refine xE ?_ | refine xF ?_ | refine xG ?_) | go_values | go_skip | go_guarded | go_step | go_upon | go_back | ((with_reducible show Oper.upon _ _ _ _ _ _); go_simp) | (dsimp only)))
      have hs := heap_setCell_same wr q k _ _ (.func (Fn.func 46) #[] #[]) HT.out
      rw [List.setIfInBounds_toArray, waysV_set k hk8 hlt] at hs
      have hr := heap_setCell_other wr ⟨q, k, none⟩ w.heap.size (.func (Fn.func 46) #[] #[]) (by show w.heap.size ≠ q; omega)
      exact ⟨⟨k + 1, by omega, by omega, by go_num, Lib.hid hs, Lib.hid (hr.trans HR.out), Below.setCell HB (by show w.heap.size ≤ q; omega) _⟩, by simp [intOf]; omega⟩
    · have hk22 : k = 22 := by omega
      have hkn : ¬ ((k : Int) ≤ 21) := by omega
      have hT := HT.out
      rw [hk22] at hT
      replace HT := Lib.hid hT
      clear hT hk22 hge hk8 hk
      (repeat (first | (with_reducible first | refine xA ?_ | refine xB ?_ | refine xC ?_ | refine xD ?_ | refine xH ?_ | refine xI rfl ?_ | refine xE ?_ | refine xF ?_ | refine xG ?_) | go_skip | go_guarded | ((with_reducible refine wl_id ?_); refine wpList_load_row rfl 63 _ rfl q rfl 63 (waysV 22).toArray (0, 0) _ HT.out Tryz.underlying63 rfl (by rw [List.size_toArray, waysV_len]; exact sizeTW) ?_; (try simp only [Act.put, qz4, qz5, qz6])) | ((with_reducible refine wl_id ?_); refine wl_strow rfl 63 _ _ rfl w.heap.size (waysV 22).toArray rfl rfl 63 #[Value.nilFunc, Value.nilFunc, Value.nilFunc, Value.nilFunc, Value.nilFunc, Value.nilFunc, Value.nilFunc, Value.nilFunc, Value.nilFunc, Value.nilFunc, Value.nilFunc, Value.nilFunc, Value.nilFunc, Value.nilFunc, Value.nilFunc, Value.nilFunc, Value.nilFunc, Value.nilFunc, Value.nilFunc, Value.nilFunc, Value.nilFunc, Value.nilFunc, Value.nilFunc, Value.nilFunc, Value.nilFunc] HR.out (by rw [List.size_toArray, waysV_len]; exact sizeTW) (waysV_len 22).symm (waysV_one 22) ?_; intro w3 hh3 hg3; (try simp only [Act.put, qz4, qz5, qz6])) | go_values | go_skip | go_guarded | go_step | go_upon | go_back | ((with_reducible show Oper.upon _ _ _ _ _ _); go_simp) | (dsimp only)))
      refine bodyPost_ret (results_cell_row rfl _ _ w.heap.size 63 _ (0, 0) _ rfl hh3 Tryz.underlying63 rfl (by rw [List.size_toArray, waysV_len]; exact sizeTW)) rfl ?_
      exact ⟨rfl, below_grown HB hg3 (fun k e => by injection e with e; omega)⟩
theorem clone_nil (w : World) : Calls Tryz.prog 25 #[.slice none 0 0] w fun e w' => e = .returned (.slice none 0 0) ∧ w' = w := by
  have q28 : ∀ (w : World) (a : Option Addr) (n c n' c' : Nat), (binOp .eql 31 (.slice a n c) (.slice none n' c')).run Tryz.prog w = .ok (.bool a.isNone) w := fun w a n c n' c' => Lib.run_eql_slice_nil w _ _ a n c n' c' Tryz.underlying31
  go_enter Tryz.func25, Tryz.ntmps25
  (repeat (first | (with_reducible first | refine xA ?_ | refine xB ?_ | refine xC ?_ | refine xD ?_ | refine xH ?_ | refine xI rfl ?_ | refine xE ?_ | refine xF ?_ | refine xG ?_) | go_values | go_skip | go_guarded | go_step | go_upon | go_back | ((with_reducible show Oper.upon _ _ _ _ _ _); go_simp) | (dsimp only)))
  go_ret
  exact ⟨rfl, rfl⟩
end Go.Proofs.YtmaogkgjiplckaaGreat
namespace Go.Proofs.YtmaogkgjiplckaaGreat
open Go.RowKit
section
variable {ops : Array Oper} {rest : List Oper} {o : Oper} {a : Act} {w W : World} {Q : Exit → Act → World → Prop} {K : Act → Prop}
theorem wl_ldNdA {w0 : World} {b off : Nat} {ls : List Nd} (HR : RowAt 6 Nd.cells w0 b off ls) (hb : Below w0.heap.size w0 w) (i : Nat) (d : Nd) (hi : ls[i]? = some d) (hgd : o.guard = none) (x : Operand) (ho : o.op = .load 49 x)
    (hx : a.eval x = .pointer (some ⟨b, off + i * 6, none⟩)) (h : wpList Tryz.prog ops Q rest (a.put o.dst (.agg #[.int .i64 d.op, .int .i64 d.w, .int .u64 d.n, .int .i64 d.k0, .int .i64 d.k1, .int .i64 d.k2])) w) : wpList Tryz.prog ops Q (o :: rest) a w :=
  wl_ldNd HR hb i d hi hgd x ho (by rw [Nat.mul_comm]; exact hx) h
theorem quiet_ldNdA {b off : Nat} {ls : List Nd} (HR : RowAt 6 Nd.cells W b off ls) (i : Nat) (d : Nd) (hi : ls[i]? = some d) (x : Operand) (ho : o.op = .load 49 x)
    (hx : a.eval x = .pointer (some ⟨b, off + i * 6, none⟩)) (hk : K (a.put o.dst (.agg #[.int .i64 d.op, .int .i64 d.w, .int .u64 d.n, .int .i64 d.k0, .int .i64 d.k1, .int .i64 d.k2]))) : o.quiet Tryz.prog a (Cls W) K :=
  quiet_ldNd HR i d hi x ho (by rw [Nat.mul_comm]; exact hx) hk
end
theorem row6 {w : World} {b : Nat} {d : Nd} (h0 : w.cell? ⟨b, 0, none⟩ = some (.int .i64 d.op)) (h1 : w.cell? ⟨b, 1, none⟩ = some (.int .i64 d.w)) (h2 : w.cell? ⟨b, 2, none⟩ = some (.int .u64 d.n))
    (h3 : w.cell? ⟨b, 3, none⟩ = some (.int .i64 d.k0)) (h4 : w.cell? ⟨b, 4, none⟩ = some (.int .i64 d.k1)) (h5 : w.cell? ⟨b, 5, none⟩ = some (.int .i64 d.k2)) : RowAt 6 Nd.cells w b 0 [d] := by
  intro i e hi j c hj
  match i, hi with
  | 0, hi =>
    obtain rfl : d = e := by simpa using hi
    match j, hj with
    | 0, hj => obtain rfl : _ = c := by simpa [Nd.cells] using hj
               simpa using h0
    | 1, hj => obtain rfl : _ = c := by simpa [Nd.cells] using hj
               simpa using h1
    | 2, hj => obtain rfl : _ = c := by simpa [Nd.cells] using hj
               simpa using h2
    | 3, hj => obtain rfl : _ = c := by simpa [Nd.cells] using hj
               simpa using h3
    | 4, hj => obtain rfl : _ = c := by simpa [Nd.cells] using hj
               simpa using h4
    | 5, hj => obtain rfl : _ = c := by simpa [Nd.cells] using hj
               simpa using h5
    | j + 6, hj => simp [Nd.cells] at hj
  | i + 1, hi => simp at hi
theorem SlIs.take {w : World} {b o cap : Nat} {ls : List Nd} (h : RowAt 6 Nd.cells w b o ls) (hc : ls.length ≤ cap) {k : Nat} (hk : k ≤ ls.length) : SlIs 6 Nd.cells w (.slice (some ⟨b, o, none⟩) k cap) (ls.take k) :=
  ⟨_, cap, by rw [List.length_take, Nat.min_eq_left hk], by rw [List.length_take]; omega, by simp, fun _ => ⟨b, o, rfl, h.take k⟩⟩
theorem right_anyX (op wd n k0 k1 k2 : Int) (v : Value) (ls : List Nd) (w : World) (h : SlIs 6 Nd.cells w v ls) (hn : 0 ≤ n) (E : Int) (hE : Hid (E = rightE ⟨op, wd, n, k0, k1, k2⟩ ls)) :
    Calls Tryz.prog 42 #[.agg #[.int .i64 op, .int .i64 wd, .int .u64 n, .int .i64 k0, .int .i64 k1, .int .i64 k2], v] w fun e w' => e = .returned (.int .i64 E) ∧ Below w.heap.size w w' := by
  rw [hE.out]; exact right_any op wd n k0 k1 k2 v ls w h hn
set_option maxHeartbeats 1000000 in
theorem check_any (ls : List Nd) (v : Value) (w : World) (h : SlIs 6 Nd.cells w v ls) (hwf : ∀ d ∈ ls, NdWf d) :
    Calls Tryz.prog 20 #[v] w fun e w' => e = .returned (.tuple #[.int .i64 (tchk ls).1, .int .i64 (tchk ls).2]) ∧ Below w.heap.size w w' := by
  rcases h.cases with ⟨ao, cap, rfl, rfl⟩ | ⟨b, off, cap, rfl, hne, HR0⟩
  · go_enter Tryz.func20, Tryz.ntmps20
    (repeat (first | (with_reducible first | refine xA ?_ | refine xB ?_ | refine xC ?_ | refine xD ?_ | refine xH ?_ | refine xI rfl ?_ | refine xE ?_ | refine xF ?_ | refine xG ?_) | go_values | go_skip | go_guarded | go_step | go_upon | go_back | ((with_reducible show Oper.upon _ _ _ _ _ _); go_simp) | (dsimp only)))
    go_ret2
    exact ⟨rfl, by (repeat (first | with_reducible exact Below.refl _ _ | assumption | with_reducible refine below_drewN ?_ _ | with_reducible refine Below.drew ?_ | with_reducible refine Below.setRow ?_ ?_ _ | with_reducible refine Below.alloc ?_ ?_ _ | with_reducible refine Below.setCell ?_ ?_ _ | with_reducible exact Nat.le_refl _ | (focus (simp; done)) | (focus (simp; omega)) | omega))⟩
  have hcap : ls.length ≤ cap := by
    obtain ⟨_, _, e, hc, _⟩ := h
    injection e with e1 e2 e3
    omega
  have hl0 : ((ls.length : Int) == 0) = false := by
    have := List.length_pos_iff.2 hne
    simpa using hne
  have Ht : Hid (tchk ls = chk (ls.take 0) (ls.drop 0)) := Lib.hid (by unfold tchk; rw [if_neg hne]; rfl)
  have Hwf := Lib.hid hwf
  clear hwf
  go_enter Tryz.func20, Tryz.ntmps20
  (repeat (first | (with_reducible first | refine xA ?_ | refine xB ?_ | refine xC ?_ | refine xD ?_ | refine xH ?_ | refine xI rfl ?_ | refine xE ?_ | refine xF ?_ | refine xG ?_) | go_values | go_skip | go_guarded | go_step | go_upon | go_back | ((with_reducible show Oper.upon _ _ _ _ _ _); go_simp) | (dsimp only)))
  go_loopw [12] (fun i wr => ∃ k : Nat, k ≤ ls.length ∧ k ≤ 65536 ∧ Hid (tchk ls = chk (ls.take k) (ls.drop k)) ∧ i = .int .i64 k ∧ Below w.heap.size w wr) (fun i _ => ls.length - (intOf i).toNat)
  case atStart => exact ⟨0, by omega, by omega, Ht, rfl, Below.refl _ _⟩
  case round =>
    clear Ht
    obtain ⟨k, hk, hkM, Ht, rfl, HB⟩ := hrel
    have HR := HR0.below HB
    have hsz := HB.size
    rcases Nat.lt_or_ge k ls.length with hlt | hge
    · obtain ⟨d, hd⟩ : ∃ d, ls[k]? = some d := ⟨_, List.getElem?_eq_getElem hlt⟩
      have hi := Lib.hid hd
      have hwd := Hwf.out d (List.mem_of_getElem? hd)
      have hd0 := hwd.2.2.1.1
      have hd1 := hwd.2.2.1.2
      have hst := chk_step hd
      clear hwd hd
      obtain ⟨E, hE⟩ : ∃ E, Hid (E = rightE d (ls.take k)) := ⟨_, Lib.hid rfl⟩
      rw [← hE.out] at hst
      by_cases hM : k = 65536
      · have fM : ((k : Int) == 65536) = true := by simp; omega
        rw [if_pos hM] at hst
        have Hst := Lib.hid (Ht.out.trans hst)
        have HM := Lib.hid hM
        clear hst hM
        (repeat (first | (with_reducible first | refine xA ?_ | refine xB ?_ | refine xC ?_ | refine xD ?_ | refine xH ?_ | refine xI rfl ?_ | refine xE ?_ | refine xF ?_ | refine xG ?_) | go_skip | go_guarded | ((with_reducible refine wl_id ?_); refine wl_ldNdA HR (by (repeat (first | with_reducible exact Below.refl _ _ | assumption | with_reducible refine below_drewN ?_ _ | with_reducible refine Below.drew ?_ | with_reducible refine Below.setRow ?_ ?_ _ | with_reducible refine Below.alloc ?_ ?_ _ | with_reducible refine Below.setCell ?_ ?_ _ | with_reducible exact Nat.le_refl _ | (focus (simp; done)) | (focus (simp; omega)) | omega))) k _ hi rfl _ rfl rfl ?_; simp only [Act.put, qz4, qz5, qz6]; (try dsimp only)) | go_values | go_skip | go_guarded | go_step | go_upon | go_back | ((with_reducible show Oper.upon _ _ _ _ _ _); go_simp) | (dsimp only)))
        go_ret2
        exact ⟨by rw [Hst.out]; simp [HM.out], by (repeat (first | with_reducible exact Below.refl _ _ | assumption | with_reducible refine below_drewN ?_ _ | with_reducible refine Below.drew ?_ | with_reducible refine Below.setRow ?_ ?_ _ | with_reducible refine Below.alloc ?_ ?_ _ | with_reducible refine Below.setCell ?_ ?_ _ | with_reducible exact Nat.le_refl _ | (focus (simp; done)) | (focus (simp; omega)) | omega))⟩
      · have fM : ((k : Int) == 65536) = false := by simp; omega
        have HM := Lib.hid hM
        rw [if_neg hM] at hst
        clear hM
        (repeat (first | (with_reducible first | refine xA ?_ | refine xB ?_ | refine xC ?_ | refine xD ?_ | refine xH ?_ | refine xI rfl ?_ | refine xE ?_ | refine xF ?_ | refine xG ?_) | go_skip | go_guarded | ((with_reducible refine wl_id ?_); refine wl_ldNdA HR (by (repeat (first | with_reducible exact Below.refl _ _ | assumption | with_reducible refine below_drewN ?_ _ | with_reducible refine Below.drew ?_ | with_reducible refine Below.setRow ?_ ?_ _ | with_reducible refine Below.alloc ?_ ?_ _ | with_reducible refine Below.setCell ?_ ?_ _ | with_reducible exact Nat.le_refl _ | (focus (simp; done)) | (focus (simp; omega)) | omega))) k _ hi rfl _ rfl rfl ?_; simp only [Act.put, qz4, qz5, qz6]; (try dsimp only)) | go_values | go_skip | go_guarded | go_step | go_upon | go_back | ((with_reducible show Oper.upon _ _ _ _ _ _); go_simp) | (dsimp only)))
        refine wp_abs (fun u => Below w.heap.size w u ∧ RowAt 6 Nd.cells u wr.heap.size 0 [d] ∧ RowAt 6 Nd.cells u b off ls) ⟨by (repeat (first | with_reducible exact Below.refl _ _ | assumption | with_reducible refine below_drewN ?_ _ | with_reducible refine Below.drew ?_ | with_reducible refine Below.setRow ?_ ?_ _ | with_reducible refine Below.alloc ?_ ?_ _ | with_reducible refine Below.setCell ?_ ?_ _ | with_reducible exact Nat.le_refl _ | (focus (simp; done)) | (focus (simp; omega)) | omega)), ?_, HR.below (by (repeat (first | with_reducible exact Below.refl _ _ | assumption | with_reducible refine below_drewN ?_ _ | with_reducible refine Below.drew ?_ | with_reducible refine Below.setRow ?_ ?_ _ | with_reducible refine Below.alloc ?_ ?_ _ | with_reducible refine Below.setCell ?_ ?_ _ | with_reducible exact Nat.le_refl _ | (focus (simp; done)) | (focus (simp; omega)) | omega)))⟩ ?_
        · exact row6 (by simp [go_sem]) (by simp [go_sem]) (by simp [go_sem]) (by simp [go_sem]) (by simp [go_sem]) (by simp [go_sem])
        rintro w9 ⟨HB9, HX, HR9⟩
        have hS := SlIs.take HR9 hcap hk
        have hE' : Hid (E = rightE ⟨d.op, d.w, d.n, d.k0, d.k1, d.k2⟩ (ls.take k)) := hE
        have hkc : (k : Int) ≤ cap := by omega
        by_cases hz : E = 0
        · have fz : (E != 0) = false := by simp [hz]
          rw [if_neg (by simp [hz])] at hst
          have Hst := Lib.hid (Ht.out.trans hst)
          clear hst hz
          refine wp_region_cls (by kernel_rfl) (by kernel_rfl) ?_
          (repeat (first | go_big_quiet_skip | (go_big_quiet_want; first | (refine quiet_ldNd HX 0 _ rfl _ rfl rfl ?_; simp only [Act.put, qz4, qz5, qz6]; (try dsimp only); go_big_quiet_on) | (refine quiet_ldNdA HR k _ hi _ rfl rfl ?_; simp only [Act.put, qz4, qz5, qz6]; go_big_quiet_on) | (go_big_quiet_op; first | go_big_quiet_on | (refine Exists.intro _ (And.intro (fun _ _ => rfl) ?_); go_big_quiet_on) | go_big_quiet_call (((intro hC; replace hC : Below _ _ _ := hC); (go_at_call 42; (with_reducible refine (right_anyX _ _ _ _ _ _ _ _ _ (hS.below hC) hd0 _ hE).mono ?_); (rintro e w2 ⟨rfl, hb⟩; exact ⟨rfl, hC.trans (hb.mono hC.size)⟩))))))))
          refine wpQuiet_nil ?_
          intro w8 hb
          replace hb : Below _ _ _ := hb
          replace HB9 := HB9.trans (hb.mono HB9.size)
          clear hb
          (repeat (first | (with_reducible first | refine xA ?_ | refine xB ?_ | refine xC ?_ | refine xD ?_ | refine xH ?_ | refine xI rfl ?_ | refine xE ?_ | refine xF ?_ | refine xG ?_) | go_values | go_skip | go_guarded | go_step | go_upon | go_back | ((with_reducible show Oper.upon _ _ _ _ _ _); go_simp) | (dsimp only)))
          exact ⟨⟨k + 1, by omega, by have := HM.out; omega, Hst, by go_num, HB9⟩, by simp [intOf]; omega⟩
        · have fz : (E != 0) = true := by simpa using hz
          rw [if_pos hz] at hst
          have Hst := Lib.hid (Ht.out.trans hst)
          clear hst hz
          refine wp_region_cls (by kernel_rfl) (by kernel_rfl) ?_
          (repeat (first | go_big_quiet_skip | (go_big_quiet_want; first | (refine quiet_ldNd HX 0 _ rfl _ rfl rfl ?_; simp only [Act.put, qz4, qz5, qz6]; (try dsimp only); go_big_quiet_on) | (refine quiet_ldNdA HR k _ hi _ rfl rfl ?_; simp only [Act.put, qz4, qz5, qz6]; go_big_quiet_on) | (go_big_quiet_op; first | go_big_quiet_on | (refine Exists.intro _ (And.intro (fun _ _ => rfl) ?_); go_big_quiet_on) | go_big_quiet_call (((intro hC; replace hC : Below _ _ _ := hC); (go_at_call 42; (with_reducible refine (right_anyX _ _ _ _ _ _ _ _ _ (hS.below hC) hd0 _ hE).mono ?_); (rintro e w2 ⟨rfl, hb⟩; exact ⟨rfl, hC.trans (hb.mono hC.size)⟩))))))))
          refine wpQuiet_nil ?_
          intro w8 hb
          replace hb : Below _ _ _ := hb
          replace HB9 := HB9.trans (hb.mono HB9.size)
          clear hb
          (repeat (first | (with_reducible first | refine xA ?_ | refine xB ?_ | refine xC ?_ | refine xD ?_ | refine xH ?_ | refine xI rfl ?_ | refine xE ?_ | refine xF ?_ | refine xG ?_) | go_values | go_skip | go_guarded | go_step | go_upon | go_back | ((with_reducible show Oper.upon _ _ _ _ _ _); go_simp) | (dsimp only)))
          go_ret2
          exact ⟨by rw [Hst.out]; rfl, HB9⟩
    · (repeat (first | (with_reducible first | refine xA ?_ | refine xB ?_ | refine xC ?_ | refine xD ?_ | refine xH ?_ | refine xI rfl ?_ | refine xE ?_ | refine xF ?_ | refine xG ?_) | go_values | go_skip | go_guarded | go_step | go_upon | go_back | ((with_reducible show Oper.upon _ _ _ _ _ _); go_simp) | (dsimp only)))
      go_ret2
      exact ⟨by rw [Ht.out, List.drop_eq_nil_of_le hge]; rfl, HB⟩
end Go.Proofs.YtmaogkgjiplckaaGreat

