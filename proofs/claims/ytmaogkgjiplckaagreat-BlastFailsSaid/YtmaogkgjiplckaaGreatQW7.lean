import Derived.Test.YtmaogkgjiplckaaGreatQW5
import Derived.Test.YtmaogkgjiplckaaGreatQW6
import Derived.Test.YtmaogkgjiplckaaGreatQW3
import Derived.Laws.ResultCell
import Derived.Test.YtmaogkgjiplckaaGreatQW4
set_option linter.unusedVariables false
set_option linter.unusedSimpArgs false
namespace Go.Proofs.YtmaogkgjiplckaaGreat
open Go.RowKit
def WordY (X : Nat → Prop) (base gb : Nat) (w : World) (r : G × List Int) (e : Ending) (w' : World) : Prop :=
  ∃ (v : Value) (Y : Nat → Prop), e = .returned v ∧ (∀ k, X k → Y k) ∧ SlX (fun k => Y k ∧ w.heap.size ≤ k) w' v r.2 ∧ GR Y base w' gb r.1 ∧ Kept X w w'
section
variable {X : Nat → Prop} {base gb : Nat} {g : G} {fr : List Int} {s : Nat → Bool}
theorem shift_n (n : Nat) (w : World) (hG : GR X base w gb g) (hba : base ≤ w.heap.size) (vx vy : Value) (xs ys : List Int) (i : Int) (hX : SlX X w vx xs) (hY : SlX X w vy ys) (hxn : xs.length = n) (hyn : ys.length = n) (hn2 : n ≤ 64) (hn : g.n + 40000 ≤ 1048576) (hi : isL g.n i) (hx : ∀ x ∈ xs, isL g.n x) (hy : ∀ y ∈ ys, isL g.n y) (hI : GI g fr s) (r : G × List Int) (hr : shiftG g xs ys 0 (-1) i = r) :
    Calls Tryz.prog 115 #[.pointer (some ⟨gb, 0, none⟩), vx, vy, .int .i64 i] w (Word1 X base gb n w r) := by
  subst hxn
  exact shift_any w hG hba vx vy xs ys i hX hY hn2 (by omega) (by have := shift_size hn2; rw [hyn]; omega) hi hx hy hI r hr
theorem same_n (n : Nat) (w : World) (hG : GR X base w gb g) (hba : base ≤ w.heap.size) (vx vy : Value) (xs ys : List Int) (hX : SlX X w vx xs) (hY : SlX X w vy ys) (hxn : xs.length = n) (hyn : ys.length = n) (hn2 : n ≤ 64) (hn : g.n + 40000 ≤ 1048576) (hx : ∀ x ∈ xs, isL g.n x) (hy : ∀ y ∈ ys, isL g.n y) (hI : GI g fr s) (r : G × Int) (hr : sameG g 1 xs ys = r) :
    Calls Tryz.prog 117 #[.pointer (some ⟨gb, 0, none⟩), vx, vy] w fun e w' => e = .returned (.int .i64 r.2) ∧ GR X base w' gb r.1 ∧ Kept X w w' :=
  same_any w hG hba vx vy xs ys hX hY (by rw [hxn, hyn]) (by omega) (by omega) (isL_one hI) hx hy hI r hr
theorem less_n (n : Nat) (w : World) (hG : GR X base w gb g) (hba : base ≤ w.heap.size) (vx vy : Value) (xs ys : List Int) (hX : SlX X w vx xs) (hY : SlX X w vy ys) (hxn : xs.length = n) (hyn : ys.length = n) (hn2 : n ≤ 64) (hn : g.n + 40000 ≤ 1048576) (hx : ∀ x ∈ xs, isL g.n x) (hy : ∀ y ∈ ys, isL g.n y) (hI : GI g fr s) (r : G × Int) (hr : lessG g xs ys = r) :
    Calls Tryz.prog 118 #[.pointer (some ⟨gb, 0, none⟩), vx, vy] w fun e w' => e = .returned (.int .i64 r.2) ∧ GR X base w' gb r.1 ∧ Kept X w w' :=
  lessW_any w hG hba vx vy xs ys hX hY (by rw [hxn, hyn]) (by omega) (by omega) hx hy hI r hr
def NewRow (X : Nat → Prop) (base gb : Nat) (g : G) (w : World) (l : List Int) (e : Ending) (w' : World) : Prop :=
  ∃ v : Value, e = .returned v ∧ SlX (fun k => v.ownBlock = some k ∧ w.heap.size ≤ k) w' v l ∧ GR (fun k => X k ∨ v.ownBlock = some k) base w' gb g ∧ Below w.heap.size w w'
theorem back_n (n : Nat) (w : World) (hG : GR X base w gb g) (v : Value) (l : List Int) (hl : SlX X w v l) (hn : l.length = n) (h1 : 1 ≤ n) (hn2 : n ≤ 64) : Calls Tryz.prog 116 #[v] w (NewRow X base gb g w l.reverse) := by
  refine (back_any w v l hl (by rintro rfl; simp at hn; omega) (by omega)).mono ?_
  rintro _ w' ⟨v', rfl, hO, hb⟩
  exact ⟨v', rfl, own_sl hO (fun k e => ⟨e, (hO.lt k e).1⟩), turn_new hG hb hO, hb⟩
theorem signs_n (n : Nat) (w : World) (hG : GR X base w gb g) (v : Value) (l : List Int) (hl : SlX X w v l) (hn : l.length = n) (h1 : 1 ≤ n) (hn2 : n ≤ 64) (hx : ∀ x ∈ l, isL g.n x) : Calls Tryz.prog 119 #[v] w (NewRow X base gb g w (l.set (n - 1) (-(l.getD (n - 1) 0)))) := by
  obtain ⟨k, rfl⟩ : ∃ k, n = k + 1 := ⟨n - 1, by omega⟩
  have hk : l[k]? = some (l.getD k 0) := by rw [List.getD_eq_getElem?_getD, List.getElem?_eq_getElem (show k < l.length by omega)]; rfl
  refine (signs_any w v l hl k hn (l.getD k 0) hk (rng_of (hx _ (List.mem_of_getElem? hk)) hG.n1) (by omega)).mono ?_
  rintro _ w' ⟨v', rfl, hO, hb⟩
  rw [Nat.add_sub_cancel]
  exact ⟨v', rfl, own_sl hO (fun k e => ⟨e, (hO.lt k e).1⟩), turn_new hG hb hO, hb⟩
end
theorem lit_row {X : Nat → Prop} {base gb : Nat} {g : G} (w : World) (hG : GR X base w gb g) (x : Int) : SlX (fun k => k = w.heap.size) (w.alloc (.cells #[.int .i64 x] 3)) (.slice (some ⟨w.heap.size, 0, none⟩) 1 1) [x] ∧ GR (fun k => X k ∨ k = w.heap.size) base (w.alloc (.cells #[.int .i64 x] 3)) gb g := by
  have hO := World.ownsRow_lit (base := w.heap.size) (e := 3) (size := 1) w #[.int .i64 x] 1 (Nat.le_refl _) (by decide) rfl
  have hb : Below w.heap.size w (w.alloc (.cells #[.int .i64 x] 3)) := ((Kept.refl (fun _ => True) w).alloc _).toBelow (Nat.le_refl _) fun _ _ => trivial
  refine ⟨own_sl (l := [x]) hO (fun k e => by injection e with e; exact e.symm), hG.owned (below_own hb) (Nat.le_refl _) (by simp)⟩
set_option maxRecDepth 100000 in
set_option maxHeartbeats 4000000 in
theorem apply_any {X : Nat → Prop} {base gb : Nat} {g : G} {fr : List Int} {s : Nat → Bool} (op : Int) (w : World) (hG : GR X base w gb g) (hba : base ≤ w.heap.size) (vx vy : Value) (xs ys : List Int) (n : Nat) (hX : SlX X w vx xs) (hY : SlX X w vy ys) (hxn : xs.length = n) (hyn : ys.length = n) (hn1 : 1 ≤ n) (hn2 : n ≤ 64) (hn : g.n + 40000 ≤ 1048576) (hx : ∀ x ∈ xs, isL g.n x) (hy : ∀ y ∈ ys, isL g.n y) (hI : GI g fr s) (h8 : 8 ≤ op) (h21 : op ≤ 21) (r : G × List Int) (hr : applyG op g n xs ys = r) :
    Calls Tryz.prog 80 #[.pointer (some ⟨gb, 0, none⟩), .int .i64 op, vx, vy] w (WordY X base gb w r) := by
  have hc : op = 8 ∨ op = 9 ∨ op = 10 ∨ op = 11 ∨ op = 12 ∨ op = 13 ∨ op = 14 ∨ op = 15 ∨ op = 16 ∨ op = 17 ∨ op = 18 ∨ op = 19 ∨ op = 20 ∨ op = 21 := by omega
  have hnm : n ≤ 1000000 := by omega
  have L1 := isL_one hI
  have Ln := L1.neg
  rcases hc with rfl | rfl | rfl | rfl | rfl | rfl | rfl | rfl | rfl | rfl | rfl | rfl | rfl | rfl
  · as_aux_lemma =>
      obtain ⟨t, ht⟩ : ∃ t, sumG g xs ys (-1) = t := ⟨_, rfl⟩
      obtain rfl : r = (t.1, t.2.1) := by rw [← hr, ← ht]; rfl
      have HC := Lib.hid (sum_n n w hG hba vx vy xs ys (-1) hX hY hxn hyn (by omega) hnm Ln hx hy hI t ht)
      clear hX hY hG hx hy hI hr ht hn hba L1 Ln hxn hyn
      go_enter Tryz.func80, Tryz.ntmps80
      (repeat (first | (with_reducible first | refine xA ?_ | refine xB ?_ | refine xC ?_ | refine xD ?_ | refine xH ?_ | refine xI rfl ?_ | refine xE ?_ | refine xF ?_ | refine xG ?_) | go_skip | go_guarded | (go_at_call 108; (with_reducible refine (HC.out).mono ?_); rintro _ w2 ⟨q, rfl, hO, hq, hG2, hk2⟩) | go_values | go_skip | go_guarded | go_step | go_upon | go_back | ((with_reducible show Oper.upon _ _ _ _ _ _); go_simp) | (dsimp only)))
      go_ret
      exact ⟨_, _, rfl, fun k h => .inl h, hO.slX ⟨.inr rfl, hq⟩, hG2, hk2⟩
  · as_aux_lemma => -- 9
      obtain ⟨t, ht⟩ : ∃ t, sumG g xs (notL ys) 1 = t := ⟨_, rfl⟩
      obtain rfl : r = (t.1, t.2.1) := by rw [← hr, ← ht]; rfl
      have HT := Lib.hid (turned_n n w vy ys hY hyn hnm (isL_b hy hG.n1))
      have HS := Lib.hid (fun (w1 : World) (hb1 : Below w.heap.size w w1) (hO : OwnI w1 w.heap.size n (notL ys)) => sum_n (X := fun k => X k ∨ k = w.heap.size) n w1 (hG.owned (below_own hb1) (Nat.le_refl _) hO.lt) (Nat.le_trans hba hb1.size) vx _ xs (notL ys) 1 ((hX.kept (Kept.ofBelow hb1)).mono fun _ _ h => .inl h) (hO.slX (.inr rfl)) hxn (by rw [notL_len, hyn]) (by omega) hnm L1 hx (notL_isL hy) hI t ht)
      clear hX hY hG hx hy hI hr ht hn hba L1 Ln hxn hyn
      go_enter Tryz.func80, Tryz.ntmps80
      (repeat (first | (with_reducible first | refine xA ?_ | refine xB ?_ | refine xC ?_ | refine xD ?_ | refine xH ?_ | refine xI rfl ?_ | refine xE ?_ | refine xF ?_ | refine xG ?_) | go_skip | go_guarded | (go_at_call 77; (with_reducible refine (HT.out).mono ?_); rintro _ w1 ⟨rfl, hO1, hb1⟩) | (go_at_call 108; (with_reducible refine (HS.out _ hb1 hO1).mono ?_); rintro _ w2 ⟨q, rfl, hO2, hq, hG2, hk2⟩) | go_values | go_skip | go_guarded | go_step | go_upon | go_back | ((with_reducible show Oper.upon _ _ _ _ _ _); go_simp) | (dsimp only)))
      go_ret
      exact ⟨_, _, rfl, fun k h => .inl (.inl h), hO2.slX ⟨.inr rfl, Nat.le_trans hb1.size hq⟩, hG2, (Kept.ofBelow hb1).trans (hk2.mono fun k _ h => .inl h)⟩
  · as_aux_lemma => -- 10
      have hsz : 6 * n * n ≤ 24576 := Nat.mul_le_mul (Nat.mul_le_mul_left 6 hn2) hn2
      have HC := Lib.hid (product_any w hG hba vx vy xs ys hX hY n hxn hyn hn1 hn2 (by omega) hx hy hI r hr)
      clear hsz
      clear hX hY hG hx hy hI hr  hn hba L1 Ln hxn hyn
      go_enter Tryz.func80, Tryz.ntmps80
      (repeat (first | (with_reducible first | refine xA ?_ | refine xB ?_ | refine xC ?_ | refine xD ?_ | refine xH ?_ | refine xI rfl ?_ | refine xE ?_ | refine xF ?_ | refine xG ?_) | go_skip | go_guarded | (go_at_call 109; (with_reducible refine (HC.out).mono ?_); rintro _ w2 ⟨q, rfl, hO, hq, hG2, hk2⟩) | go_values | go_skip | go_guarded | go_step | go_upon | go_back | ((with_reducible show Oper.upon _ _ _ _ _ _); go_simp) | (dsimp only)))
      go_ret
      exact ⟨_, _, rfl, fun k h => .inl h, hO.slX ⟨.inr rfl, hq⟩, hG2, hk2⟩
  · as_aux_lemma => -- 11
      obtain ⟨t, ht⟩ : ∃ t, divG g xs.reverse (constL n 0) ys [] = t := ⟨_, rfl⟩
      obtain rfl : r = (t.1, t.2.1) := by rw [← hr, ← ht]; rfl
      have hsz := div_size hn2
      have HC := Lib.hid (parts_any w hG hba vx vy xs ys hX hY n hxn hyn hn1 hn2 (by omega) hx hy hI t ht)
      clear hsz
      clear hX hY hG hx hy hI hr ht hn hba L1 Ln hxn hyn
      go_enter Tryz.func80, Tryz.ntmps80
      (repeat (first | (with_reducible first | refine xA ?_ | refine xB ?_ | refine xC ?_ | refine xD ?_ | refine xH ?_ | refine xI rfl ?_ | refine xE ?_ | refine xF ?_ | refine xG ?_) | go_skip | go_guarded | (go_at_call 110; (with_reducible refine (HC.out).mono ?_); rintro _ w2 ⟨q, rv, Y, rfl, hO, hq, hS, hXY, hYq, hG2, hk2⟩) | go_values | go_skip | go_guarded | go_step | go_upon | go_back | ((with_reducible show Oper.upon _ _ _ _ _ _); go_simp) | (dsimp only)))
      go_ret
      exact ⟨_, Y, rfl, hXY, hO.slX ⟨hYq, hq⟩, hG2, hk2⟩
  · as_aux_lemma => -- 12
      obtain ⟨t, ht⟩ : ∃ t, divG g xs.reverse (constL n 0) ys [] = t := ⟨_, rfl⟩
      obtain rfl : r = (t.1, t.2.2) := by rw [← hr, ← ht]; rfl
      have hsz := div_size hn2
      have HC := Lib.hid (parts_any w hG hba vx vy xs ys hX hY n hxn hyn hn1 hn2 (by omega) hx hy hI t ht)
      clear hsz
      clear hX hY hG hx hy hI hr ht hn hba L1 Ln hxn hyn
      go_enter Tryz.func80, Tryz.ntmps80
      (repeat (first | (with_reducible first | refine xA ?_ | refine xB ?_ | refine xC ?_ | refine xD ?_ | refine xH ?_ | refine xI rfl ?_ | refine xE ?_ | refine xF ?_ | refine xG ?_) | go_skip | go_guarded | (go_at_call 110; (with_reducible refine (HC.out).mono ?_); rintro _ w2 ⟨q, rv, Y, rfl, hO, hq, hS, hXY, hYq, hG2, hk2⟩) | go_values | go_skip | go_guarded | go_step | go_upon | go_back | ((with_reducible show Oper.upon _ _ _ _ _ _); go_simp) | (dsimp only)))
      go_ret
      exact ⟨rv, Y, rfl, hXY, hS, hG2, hk2⟩
  · as_aux_lemma => -- 13
      have HC := Lib.hid (bits_both_any w hG hba vx vy xs ys hX hY (by rw [hxn, hyn]) (by omega) (by omega) hx hy hI r hr)
      clear hX hY hG hx hy hI hr  hn hba L1 Ln hxn hyn
      go_enter Tryz.func80, Tryz.ntmps80
      (repeat (first | (with_reducible first | refine xA ?_ | refine xB ?_ | refine xC ?_ | refine xD ?_ | refine xH ?_ | refine xI rfl ?_ | refine xE ?_ | refine xF ?_ | refine xG ?_) | go_skip | go_guarded | (go_at_call 111; (with_reducible refine (HC.out).mono ?_); rintro _ w2 ⟨q, rfl, hO, hq, hG2, hk2⟩) | go_values | go_skip | go_guarded | go_step | go_upon | go_back | ((with_reducible show Oper.upon _ _ _ _ _ _); go_simp) | (dsimp only)))
      go_ret
      exact ⟨_, _, rfl, fun k h => .inl h, hO.slX ⟨.inr rfl, hq⟩, hG2, hk2⟩
  · as_aux_lemma => -- 14
      have HC := Lib.hid (bits_either_any w hG hba vx vy xs ys hX hY (by rw [hxn, hyn]) (by omega) (by omega) hx hy hI r hr)
      clear hX hY hG hx hy hI hr  hn hba L1 Ln hxn hyn
      go_enter Tryz.func80, Tryz.ntmps80
      (repeat (first | (with_reducible first | refine xA ?_ | refine xB ?_ | refine xC ?_ | refine xD ?_ | refine xH ?_ | refine xI rfl ?_ | refine xE ?_ | refine xF ?_ | refine xG ?_) | go_skip | go_guarded | (go_at_call 111; (with_reducible refine (HC.out).mono ?_); rintro _ w2 ⟨q, rfl, hO, hq, hG2, hk2⟩) | go_values | go_skip | go_guarded | go_step | go_upon | go_back | ((with_reducible show Oper.upon _ _ _ _ _ _); go_simp) | (dsimp only)))
      go_ret
      exact ⟨_, _, rfl, fun k h => .inl h, hO.slX ⟨.inr rfl, hq⟩, hG2, hk2⟩
  · as_aux_lemma => -- 15
      have HC := Lib.hid (bits_odd_any w hG hba vx vy xs ys hX hY (by rw [hxn, hyn]) (by omega) (by omega) hx hy hI r hr)
      clear hX hY hG hx hy hI hr  hn hba L1 Ln hxn hyn
      go_enter Tryz.func80, Tryz.ntmps80
      (repeat (first | (with_reducible first | refine xA ?_ | refine xB ?_ | refine xC ?_ | refine xD ?_ | refine xH ?_ | refine xI rfl ?_ | refine xE ?_ | refine xF ?_ | refine xG ?_) | go_skip | go_guarded | (go_at_call 111; (with_reducible refine (HC.out).mono ?_); rintro _ w2 ⟨q, rfl, hO, hq, hG2, hk2⟩) | go_values | go_skip | go_guarded | go_step | go_upon | go_back | ((with_reducible show Oper.upon _ _ _ _ _ _); go_simp) | (dsimp only)))
      go_ret
      exact ⟨_, _, rfl, fun k h => .inl h, hO.slX ⟨.inr rfl, hq⟩, hG2, hk2⟩
  · as_aux_lemma => -- 16
      have HC := Lib.hid (shift_n n w hG hba vx vy xs ys (-1) hX hY hxn hyn hn2 hn Ln hx hy hI r hr)
      clear hX hY hG hx hy hI hr  hn hba L1 Ln hxn hyn
      go_enter Tryz.func80, Tryz.ntmps80
      (repeat (first | (with_reducible first | refine xA ?_ | refine xB ?_ | refine xC ?_ | refine xD ?_ | refine xH ?_ | refine xI rfl ?_ | refine xE ?_ | refine xF ?_ | refine xG ?_) | go_skip | go_guarded | (go_at_call 115; (with_reducible refine (HC.out).mono ?_); rintro _ w2 ⟨q, rfl, hO, hq, hG2, hk2⟩) | go_values | go_skip | go_guarded | go_step | go_upon | go_back | ((with_reducible show Oper.upon _ _ _ _ _ _); go_simp) | (dsimp only)))
      go_ret
      exact ⟨_, _, rfl, fun k h => .inl h, hO.slX ⟨.inr rfl, hq⟩, hG2, hk2⟩
  · as_aux_lemma => -- 17
      obtain ⟨t, ht⟩ : ∃ t, shiftG g xs.reverse ys 0 (-1) (-1) = t := ⟨_, rfl⟩
      obtain rfl : r = (t.1, t.2.reverse) := by rw [← hr, ← ht]; rfl
      have hrl : xs.reverse.length = n := by rw [List.length_reverse, hxn]
      have hrx : ∀ a ∈ xs.reverse, isL g.n a := fun a ha => hx a (List.mem_reverse.1 ha)
      have htn : t.2.length = n := by
        obtain ⟨_, _, _, _, _, a5, _⟩ := shift_ok (fr := fr) (i := -1) hn2 ys 0 g s xs.reverse (-1) hI hrl hrx hy Ln Ln
        rw [ht] at a5; exact a5
      have HB := Lib.hid (back_n n w hG vx xs hX hxn hn1 hn2)
      have HS := Lib.hid (fun (w1 : World) (v1 : Value) (hb1 : Below w.heap.size w w1) (hS : SlX (fun k => X k ∨ v1.ownBlock = some k) w1 v1 xs.reverse) (hG1 : GR (fun k => X k ∨ v1.ownBlock = some k) base w1 gb g) => shift_n n w1 hG1 (Nat.le_trans hba hb1.size) v1 vy xs.reverse ys (-1) hS ((hY.kept (Kept.ofBelow hb1)).mono fun _ _ h => .inl h) hrl hyn hn2 hn Ln hrx hy hI t ht)
      have HTN := Lib.hid htn
      clear hrl hrx htn
      clear hX hY hG hx hy hI hr ht hn hba L1 Ln hxn hyn
      go_enter Tryz.func80, Tryz.ntmps80
      (repeat (first | (with_reducible first | refine xA ?_ | refine xB ?_ | refine xC ?_ | refine xD ?_ | refine xH ?_ | refine xI rfl ?_ | refine xE ?_ | refine xF ?_ | refine xG ?_) | go_skip | go_guarded | (go_at_call 116; (with_reducible refine (HB.out).mono ?_); rintro _ w1 ⟨v1, rfl, hS1, hG1, hb1⟩; clear HB) | (go_at_call 115; (with_reducible refine (HS.out w1 v1 hb1 (hS1.mono fun _ _ h => .inr h.1) hG1).mono ?_); rintro _ w2 ⟨q, rfl, hO2, hq, hG2, hk2⟩) | (go_at_call 116; (with_reducible refine (back_n n w2 hG2 _ t.2 (hO2.slX (.inr rfl)) HTN.out hn1 hn2).mono ?_); rintro _ w3 ⟨v3, rfl, hS3, hG3, hb3⟩) | go_values | go_skip | go_guarded | go_step | go_upon | go_back | ((with_reducible show Oper.upon _ _ _ _ _ _); go_simp) | (dsimp only)))
      go_ret
      exact ⟨v3, _, rfl, fun k h => .inl (.inl (.inl h)), hS3.mono fun _ _ h => ⟨.inr h.1, Nat.le_trans hb1.size (Nat.le_trans hk2.size h.2)⟩, hG3, ((Kept.ofBelow hb1).trans (hk2.mono fun k _ h => .inl h)).trans (Kept.ofBelow hb3)⟩
  · as_aux_lemma => -- 18
      obtain ⟨k, rfl⟩ : ∃ k, n = k + 1 := ⟨n - 1, by omega⟩
      obtain ⟨ax, cx, rfl⟩ := hX.shape
      obtain ⟨bx, ox, rfl, xbx, lbx, cbx, HRx⟩ := hX.row (by omega)
      have hk : xs[k]? = some (xs.getD k 0) := by rw [List.getD_eq_getElem?_getD, List.getElem?_eq_getElem (show k < xs.length by omega)]; rfl
      have hiL : isL g.n (xs.getD k 0) := hx _ (List.mem_of_getElem? hk)
      obtain ⟨x, hxx⟩ : ∃ x, xs.getD k 0 = x := ⟨_, rfl⟩
      rw [hxx] at hk hiL
      have hcx := HRx k x hk
      obtain ⟨t, ht⟩ : ∃ t, shiftG g xs.reverse ys 0 (-1) x = t := ⟨_, rfl⟩
      obtain rfl : r = (t.1, t.2.reverse) := by rw [← hr, ← ht, ← hxx]; rfl
      have hrl : xs.reverse.length = k + 1 := by rw [List.length_reverse, hxn]
      have hrx : ∀ a ∈ xs.reverse, isL g.n a := fun a ha => hx a (List.mem_reverse.1 ha)
      have htn : t.2.length = k + 1 := by
        obtain ⟨_, _, _, _, _, a5, _⟩ := shift_ok (fr := fr) (i := x) hn2 ys 0 g s xs.reverse (-1) hI hrl hrx hy Ln hiL
        rw [ht] at a5; exact a5
      have HB := Lib.hid (fun (u0 : World) (hk0 : Kept X w u0) (hG0 : GR X base u0 gb g) => back_n (k + 1) u0 hG0 _ xs (hX.kept hk0) hxn hn1 hn2)
      have HS := Lib.hid (fun (u0 w1 : World) (v1 : Value) (hk0 : Kept X w u0) (hb1 : Below u0.heap.size u0 w1) (hS : SlX (fun k => X k ∨ v1.ownBlock = some k) w1 v1 xs.reverse) (hG1 : GR (fun k => X k ∨ v1.ownBlock = some k) base w1 gb g) => shift_n (k + 1) w1 hG1 (Nat.le_trans hba (Nat.le_trans hk0.size hb1.size)) v1 vy xs.reverse ys x hS (((hY.kept hk0).kept (Kept.ofBelow hb1)).mono fun _ _ h => .inl h) hrl hyn hn2 hn hiL hrx hy hI t ht)
      have HTN := Lib.hid htn
      rw [hxn]
      rw [hxn] at HB
      have HG := Lib.hid hG
      have HCX := Lib.hid hcx
      have hk64 : (k : Int) < 64 := by omega
      have k0 : (0 : Int) ≤ (k : Int) := by omega
      have k1 : (k : Int) < ((k + 1 : Nat) : Int) := by omega
      clear hrl hrx htn hk hiL hxx hcx HRx
      clear hX hY hG hx hy hI hr ht hn hba L1 Ln hxn hyn
      go_enter Tryz.func80, Tryz.ntmps80
      (repeat (first | (with_reducible first | refine xA ?_ | refine xB ?_ | refine xC ?_ | refine xD ?_ | refine xH ?_ | refine xI rfl ?_ | refine xE ?_ | refine xF ?_ | refine xG ?_) | go_values | go_skip | go_guarded | go_step | go_upon | go_back | ((with_reducible show Oper.upon _ _ _ _ _ _); go_simp) | (dsimp only)))
      refine wp_region_held (S := fun u => u.cell? ⟨bx, ox + k, none⟩ = some (.int .i64 x)) (by kernel_rfl) ?_
      have HSX : (({ w with drawn := w.drawn + 1 } : World)).cell? ⟨bx, ox + k, none⟩ = some (.int .i64 x) := HCX.out
      have HG0 := HG.out.same (w' := ({ w with drawn := w.drawn + 1 } : World)) ⟨rfl, rfl, rfl, Nat.le_refl _, fun _ _ _ => rfl⟩
      have HK0 : Kept X w ({ w with drawn := w.drawn + 1 } : World) := (Kept.refl X w).drew 1
      clear HCX HG
      generalize ({ w with drawn := w.drawn + 1 } : World) = u0 at *
      have HSC := HSX
      refine wpAnyH_take (i := 0) (v := .pointer (some ⟨gb, 0, none⟩)) rfl (by kernel_rfl) (by kernel_rfl) (by kernel_rfl) (fun _ _ _ h => h) (Or.inl ⟨rfl, fun w _ => by go_simp⟩) HSC ?_; simp only [Act.put, qz1, qz2, qz3, qz4, qz5, qz6]
      refine wpAnyH_take (i := 1) (v := .slice (some ⟨bx, ox, none⟩) (k + 1) cx) rfl (by kernel_rfl) (by kernel_rfl) (by kernel_rfl) (fun _ _ _ h => h) (Or.inl ⟨rfl, fun w _ => by go_simp⟩) HSC ?_; simp only [Act.put, qz1, qz2, qz3, qz4, qz5, qz6]
      refine wpAnyH_take (i := 3) (v := vy) rfl (by kernel_rfl) (by kernel_rfl) (by kernel_rfl) (fun _ _ _ h => h) (Or.inl ⟨rfl, fun w _ => by go_simp⟩) HSC ?_; simp only [Act.put, qz1, qz2, qz3, qz4, qz5, qz6]
      refine wpAnyH_take (i := 4) (v := .slice (some ⟨bx, ox, none⟩) (k + 1) cx) rfl (by kernel_rfl) (by kernel_rfl) (by kernel_rfl) (fun _ _ _ h => h) (Or.inl ⟨rfl, fun w _ => by go_simp⟩) HSC ?_; simp only [Act.put, qz1, qz2, qz3, qz4, qz5, qz6]
      refine wpAnyH_take (i := 5) (v := .slice (some ⟨bx, ox, none⟩) (k + 1) cx) rfl (by kernel_rfl) (by kernel_rfl) (by kernel_rfl) (fun _ _ _ h => h) (Or.inl ⟨rfl, fun w _ => by go_simp⟩) HSC ?_; simp only [Act.put, qz1, qz2, qz3, qz4, qz5, qz6]
      refine wpAnyH_take (i := 6) (v := .int .i64 ((k : Int) + 1)) rfl (by kernel_rfl) (by kernel_rfl) (by kernel_rfl) (fun _ _ _ h => h) (Or.inl ⟨rfl, fun w _ => by go_simp⟩) HSC ?_; simp only [Act.put, qz1, qz2, qz3, qz4, qz5, qz6]
      refine wpAnyH_take (i := 7) (v := .int .i64 k) rfl (by kernel_rfl) (by kernel_rfl) (by kernel_rfl) (fun _ _ _ h => h) (Or.inl ⟨rfl, fun w _ => by have e : IntKind.i64.wrap (k : Int) = k := IntWalk.i64_in _ ⟨by omega, by omega⟩; go_simp⟩) HSC ?_
      simp only [Act.put, qz1, qz2, qz3, qz4, qz5, qz6]
      refine wpAnyH_take (i := 8) (v := .pointer (some ⟨bx, ox + k, none⟩)) rfl (by kernel_rfl) (by kernel_rfl) (by kernel_rfl) (fun _ _ _ h => h) (Or.inl ⟨rfl, fun w _ => by go_simp; intro h; exact absurd h (by omega)⟩) HSC ?_
      simp only [Act.put, qz1, qz2, qz3, qz4, qz5, qz6]
      refine wpAnyH_take (i := 9) (v := .int .i64 x) rfl (by kernel_rfl) (by kernel_rfl) (by kernel_rfl) (fun _ _ _ h => h) (Or.inl ⟨rfl, fun w hw => by have hx := hw; go_simp⟩) HSC ?_
      simp only [Act.put, qz1, qz2, qz3, qz4, qz5, qz6]
      refine wpAnyH_all (rs := [2]) (by kernel_rfl) (by simp) (fun i hi => ?_)
      obtain rfl : i = 2 := by simpa using hi
      refine wpOp_one rfl ?_
      (repeat (first | (with_reducible first | refine xA ?_ | refine xB ?_ | refine xC ?_ | refine xD ?_ | refine xH ?_ | refine xI rfl ?_ | refine xE ?_ | refine xF ?_ | refine xG ?_) | go_skip | go_guarded | (go_at_call 116; (with_reducible refine (HB.out u0 HK0 HG0).mono ?_); rintro _ w1 ⟨v1, rfl, hS1, hG1, hb1⟩) | go_values | go_skip | go_guarded | go_step | go_upon | go_back | ((with_reducible show Oper.upon _ _ _ _ _ _); go_simp) | (dsimp only)))
      have HSC1 : w1.cell? ⟨bx, ox + k, none⟩ = some (.int .i64 x) := (Kept.ofBelow (X := fun _ => True) hb1).cell HSC trivial
      refine ⟨HSC1, ?_⟩
      refine wpAnyH_all (rs := [10]) (by kernel_rfl) (by simp) (fun i hi => ?_)
      obtain rfl : i = 10 := by simpa using hi
      refine wpOp_one rfl ?_
      (repeat (first | (with_reducible first | refine xA ?_ | refine xB ?_ | refine xC ?_ | refine xD ?_ | refine xH ?_ | refine xI rfl ?_ | refine xE ?_ | refine xF ?_ | refine xG ?_) | go_skip | go_guarded | (go_at_call 115; (with_reducible refine (HS.out u0 w1 v1 HK0 hb1 (hS1.mono fun _ _ h => .inr h.1) hG1).mono ?_); rintro _ w2 ⟨q, rfl, hO2, hq, hG2, hk2⟩) | go_values | go_skip | go_guarded | go_step | go_upon | go_back | ((with_reducible show Oper.upon _ _ _ _ _ _); go_simp) | (dsimp only)))
      have HSC2 : w2.cell? ⟨bx, ox + k, none⟩ = some (.int .i64 x) := hk2.cell HSC1 (.inl xbx)
      refine ⟨HSC2, ?_⟩
      refine wpAnyH_all (rs := [11]) (by kernel_rfl) (by simp) (fun i hi => ?_)
      obtain rfl : i = 11 := by simpa using hi
      refine wpOp_one rfl ?_
      (repeat (first | (with_reducible first | refine xA ?_ | refine xB ?_ | refine xC ?_ | refine xD ?_ | refine xH ?_ | refine xI rfl ?_ | refine xE ?_ | refine xF ?_ | refine xG ?_) | go_skip | go_guarded | (go_at_call 116; (with_reducible refine (back_n (k + 1) w2 hG2 _ t.2 (hO2.slX (.inr rfl)) HTN.out hn1 hn2).mono ?_); rintro _ w3 ⟨v3, rfl, hS3, hG3, hb3⟩) | go_values | go_skip | go_guarded | go_step | go_upon | go_back | ((with_reducible show Oper.upon _ _ _ _ _ _); go_simp) | (dsimp only)))
      have HSC3 : w3.cell? ⟨bx, ox + k, none⟩ = some (.int .i64 x) := (Kept.ofBelow (X := fun _ => True) hb3).cell HSC2 trivial
      refine ⟨HSC3, ?_⟩
      refine wpAnyH_all (rs := [12]) (by kernel_rfl) (by simp) (fun i hi => ?_)
      obtain rfl : i = 12 := by simpa using hi
      refine wpOp_one rfl ?_
      (repeat (first | (with_reducible first | refine xA ?_ | refine xB ?_ | refine xC ?_ | refine xD ?_ | refine xH ?_ | refine xI rfl ?_ | refine xE ?_ | refine xF ?_ | refine xG ?_) | go_values | go_skip | go_guarded | go_step | go_upon | go_back | ((with_reducible show Oper.upon _ _ _ _ _ _); go_simp) | (dsimp only)))
      refine ⟨HSC3, ?_⟩
      refine wpAnyH_done (by kernel_rfl) ?_ _
      (repeat (first | (with_reducible first | refine xA ?_ | refine xB ?_ | refine xC ?_ | refine xD ?_ | refine xH ?_ | refine xI rfl ?_ | refine xE ?_ | refine xF ?_ | refine xG ?_) | go_values | go_skip | go_guarded | go_step | go_upon | go_back | ((with_reducible show Oper.upon _ _ _ _ _ _); go_simp) | (dsimp only)))
      go_ret
      exact ⟨v3, _, rfl, fun k h => .inl (.inl (.inl h)), hS3.mono fun _ _ h => ⟨.inr h.1, Nat.le_trans HK0.size (Nat.le_trans hb1.size (Nat.le_trans hk2.size h.2))⟩, hG3, (HK0.trans ((Kept.ofBelow hb1).trans (hk2.mono fun k _ h => .inl h))).trans (Kept.ofBelow hb3)⟩
  · as_aux_lemma => -- 19
      obtain ⟨t, ht⟩ : ∃ t, sameG g 1 xs ys = t := ⟨_, rfl⟩
      obtain rfl : r = (t.1, [t.2]) := by rw [← hr, ← ht]; rfl
      have HC := Lib.hid (same_n n w hG hba vx vy xs ys hX hY hxn hyn hn2 hn hx hy hI t ht)
      clear hX hY hG hx hy hI hr ht hn hba L1 Ln hxn hyn
      go_enter Tryz.func80, Tryz.ntmps80
      (repeat (first | (with_reducible first | refine xA ?_ | refine xB ?_ | refine xC ?_ | refine xD ?_ | refine xH ?_ | refine xI rfl ?_ | refine xE ?_ | refine xF ?_ | refine xG ?_) | go_skip | go_guarded | (go_at_call 117; (with_reducible refine (HC.out).mono ?_); rintro _ w2 ⟨rfl, hG2, hk2⟩) | go_values | go_skip | go_guarded | go_step | go_upon | go_back | ((with_reducible show Oper.upon _ _ _ _ _ _); go_simp) | (dsimp only)))
      go_ret
      exact ⟨_, _, rfl, fun k h => .inl h, (lit_row w2 hG2 t.2).1.mono fun _ _ h => ⟨.inr h, by rw [h]; exact hk2.size⟩, (lit_row w2 hG2 t.2).2, hk2.alloc _⟩
  · as_aux_lemma => -- 20
      obtain ⟨t, ht⟩ : ∃ t, lessG g xs ys = t := ⟨_, rfl⟩
      obtain rfl : r = (t.1, [t.2]) := by rw [← hr, ← ht]; rfl
      have HC := Lib.hid (less_n n w hG hba vx vy xs ys hX hY hxn hyn hn2 hn hx hy hI t ht)
      clear hX hY hG hx hy hI hr ht hn hba L1 Ln hxn hyn
      go_enter Tryz.func80, Tryz.ntmps80
      (repeat (first | (with_reducible first | refine xA ?_ | refine xB ?_ | refine xC ?_ | refine xD ?_ | refine xH ?_ | refine xI rfl ?_ | refine xE ?_ | refine xF ?_ | refine xG ?_) | go_skip | go_guarded | (go_at_call 118; (with_reducible refine (HC.out).mono ?_); rintro _ w2 ⟨rfl, hG2, hk2⟩) | go_values | go_skip | go_guarded | go_step | go_upon | go_back | ((with_reducible show Oper.upon _ _ _ _ _ _); go_simp) | (dsimp only)))
      go_ret
      exact ⟨_, _, rfl, fun k h => .inl h, (lit_row w2 hG2 t.2).1.mono fun _ _ h => ⟨.inr h, by rw [h]; exact hk2.size⟩, (lit_row w2 hG2 t.2).2, hk2.alloc _⟩
  · as_aux_lemma => -- 21
      obtain ⟨t, ht⟩ : ∃ t, lessG g (xs.set (n - 1) (-(xs.getD (n - 1) 0))) (ys.set (n - 1) (-(ys.getD (n - 1) 0))) = t := ⟨_, rfl⟩
      obtain rfl : r = (t.1, [t.2]) := by rw [← hr, ← ht]; rfl
      have HA := Lib.hid (signs_n n w hG vx xs hX hxn hn1 hn2 hx)
      have hxs := set_isL (k := n - 1) hx (top_isL hx hxn hn1).neg
      have hys := set_isL (k := n - 1) hy (top_isL hy hyn hn1).neg
      have hxl : (xs.set (n - 1) (-(xs.getD (n - 1) 0))).length = n := by rw [List.length_set, hxn]
      have hyl : (ys.set (n - 1) (-(ys.getD (n - 1) 0))).length = n := by rw [List.length_set, hyn]
      obtain ⟨xs', hxs'⟩ : ∃ l, xs.set (n - 1) (-(xs.getD (n - 1) 0)) = l := ⟨_, rfl⟩
      obtain ⟨ys', hys'⟩ : ∃ l, ys.set (n - 1) (-(ys.getD (n - 1) 0)) = l := ⟨_, rfl⟩
      rw [hxs'] at HA hxs hxl ht
      rw [hys'] at hys hyl ht
      have HB := Lib.hid (fun (w1 : World) (v1 : Value) (hb1 : Below w.heap.size w w1) (hG1 : GR (fun k => X k ∨ v1.ownBlock = some k) base w1 gb g) => hys' ▸ signs_n n w1 hG1 vy ys ((hY.kept (Kept.ofBelow hb1)).mono fun _ _ h => .inl h) hyn hn1 hn2 hy)
      have HC := Lib.hid (fun (w2 : World) (Z : Nat → Prop) (v1 v2 : Value) (hs2 : w.heap.size ≤ w2.heap.size) (hG2 : GR Z base w2 gb g) (h1 : SlX Z w2 v1 xs') (h2 : SlX Z w2 v2 ys') => less_n n w2 hG2 (Nat.le_trans hba hs2) v1 v2 xs' ys' h1 h2 hxl hyl hn2 hn hxs hys hI t ht)
      clear hxs hys hxl hyl hxs' hys'
      clear hX hY hG hx hy hI hr ht hn hba L1 Ln hxn hyn
      go_enter Tryz.func80, Tryz.ntmps80
      (repeat (first | (with_reducible first | refine xA ?_ | refine xB ?_ | refine xC ?_ | refine xD ?_ | refine xH ?_ | refine xI rfl ?_ | refine xE ?_ | refine xF ?_ | refine xG ?_) | go_skip | go_guarded | (go_at_call 119; (with_reducible refine (HA.out).mono ?_); rintro _ w1 ⟨v1, rfl, hS1, hG1, hb1⟩; clear HA) | (go_at_call 119; (with_reducible refine (HB.out w1 v1 hb1 hG1).mono ?_); rintro _ w2 ⟨v2, rfl, hS2, hG2, hb2⟩) | (go_at_call 118; (with_reducible refine (HC.out w2 _ v1 v2 (Nat.le_trans hb1.size hb2.size) hG2 ((hS1.kept (Kept.ofBelow hb2)).mono fun _ _ h => .inl (.inr h.1)) (hS2.mono fun _ _ h => .inr h.1)).mono ?_); rintro _ w3 ⟨rfl, hG3, hk3⟩) | go_values | go_skip | go_guarded | go_step | go_upon | go_back | ((with_reducible show Oper.upon _ _ _ _ _ _); go_simp) | (dsimp only)))
      go_ret
      exact ⟨_, _, rfl, fun k h => .inl (.inl (.inl h)), (lit_row w3 hG3 t.2).1.mono fun _ _ h => ⟨.inr h, by rw [h]; exact Nat.le_trans hb1.size (Nat.le_trans hb2.size hk3.size)⟩, (lit_row w3 hG3 t.2).2, (((Kept.ofBelow hb1).trans (Kept.ofBelow hb2)).trans (hk3.mono fun k _ h => .inl (.inl h))).alloc _⟩
end Go.Proofs.YtmaogkgjiplckaaGreat
namespace Go.Proofs.YtmaogkgjiplckaaGreat
open Go.RowKit
theorem applyC_any {X : Nat → Prop} {base gb : Nat} {g : G} {fr : List Int} {s : Nat → Bool} (op : Int) (w : World) (hG : GR X base w gb g) (hba : base ≤ w.heap.size) (vx vy : Value) (xs ys : List Int) (n : Nat) (hX : SlX X w vx xs) (hY : SlX X w vy ys) (hxn : xs.length = n) (hyn : ys.length = n) (hn1 : 1 ≤ n) (hn2 : n ≤ 64) (hn : g.n + 40000 ≤ 1048576) (hx : ∀ x ∈ xs, isL g.n x) (hy : ∀ y ∈ ys, isL g.n y) (hI : GI g fr s) (h8 : 8 ≤ op) (h21 : op ≤ 21) (r : G × List Int) (hr : applyG op g n xs ys = r)
    (b0 b1 b2 b3 : Nat) (c0 : w.cell? ⟨b0, 0, none⟩ = some (.pointer (some ⟨gb, 0, none⟩))) (c1 : w.cell? ⟨b1, 0, none⟩ = some (.int .i64 op)) (c2 : w.cell? ⟨b2, 0, none⟩ = some vx) (c3 : w.cell? ⟨b3, 0, none⟩ = some vy) :
    Calls Tryz.prog 79 #[.pointer (some ⟨b0, 0, none⟩), .pointer (some ⟨b1, 0, none⟩), .pointer (some ⟨b2, 0, none⟩), .pointer (some ⟨b3, 0, none⟩)] w (WordY X base gb w r) := by
  obtain ⟨ax, cx, rfl⟩ := hX.shape
  obtain ⟨ay, cy, rfl⟩ := hY.shape
  have H := Lib.hid (apply_any op w hG hba _ _ xs ys n hX hY hxn hyn hn1 hn2 hn hx hy hI h8 h21 r hr)
  clear hG hba hX hY hxn hyn hn hx hy hI hr h8 h21
  go_enter Tryz.func79, Tryz.ntmps79
  (repeat (first | (with_reducible first | refine xA ?_ | refine xB ?_ | refine xC ?_ | refine xD ?_ | refine xH ?_ | refine xI rfl ?_ | refine xE ?_ | refine xF ?_ | refine xG ?_) | go_skip | go_guarded | (go_at_call 80; (with_reducible refine (H.out).mono ?_); rintro _ w1 ⟨v, Y, rfl, hXY, hS, hG, hK⟩) | go_values | go_skip | go_guarded | go_step | go_upon | go_back | ((with_reducible show Oper.upon _ _ _ _ _ _); go_simp) | (dsimp only)))
  go_ret
  exact ⟨v, Y, rfl, hXY, hS, hG, hK⟩
theorem wordY_box {X Y : Nat → Prop} {base gb : Nat} {w w1 w2 : World} {r : G × List Int} {v : Value} (hXY : ∀ k, (X k ∨ k = w.heap.size) → Y k) (hS : SlX (fun k => Y k ∧ (w.alloc (.cells #[.slice none 0 0] 31)).heap.size ≤ k) w1 v r.2)
    (hG : GR Y base w1 gb r.1) (hK : Kept (fun k => X k ∨ k = w.heap.size) (w.alloc (.cells #[.slice none 0 0] 31)) w1) (hX : ∀ k, X k → k < w.heap.size) (hg : w1.grownBy w2 (some w.heap.size)) : WordY X base gb w r (.returned v) w2 := by
  have hs : (w.alloc (.cells #[.slice none 0 0] 31)).heap.size = w.heap.size + 1 := by simp
  rw [hs] at hS
  have hk12 : Kept (fun i => i ≠ w.heap.size) w1 w2 := ⟨hg.os, hg.tape, hg.output, hg.size, fun i hi hx => hg.block i hi (fun e => hx (by injection e))⟩
  refine ⟨v, Y, rfl, fun k h => hXY k (.inl h), (hS.kept (hk12.mono fun k _ h => by show k ≠ _; have := h.2; omega)).mono fun k _ h => ⟨h.1, by have := h.2; omega⟩, hG.other hg (hXY _ (.inr rfl)), ?_⟩
  refine (((Kept.refl X w).alloc (.cells #[.slice none 0 0] 31)).trans (hK.mono fun k _ h => .inl h)).grown hg ?_
  intro g e h1 h2
  injection e with e
  omega
set_option maxRecDepth 100000 in
theorem trya_any {X : Nat → Prop} {base gb : Nat} (w : World) (b0 b1 b2 b3 : Nat) (r : G × List Int) (hX : ∀ k, X k → k < w.heap.size)
    (hC : Calls Tryz.prog 79 #[.pointer (some ⟨b0, 0, none⟩), .pointer (some ⟨b1, 0, none⟩), .pointer (some ⟨b2, 0, none⟩), .pointer (some ⟨b3, 0, none⟩)] (w.alloc (.cells #[.slice none 0 0] 31)) (WordY (fun k => X k ∨ k = w.heap.size) base gb (w.alloc (.cells #[.slice none 0 0] 31)) r)) :
    Calls Tryz.prog 78 #[.func (Fn.func 79) #[] #[.pointer (some ⟨b0, 0, none⟩), .pointer (some ⟨b1, 0, none⟩), .pointer (some ⟨b2, 0, none⟩), .pointer (some ⟨b3, 0, none⟩)]] w (WordY X base gb w r) := by
  have hmf : ∀ (fn : Fn) (first cap : Array Value) (w : World), (Instr.makeFunc fn first cap).run Tryz.prog w = .ok (.func fn first cap) w := fun _ _ _ _ => rfl
  have HC := Lib.hid hC
  have HX := Lib.hid hX
  clear hC hX
  go_enter_defers Tryz.func78, Tryz.ntmps78
  (repeat (first | (with_reducible first | refine xA ?_ | refine xB ?_ | refine xC ?_ | refine xD ?_ | refine xH ?_ | refine xI rfl ?_ | refine xE ?_ | refine xF ?_ | refine xG ?_) | go_skip | go_guarded | (go_at_call 79; (with_reducible refine (HC.out).mono ?_); rintro _ w1 ⟨v, Y, rfl, hXY, hS, hG, hK⟩; (obtain ⟨a, c, rfl⟩ := hS.shape); have hh := hK.at (heap_alloc_new w _) (.inr rfl); have hc0 := cell_of_row w1 w.heap.size 0 _ _ _ hh; have hz0 := frozen_of_row w1 w.heap.size 0 _ _ hh; simp at hc0) | go_values | go_skip | go_guarded | go_step | go_upon | go_back | ((with_reducible show Oper.upon _ _ _ _ _ _); go_simp) | (dsimp only)))
  refine door_w (q := w.heap.size) (a := a) (n := r.2.length) (c := c) rfl (by simp [World.cell?, heap_setCell_same _ _ _ _ _ _ hh]) ?_
  exact wordY_box hXY hS hG hK HX.out ⟨rfl, rfl, rfl, by simp, fun k hk hn => heap_setCell_other _ _ k _ (fun e => hn (by rw [e]))⟩
theorem WordY.from {X : Nat → Prop} {base gb : Nat} {w w2 w' : World} {r : G × List Int} {e : Ending} (h : WordY X base gb w2 r e w') (hk : Kept X w w2) : WordY X base gb w r e w' := by
  obtain ⟨v, Y, h1, h2, h3, h4, h5⟩ := h
  exact ⟨v, Y, h1, h2, h3.mono fun k _ h => ⟨h.1, Nat.le_trans hk.size h.2⟩, h4, hk.trans h5⟩
theorem trya2 {X : Nat → Prop} {base gb : Nat} {g : G} {fr : List Int} {s : Nat → Bool} (op : Int) (w : World) (hG : GR X base w gb g) (hba : base ≤ w.heap.size) (vx vy : Value) (xs ys : List Int) (n : Nat) (hX : SlX X w vx xs) (hY : SlX X w vy ys) (hxn : xs.length = n) (hyn : ys.length = n) (hn1 : 1 ≤ n) (hn2 : n ≤ 64) (hn : g.n + 40000 ≤ 1048576) (hx : ∀ x ∈ xs, isL g.n x) (hy : ∀ y ∈ ys, isL g.n y) (hI : GI g fr s) (h8 : 8 ≤ op) (h21 : op ≤ 21)
    (b0 b1 b2 b3 : Nat) (c0 : w.cell? ⟨b0, 0, none⟩ = some (.pointer (some ⟨gb, 0, none⟩))) (c1 : w.cell? ⟨b1, 0, none⟩ = some (.int .i64 op)) (c2 : w.cell? ⟨b2, 0, none⟩ = some vx) (c3 : w.cell? ⟨b3, 0, none⟩ = some vy) :
    Calls Tryz.prog 78 #[.func (Fn.func 79) #[] #[.pointer (some ⟨b0, 0, none⟩), .pointer (some ⟨b1, 0, none⟩), .pointer (some ⟨b2, 0, none⟩), .pointer (some ⟨b3, 0, none⟩)]] w (WordY X base gb w (applyG op g n xs ys)) := by
  have hk := (Kept.refl X w).alloc (.cells #[.slice none 0 0] 31)
  exact trya_any w b0 b1 b2 b3 _ hG.xb (applyC_any (fr := fr) (s := s) op _ (hG.owned (w' := w.alloc (.cells #[.slice none 0 0] 31)) ⟨rfl, rfl, rfl, by simp, fun k hk _ => Below.heap_alloc w _ k hk⟩ (Nat.le_refl _) (by simp)) (by simp; omega) vx vy xs ys n ((hX.kept hk).mono fun _ _ h => .inl h) ((hY.kept hk).mono fun _ _ h => .inl h) hxn hyn hn1 hn2 hn hx hy hI h8 h21 _ rfl b0 b1 b2 b3 (cell_al _ _ c0) (cell_al _ _ c1) (cell_al _ _ c2) (cell_al _ _ c3))
theorem wordB_of {m n : Nat} {l : List Int} (h1 : 1 ≤ n) (h2 : n ≤ 64) (hl : l.length = n) (hx : ∀ x ∈ l, isL m x) : wordB m n l = true := by
  unfold wordB
  rw [allL_iff.2 hx, hl]
  simp
  omega
set_option maxRecDepth 100000 in
set_option maxHeartbeats 1000000 in
theorem Apply_op {X : Nat → Prop} {base gb : Nat} {g : G} {fr : List Int} {s : Nat → Bool} (op : Int) (w : World) (hG : GR X base w gb g) (hba : base ≤ w.heap.size) (vx vy : Value) (xs ys : List Int) (n : Nat) (hX : SlX X w vx xs) (hY : SlX X w vy ys) (hxn : xs.length = n) (hyn : ys.length = n) (hn1 : 1 ≤ n) (hn2 : n ≤ 64) (hn : g.n + 40000 ≤ 1048576) (hx : ∀ x ∈ xs, isL g.n x) (hy : ∀ y ∈ ys, isL g.n y) (hI : GI g fr s) (h8 : 8 ≤ op) (h21 : op ≤ 21) :
    Calls Tryz.prog 63 #[.pointer (some ⟨gb, 0, none⟩), .int .i64 op, vx, vy] w (WordY X base gb w (applyG op g n xs ys)) := by
  have hmf : ∀ (fn : Fn) (first cap : Array Value) (w : World), (Instr.makeFunc fn first cap).run Tryz.prog w = .ok (.func fn first cap) w := fun _ _ _ _ => rfl
  obtain ⟨ax, cx, rfl⟩ := hX.shape
  obtain ⟨ay, cy, rfl⟩ := hY.shape
  have hB := box4_new w gb op (.slice ax xs.length cx) (.slice ay ys.length cy) 68 3 31 31
  have hG4 := (((hG.alloc (.cells #[.pointer (some ⟨gb, 0, none⟩)] 68)).alloc (.cells #[.int .i64 op] 3)).alloc (.cells #[.slice ax xs.length cx] 31)).alloc (.cells #[.slice ay ys.length cy] 31)
  have HK4 := Lib.hid (show Kept X w ((((w.alloc (.cells #[.pointer (some ⟨gb, 0, none⟩)] 68)).alloc (.cells #[.int .i64 op] 3)).alloc (.cells #[.slice ax xs.length cx] 31)).alloc (.cells #[.slice ay ys.length cy] 31)) from ((((Kept.refl X w).alloc _).alloc _).alloc _).alloc _)
  have hs4 : (((((w.alloc (.cells #[.pointer (some ⟨gb, 0, none⟩)] 68)).alloc (.cells #[.int .i64 op] 3)).alloc (.cells #[.slice ax xs.length cx] 31)).alloc (.cells #[.slice ay ys.length cy] 31))).heap.size = w.heap.size + 1 + 1 + 1 + 1 := by simp
  have hq1 : Hid (wordB g.n xs.length xs = true) := Lib.hid (by rw [hxn]; exact wordB_of hn1 hn2 hxn hx)
  have hq2 : Hid ([xs, ys].all (wordB g.n xs.length) = true) := Lib.hid (by
    rw [hxn, List.all_cons, List.all_cons, List.all_nil, wordB_of hn1 hn2 hxn hx, wordB_of hn1 hn2 hyn hy]; rfl)
  have hi := words_one ((((w.alloc (.cells #[.pointer (some ⟨gb, 0, none⟩)] 68)).alloc (.cells #[.int .i64 op] 3)).alloc (.cells #[.slice ax xs.length cx] 31)).alloc (.cells #[.slice ay ys.length cy] 31)) hG4 (.slice ax xs.length cx) xs (hX.kept HK4.out) (by omega) true hq1
  rw [hs4] at hi
  have HS4 := Lib.hid hs4
  have HI := Lib.hid hi
  have hB4 := hB
  obtain ⟨c0, c1, c2, c3⟩ := hB
  have HX := Lib.hid hX
  have HY := Lib.hid hY
  have Hxl := Lib.hid (show xs.length ≤ 1000000 by omega)
  have Hyl := Lib.hid (show ys.length ≤ 1000000 by omega)
  have Hba := Lib.hid hba
  have Hn := Lib.hid hn
  have HXN := Lib.hid hxn
  have HYN := Lib.hid hyn
  have Hx := Lib.hid hx
  have Hy := Lib.hid hy
  have HII := Lib.hid hI
  have o1 : ¬ op < 5 := by omega
  have o2 : ¬ op > 21 := by omega
  have o3 : (op == 6) = false := by simp; omega
  have o4 : (op == 7) = false := by simp; omega
  have o5 : (op == 5) = false := by simp; omega
  clear hX hY hi hG hG4 hs4 hba hn hxn hyn hx hy hI
  go_enter Tryz.func63, Tryz.ntmps63
  (repeat (first | (with_reducible first | refine xA ?_ | refine xB ?_ | refine xC ?_ | refine xD ?_ | refine xH ?_ | refine xI rfl ?_ | refine xE ?_ | refine xF ?_ | refine xG ?_) | go_skip | go_guarded | (go_at_call 76; (with_reducible refine (HI.out).mono ?_); rintro _ w1 ⟨rfl, hG1, hb0⟩; have hb1 : Below (((((w.alloc (.cells #[.pointer (some ⟨gb, 0, none⟩)] 68)).alloc (.cells #[.int .i64 op] 3)).alloc (.cells #[.slice ax xs.length cx] 31)).alloc (.cells #[.slice ay ys.length cy] 31))).heap.size ((((w.alloc (.cells #[.pointer (some ⟨gb, 0, none⟩)] 68)).alloc (.cells #[.int .i64 op] 3)).alloc (.cells #[.slice ax xs.length cx] 31)).alloc (.cells #[.slice ay ys.length cy] 31)) w1 := (by (rw [HS4.out]); exact hb0); clear hb0; have hB1 := hB4.kept hb1; obtain ⟨d0, d1, d2, d3⟩ := hB1; have hK1 := HK4.out.trans (Kept.ofBelow hb1); clear c0 c1 c2 c3 hb1; have hX1 := HX.out.kept hK1; have hY1 := HY.out.kept hK1) | (go_at_call 76; (with_reducible refine (words_two w1 hG1 _ _ xs ys hX1 hY1 Hxl.out Hyl.out _ hq2).mono ?_); rintro _ w2 ⟨rfl, hG2, hb2⟩) | (have e0 := cell_keep hb2 d0; have e1 := cell_keep hb2 d1; have e2 := cell_keep hb2 d2; have e3 := cell_keep hb2 d3; have hk2 := Kept.ofBelow (X := X) hb2; go_at_call 78; (with_reducible refine (trya2 op w2 hG2 (Nat.le_trans Hba.out (hK1.trans hk2).size) _ _ xs ys n (hX1.kept hk2) (hY1.kept hk2) HXN.out HYN.out hn1 hn2 Hn.out Hx.out Hy.out HII.out h8 h21 _ _ _ _ e0 e1 e2 e3).mono ?_); rintro _ w3 ⟨v, Y, rfl, hr⟩) | go_values | go_skip | go_guarded | go_step | go_upon | go_back | ((with_reducible show Oper.upon _ _ _ _ _ _); go_simp) | (dsimp only)))
  go_ret
  exact (show WordY X base gb w2 _ _ w3 from ⟨v, Y, rfl, hr⟩).from (hK1.trans hk2)
set_option maxRecDepth 100000 in
set_option maxHeartbeats 1000000 in
theorem Apply_not {X : Nat → Prop} {base gb : Nat} {g : G} (w : World) (hG : GR X base w gb g) (vx vy : Value) (xs ys : List Int) (n : Nat) (hX : SlX X w vx xs) (hY : SlX X w vy ys) (hxn : xs.length = n) (hn1 : 1 ≤ n) (hn2 : n ≤ 64) (hx : ∀ x ∈ xs, isL g.n x) :
    Calls Tryz.prog 63 #[.pointer (some ⟨gb, 0, none⟩), .int .i64 5, vx, vy] w (WordY X base gb w (g, notL xs)) := by
  obtain ⟨op, hop⟩ : ∃ op : Int, op = 5 := ⟨_, rfl⟩
  rw [← hop]
  obtain ⟨ax, cx, rfl⟩ := hX.shape
  obtain ⟨ay, cy, rfl⟩ := hY.shape
  have hB := box4_new w gb op (.slice ax xs.length cx) (.slice ay ys.length cy) 68 3 31 31
  have hG4 := (((hG.alloc (.cells #[.pointer (some ⟨gb, 0, none⟩)] 68)).alloc (.cells #[.int .i64 op] 3)).alloc (.cells #[.slice ax xs.length cx] 31)).alloc (.cells #[.slice ay ys.length cy] 31)
  have HK4 := Lib.hid (show Kept X w ((((w.alloc (.cells #[.pointer (some ⟨gb, 0, none⟩)] 68)).alloc (.cells #[.int .i64 op] 3)).alloc (.cells #[.slice ax xs.length cx] 31)).alloc (.cells #[.slice ay ys.length cy] 31)) from ((((Kept.refl X w).alloc _).alloc _).alloc _).alloc _)
  have hs4 : (((((w.alloc (.cells #[.pointer (some ⟨gb, 0, none⟩)] 68)).alloc (.cells #[.int .i64 op] 3)).alloc (.cells #[.slice ax xs.length cx] 31)).alloc (.cells #[.slice ay ys.length cy] 31))).heap.size = w.heap.size + 1 + 1 + 1 + 1 := by simp
  have hq1 : Hid (wordB g.n xs.length xs = true) := Lib.hid (by rw [hxn]; exact wordB_of hn1 hn2 hxn hx)
  have hi := words_one ((((w.alloc (.cells #[.pointer (some ⟨gb, 0, none⟩)] 68)).alloc (.cells #[.int .i64 op] 3)).alloc (.cells #[.slice ax xs.length cx] 31)).alloc (.cells #[.slice ay ys.length cy] 31)) hG4 (.slice ax xs.length cx) xs (hX.kept HK4.out) (by omega) true hq1
  rw [hs4] at hi
  have HS4 := Lib.hid hs4
  have HI := Lib.hid hi
  have hB4 := hB
  obtain ⟨c0, c1, c2, c3⟩ := hB
  have HX := Lib.hid hX
  have HY := Lib.hid hY
  have HXN := Lib.hid hxn
  have HNM := Lib.hid (show n ≤ 1000000 by omega)
  have HXB := Lib.hid (isL_b hx hG.n1)
  have o1 : ¬ op < 5 := by omega
  have o2 : ¬ op > 21 := by omega
  have o3 : (op == 6) = false := by simp; omega
  have o4 : (op == 7) = false := by simp; omega
  have o5 : (op == 5) = true := by simp; omega
  clear hX hY hi hG hG4 hs4 hxn hx hop
  go_enter Tryz.func63, Tryz.ntmps63
  (repeat (first | (with_reducible first | refine xA ?_ | refine xB ?_ | refine xC ?_ | refine xD ?_ | refine xH ?_ | refine xI rfl ?_ | refine xE ?_ | refine xF ?_ | refine xG ?_) | go_skip | go_guarded | (go_at_call 76; (with_reducible refine (HI.out).mono ?_); rintro _ w1 ⟨rfl, hG1, hb0⟩; have hb1 : Below (((((w.alloc (.cells #[.pointer (some ⟨gb, 0, none⟩)] 68)).alloc (.cells #[.int .i64 op] 3)).alloc (.cells #[.slice ax xs.length cx] 31)).alloc (.cells #[.slice ay ys.length cy] 31))).heap.size ((((w.alloc (.cells #[.pointer (some ⟨gb, 0, none⟩)] 68)).alloc (.cells #[.int .i64 op] 3)).alloc (.cells #[.slice ax xs.length cx] 31)).alloc (.cells #[.slice ay ys.length cy] 31)) w1 := (by (rw [HS4.out]); exact hb0); clear hb0; have hB1 := hB4.kept hb1; obtain ⟨d0, d1, d2, d3⟩ := hB1; have hK1 := HK4.out.trans (Kept.ofBelow hb1); clear c0 c1 c2 c3 hb1; have hX1 := HX.out.kept hK1; have hY1 := HY.out.kept hK1) | (go_at_call 77; (with_reducible refine (turned_n n w1 _ xs hX1 HXN.out HNM.out HXB.out).mono ?_); rintro _ w2 ⟨rfl, hO2, hb2⟩) | go_values | go_skip | go_guarded | go_step | go_upon | go_back | ((with_reducible show Oper.upon _ _ _ _ _ _); go_simp) | (dsimp only)))
  go_ret
  exact ⟨_, _, rfl, fun k h => .inl h, hO2.slX (X := fun k => (X k ∨ k = w1.heap.size) ∧ w.heap.size ≤ k) ⟨.inr rfl, hK1.size⟩, hG1.owned (below_own hb2) (Nat.le_refl _) hO2.lt, hK1.trans (Kept.ofBelow hb2)⟩
end Go.Proofs.YtmaogkgjiplckaaGreat
namespace Go.Proofs.YtmaogkgjiplckaaGreat
open Go.RowKit
section
variable {ops : Array Oper} {rest : List Oper} {o : Oper} {a : Act} {w W : World} {Q : Exit → Act → World → Prop} {B : Nat} {l : List (Array Value × TypeId)} {K : Act → Prop}
theorem quiet_bitX (HM : MemL W B l) (i n : Nat) (hi : l[i]? = some (bw n, 134)) (k : Nat) (h64 : k < 64) (b : Bool) (hb : Hid (n.testBit k = b)) (x : Operand) (ho : o.op = .load 4 x) (hx : a.eval x = .pointer (some ⟨B + i, k, none⟩)) (hk : K (a.put o.dst (.bool b))) : o.quiet Tryz.prog a (Cls W) K :=
  quiet_load 4 x ho _ hx _ (fun w hw => (bitL (HM.below hw) i n hi k h64).trans (by rw [hb.out])) (fun w h => ld4 w _ _ h) hk
end
theorem o_none (op : Int) (W : Nat) (X Y : Int) (h5 : (op == 5) = false) (h8 : (op == 8) = false) (h9 : (op == 9) = false) (h10 : (op == 10) = false) (h11 : (op == 11) = false) (h12 : (op == 12) = false) (h13 : (op == 13) = false) (h14 : (op == 14) = false) (h15 : (op == 15) = false) (h16 : (op == 16) = false) (h17 : (op == 17) = false) (h18 : (op == 18) = false) (h19 : (op == 19) = false) (h20 : (op == 20) = false) (h21 : (op == 21) = false) : opI op W X Y = 0 := by
  simp only [beq_eq_false_iff_ne] at *
  unfold opI
  rw [if_neg h5, if_neg h8, if_neg h9, if_neg h10, if_neg h11, if_neg h12, if_neg h13, if_neg h14, if_neg h15, if_neg h16, if_neg h17, if_neg h18, if_neg h19, if_neg h20, if_neg h21]
theorem eqv {P : Program} {N : Nat} {args : Array Value} {w : World} {n r B : Nat} (hr : Hid (r = n))
    (h : Calls P N args w fun e w' => e = .returned (.agg (bw n)) ∧ Below B w w') : Calls P N args w fun e w' => e = .returned (.agg (bw r)) ∧ Below B w w' := by
  rw [hr.out]; exact h
theorem div_anyX (W x y q r : Nat) (w : World) (hW0 : 1 ≤ W) (hW : W ≤ 64) (hx : Hid (x < 2 ^ W)) (hy : Hid (y < 2 ^ W)) (hq : Hid (q = if y = 0 then 2 ^ W - 1 else x / y)) (hr : Hid (r = x % y)) :
    Calls Tryz.prog 96 #[.int .i64 W, .agg (bw x), .agg (bw y)] w fun e w' => e = .returned (.tuple #[.agg (bw q), .agg (bw r)]) ∧ Below w.heap.size w w' := by
  rw [hq.out, hr.out]
  by_cases h : y = 0
  · subst h
    rw [if_pos rfl, Nat.mod_zero]
    exact div_zero W x w hW
  · rw [if_neg h]
    exact div_pos W x y w hW0 hW hx hy (by omega)
set_option maxRecDepth 100000 in
set_option maxHeartbeats 4000000 in
theorem rapply_any (op a : Int) (x y : Nat) (w : World) (hx : Hid (x < 18446744073709551616)) (hy : Hid (y < 18446744073709551616)) :
    Calls Tryz.prog 72 #[.int .i64 op, .int .i64 a, .int .u64 x, .int .u64 y] w fun e w' => e = .returned (.int .u64 (AP op a x y)) ∧ Below w.heap.size w w' := by
  have hz := (zero_of_info zero29).1
  have hW0 := (wid_bd a).1
  have hW := (wid_bd a).2
  have hp := Nat.pow_pos (n := wid a) (show 0 < 2 by omega)
  have hAP : Hid (AP op a x y = opI op (wid a) ((x % 2 ^ wid a : Nat) : Int) ((y % 2 ^ wid a : Nat) : Int)) := Lib.hid (by rw [Int.natCast_emod, Int.natCast_emod, ← pow_nat]; rfl)
  have hXl : Hid (x % 2 ^ wid a < 2 ^ wid a) := Lib.hid (Nat.mod_lt _ hp)
  have hYl : Hid (y % 2 ^ wid a < 2 ^ wid a) := Lib.hid (Nat.mod_lt _ hp)
  obtain ⟨X, hX⟩ : ∃ X, Hid (X = x % 2 ^ wid a) := ⟨_, Lib.hid rfl⟩
  obtain ⟨Y, hY⟩ : ∃ Y, Hid (Y = y % 2 ^ wid a) := ⟨_, Lib.hid rfl⟩
  rw [← hX.out, ← hY.out] at hAP
  rw [← hX.out] at hXl
  rw [← hY.out] at hYl
  obtain ⟨q, hq⟩ : ∃ q, Hid (q = if Y = 0 then 2 ^ wid a - 1 else X / Y) := ⟨_, Lib.hid rfl⟩
  obtain ⟨r, hr⟩ : ∃ r, Hid (r = X % Y) := ⟨_, Lib.hid rfl⟩
  have hql : Hid (q < 2 ^ wid a) := Lib.hid (by
    rw [hq.out]
    split
    · omega
    · exact Nat.lt_of_le_of_lt (Nat.div_le_self _ _) hXl.out)
  have hrl : Hid (r < 2 ^ wid a) := Lib.hid (by
    rw [hr.out]; exact Nat.lt_of_le_of_lt (Nat.mod_le _ _) hXl.out)
  have HB := Below.refl w.heap.size w
  clear hp
  go_enter Tryz.func72, Tryz.ntmps72
  (repeat (first | (with_reducible first | refine xA ?_ | refine xB ?_ | refine xC ?_ | refine xD ?_ | refine xH ?_ | refine xI rfl ?_ | refine xE ?_ | refine xF ?_ | refine xG ?_) | go_skip | go_guarded | (go_at_call 94; (with_reducible refine (rwidth_any _ _).mono ?_); rintro e w1 ⟨rfl, rfl⟩) | (go_at_call 95; (with_reducible refine (of_anyX _ _ _ _ hW (by assumption) (by assumption)).mono ?_); rintro e w1 ⟨rfl, hb⟩; replace HB := HB.trans (hb.mono HB.size); clear hb) | (go_at_call 96; (with_reducible refine (div_anyX _ _ _ _ _ _ hW0 hW (by assumption) (by assumption) (by assumption) (by assumption)).mono ?_); rintro e w5 ⟨rfl, hb⟩; replace HM := HM.below hb; replace HB := HB.trans (hb.mono HB.size); clear hb) | ((with_reducible refine wl_id ?_); refine wl_storeL HM 1 _ _ rfl rfl _ _ rfl rfl rfl ?_; intro w9 HM1 hb; (simp only [List.set_cons_succ, List.set_cons_zero] at HM1); clear HM; have HM := HM1; clear HM1; replace HB := HB.trans (hb.mono hsz1); clear hb; simp only [Act.put, qz4, qz5, qz6]) | ((with_reducible refine wl_id ?_); refine wl_storeL (mem2 w1 (bw 0) (bw 0) 134 134).1 0 _ _ rfl rfl _ _ rfl rfl rfl ?_; intro w6 HM hb6; (simp only [List.set_cons_succ, List.set_cons_zero] at HM); have hsz1 := HB.size; have hb7 : Below w1.heap.size w1 w6 := (((Below.refl _ _).alloc (Nat.le_refl _) _).alloc (by simp) _).trans hb6; replace HB := HB.trans (hb7.mono HB.size); clear hb6 hb7; simp only [Act.put, qz4, qz5, qz6]) | ((with_reducible refine wl_id ?_); refine wl_loadL HM 0 _ rfl rfl _ rfl rfl ?_; simp only [Act.put, qz4, qz5, qz6]) | ((with_reducible refine wl_id ?_); refine wl_loadL HM 1 _ rfl rfl _ rfl rfl ?_; simp only [Act.put, qz4, qz5, qz6]) | ((with_reducible refine wl_id ?_); refine wl_storeL HN 1 _ _ rfl rfl _ _ rfl rfl rfl ?_; intro w9 HN1 hb; (simp only [List.set_cons_succ, List.set_cons_zero] at HN1); clear HN; have HN := HN1; clear HN1; replace HM := HM.under hb hsz; replace HB := HB.trans (hb.mono hsz2); clear hb; simp only [Act.put, qz4, qz5, qz6]) | ((with_reducible refine wl_id ?_); refine wl_storeL (mem2 w5 (bw 0) (bw 0) 134 134).1 0 _ _ rfl rfl _ _ rfl rfl rfl ?_; intro w6 HN hb6; (simp only [List.set_cons_succ, List.set_cons_zero] at HN); have hb7 : Below w5.heap.size w5 w6 := (((Below.refl _ _).alloc (Nat.le_refl _) _).alloc (by simp) _).trans hb6; have hsz := HM.size; have hsz2 := HB.size; replace HM := HM.below hb7; replace HB := HB.trans (hb7.mono HB.size); clear hb6 hb7; simp only [Act.put, qz4, qz5, qz6]) | go_values | go_skip | go_guarded | go_step | go_upon | go_back | ((with_reducible show Oper.upon _ _ _ _ _ _); go_simp) | (dsimp only)))
  · obtain rfl : op = 5 := by simpa using (by assumption : (op == 5) = true)
    have hp := Nat.pow_pos (n := wid a) (show 0 < 2 by omega)
    obtain ⟨s, hs⟩ : ∃ s, Hid (s = 2 ^ wid a - 1 - X % 2 ^ wid a) := ⟨_, Lib.hid rfl⟩
    have hsW : Hid (s < 2 ^ wid a) := Lib.hid (by rw [hs.out]; omega)
    have hsl : Hid (s < 18446744073709551616) := Lib.hid (lt_pow hsW.out hW)
    clear hp hsW
    (repeat (first | (with_reducible first | refine xA ?_ | refine xB ?_ | refine xC ?_ | refine xD ?_ | refine xH ?_ | refine xI rfl ?_ | refine xE ?_ | refine xF ?_ | refine xG ?_) | go_skip | go_guarded | ((with_reducible refine wl_id ?_); refine wl_loadL HM 0 _ rfl rfl _ rfl rfl ?_; simp only [Act.put, qz4, qz5, qz6]) | ((with_reducible refine wl_id ?_); refine wl_loadL HM 1 _ rfl rfl _ rfl rfl ?_; simp only [Act.put, qz4, qz5, qz6]) | (go_at_call 98; (with_reducible refine (eqv (by assumption) (not_any _ _ _ hW)).mono ?_); rintro e w1 ⟨rfl, hb⟩; (replace HM := HM.below hb; replace HN := HN.below hb; replace HB := HB.trans (hb.mono HB.size); clear hb)) | (go_at_call 97; (with_reducible refine (num_any _ _ (by assumption)).mono ?_); rintro e w1 ⟨rfl, hb⟩; (replace HM := HM.below hb; replace HN := HN.below hb; replace HB := HB.trans (hb.mono HB.size); clear hb)) | go_values | go_skip | go_guarded | go_step | go_upon | go_back | ((with_reducible show Oper.upon _ _ _ _ _ _); go_simp) | (dsimp only)))
    go_ret
    exact ⟨ret_int (by rw [hAP.out, ← o_5 hXl.out hs.out]), HB⟩
  by_cases e8 : op = 8
  · subst e8
    have hp := Nat.pow_pos (n := wid a) (show 0 < 2 by omega)
    obtain ⟨s, hs⟩ : ∃ s, Hid (s = (X + Y + false.toNat) % 2 ^ wid a) := ⟨_, Lib.hid rfl⟩
    have hsW : Hid (s < 2 ^ wid a) := Lib.hid (by rw [hs.out]; exact Nat.mod_lt _ hp)
    have hsl : Hid (s < 18446744073709551616) := Lib.hid (lt_pow hsW.out hW)
    clear hp hsW
    (repeat (first | (with_reducible first | refine xA ?_ | refine xB ?_ | refine xC ?_ | refine xD ?_ | refine xH ?_ | refine xI rfl ?_ | refine xE ?_ | refine xF ?_ | refine xG ?_) | go_skip | go_guarded | ((with_reducible refine wl_id ?_); refine wl_loadL HM 0 _ rfl rfl _ rfl rfl ?_; simp only [Act.put, qz4, qz5, qz6]) | ((with_reducible refine wl_id ?_); refine wl_loadL HM 1 _ rfl rfl _ rfl rfl ?_; simp only [Act.put, qz4, qz5, qz6]) | (go_at_call 99; (with_reducible refine (eqv (by assumption) (add_ref _ _ _ _ _ hW (by assumption) (by assumption))).mono ?_); rintro e w1 ⟨rfl, hb⟩; (replace HM := HM.below hb; replace HN := HN.below hb; replace HB := HB.trans (hb.mono HB.size); clear hb)) | (go_at_call 97; (with_reducible refine (num_any _ _ (by assumption)).mono ?_); rintro e w1 ⟨rfl, hb⟩; (replace HM := HM.below hb; replace HN := HN.below hb; replace HB := HB.trans (hb.mono HB.size); clear hb)) | go_values | go_skip | go_guarded | go_step | go_upon | go_back | ((with_reducible show Oper.upon _ _ _ _ _ _); go_simp) | (dsimp only)))
    go_ret
    exact ⟨ret_int (by rw [hAP.out, ← o_8 hs.out]), HB⟩
  have f8 : (op == 8) = false := by simpa using e8
  clear e8
  by_cases e9 : op = 9
  · subst e9
    have hp := Nat.pow_pos (n := wid a) (show 0 < 2 by omega)
    obtain ⟨n, hn⟩ : ∃ n, Hid (n = 2 ^ wid a - 1 - Y % 2 ^ wid a) := ⟨_, Lib.hid rfl⟩
    have hnl : Hid (n < 2 ^ wid a) := Lib.hid (by rw [hn.out]; omega)
    obtain ⟨s, hs⟩ : ∃ s, Hid (s = (X + n + true.toNat) % 2 ^ wid a) := ⟨_, Lib.hid rfl⟩
    have hsW : Hid (s < 2 ^ wid a) := Lib.hid (by rw [hs.out]; exact Nat.mod_lt _ hp)
    have hsl : Hid (s < 18446744073709551616) := Lib.hid (lt_pow hsW.out hW)
    clear hp hsW
    (repeat (first | (with_reducible first | refine xA ?_ | refine xB ?_ | refine xC ?_ | refine xD ?_ | refine xH ?_ | refine xI rfl ?_ | refine xE ?_ | refine xF ?_ | refine xG ?_) | go_values | go_skip | go_guarded | go_step | go_upon | go_back | ((with_reducible show Oper.upon _ _ _ _ _ _); go_simp) | (dsimp only)))
    refine wp_region_cls (by kernel_rfl) (by kernel_rfl) ?_
    (repeat (first | go_big_quiet_skip | (go_big_quiet_want; first | (refine quiet_loadL HM 0 _ rfl _ rfl rfl ?_; simp only [Act.put, qz4, qz5, qz6]; go_big_quiet_on) | (refine quiet_loadL HM 1 _ rfl _ rfl rfl ?_; simp only [Act.put, qz4, qz5, qz6]; go_big_quiet_on) | (refine quiet_bitX HM 0 _ rfl (wid a - 1) (by omega) _ hb' _ rfl rfl ?_; simp only [Act.put, qz4, qz5, qz6]; go_big_quiet_on) | (refine quiet_bitX HM 1 _ rfl (wid a - 1) (by omega) _ hc' _ rfl rfl ?_; simp only [Act.put, qz4, qz5, qz6]; go_big_quiet_on) | (go_big_quiet_op; first | go_big_quiet_on | (refine Exists.intro _ (And.intro (fun _ _ => rfl) ?_); go_big_quiet_on) | go_big_quiet_call (((intro hC; replace hC : Below _ _ _ := hC); first | (go_at_call 98; (with_reducible refine (eqv (by assumption) (not_any _ _ _ hW)).mono ?_); (rintro e w2 ⟨rfl, hb⟩; exact ⟨rfl, hC.trans (hb.mono hC.size)⟩)) | (go_at_call 99; (with_reducible refine (eqv (by assumption) (add_ref _ _ _ _ _ hW (by assumption) (by assumption))).mono ?_); (rintro e w2 ⟨rfl, hb⟩; exact ⟨rfl, hC.trans (hb.mono hC.size)⟩)) | (go_at_call 97; (with_reducible refine (num_any _ _ (by assumption)).mono ?_); (rintro e w2 ⟨rfl, hb⟩; exact ⟨rfl, hC.trans (hb.mono hC.size)⟩))))))))
    refine wpQuiet_nil ?_
    intro w8 hb
    replace hb : Below _ _ _ := hb
    (replace HM := HM.below hb; replace HN := HN.below hb; replace HB := HB.trans (hb.mono HB.size); clear hb)
    (repeat (first | (with_reducible first | refine xA ?_ | refine xB ?_ | refine xC ?_ | refine xD ?_ | refine xH ?_ | refine xI rfl ?_ | refine xE ?_ | refine xF ?_ | refine xG ?_) | go_values | go_skip | go_guarded | go_step | go_upon | go_back | ((with_reducible show Oper.upon _ _ _ _ _ _); go_simp) | (dsimp only)))
    go_ret
    exact ⟨ret_int (by rw [hAP.out, ← o_9 hYl.out hn.out hs.out]), HB⟩
  have f9 : (op == 9) = false := by simpa using e9
  clear e9
  by_cases e10 : op = 10
  · subst e10
    have hp := Nat.pow_pos (n := wid a) (show 0 < 2 by omega)
    obtain ⟨s, hs⟩ : ∃ s, Hid (s = X * Y % 2 ^ wid a) := ⟨_, Lib.hid rfl⟩
    have hsW : Hid (s < 2 ^ wid a) := Lib.hid (by rw [hs.out]; exact Nat.mod_lt _ hp)
    have hsl : Hid (s < 18446744073709551616) := Lib.hid (lt_pow hsW.out hW)
    clear hp hsW
    (repeat (first | (with_reducible first | refine xA ?_ | refine xB ?_ | refine xC ?_ | refine xD ?_ | refine xH ?_ | refine xI rfl ?_ | refine xE ?_ | refine xF ?_ | refine xG ?_) | go_skip | go_guarded | ((with_reducible refine wl_id ?_); refine wl_loadL HM 0 _ rfl rfl _ rfl rfl ?_; simp only [Act.put, qz4, qz5, qz6]) | ((with_reducible refine wl_id ?_); refine wl_loadL HM 1 _ rfl rfl _ rfl rfl ?_; simp only [Act.put, qz4, qz5, qz6]) | (go_at_call 100; (with_reducible refine (eqv (by assumption) (mul_ref _ _ _ _ hW0 hW (by assumption) (by assumption))).mono ?_); rintro e w1 ⟨rfl, hb⟩; (replace HM := HM.below hb; replace HN := HN.below hb; replace HB := HB.trans (hb.mono HB.size); clear hb)) | (go_at_call 97; (with_reducible refine (num_any _ _ (by assumption)).mono ?_); rintro e w1 ⟨rfl, hb⟩; (replace HM := HM.below hb; replace HN := HN.below hb; replace HB := HB.trans (hb.mono HB.size); clear hb)) | go_values | go_skip | go_guarded | go_step | go_upon | go_back | ((with_reducible show Oper.upon _ _ _ _ _ _); go_simp) | (dsimp only)))
    go_ret
    exact ⟨ret_int (by rw [hAP.out, ← o_10 hs.out]), HB⟩
  have f10 : (op == 10) = false := by simpa using e10
  clear e10
  by_cases e11 : op = 11
  · subst e11
    have hsl : Hid (q < 18446744073709551616) := Lib.hid (lt_pow hql.out hW)
    (repeat (first | (with_reducible first | refine xA ?_ | refine xB ?_ | refine xC ?_ | refine xD ?_ | refine xH ?_ | refine xI rfl ?_ | refine xE ?_ | refine xF ?_ | refine xG ?_) | go_skip | go_guarded | ((with_reducible refine wl_id ?_); refine wl_loadL HN 0 _ rfl rfl _ rfl rfl ?_; simp only [Act.put, qz4, qz5, qz6]) | (go_at_call 97; (with_reducible refine (num_any _ _ (by assumption)).mono ?_); rintro e w1 ⟨rfl, hb⟩; (replace HM := HM.below hb; replace HN := HN.below hb; replace HB := HB.trans (hb.mono HB.size); clear hb)) | go_values | go_skip | go_guarded | go_step | go_upon | go_back | ((with_reducible show Oper.upon _ _ _ _ _ _); go_simp) | (dsimp only)))
    go_ret
    exact ⟨ret_int (by rw [hAP.out, ← o_11 hq.out]), HB⟩
  have f11 : (op == 11) = false := by simpa using e11
  clear e11
  by_cases e12 : op = 12
  · subst e12
    have hsl : Hid (r < 18446744073709551616) := Lib.hid (lt_pow hrl.out hW)
    (repeat (first | (with_reducible first | refine xA ?_ | refine xB ?_ | refine xC ?_ | refine xD ?_ | refine xH ?_ | refine xI rfl ?_ | refine xE ?_ | refine xF ?_ | refine xG ?_) | go_skip | go_guarded | ((with_reducible refine wl_id ?_); refine wl_loadL HN 1 _ rfl rfl _ rfl rfl ?_; simp only [Act.put, qz4, qz5, qz6]) | (go_at_call 97; (with_reducible refine (num_any _ _ (by assumption)).mono ?_); rintro e w1 ⟨rfl, hb⟩; (replace HM := HM.below hb; replace HN := HN.below hb; replace HB := HB.trans (hb.mono HB.size); clear hb)) | go_values | go_skip | go_guarded | go_step | go_upon | go_back | ((with_reducible show Oper.upon _ _ _ _ _ _); go_simp) | (dsimp only)))
    go_ret
    exact ⟨ret_int (by rw [hAP.out, ← o_12 hr.out]), HB⟩
  have f12 : (op == 12) = false := by simpa using e12
  clear e12
  by_cases e13 : op = 13
  · subst e13
    obtain ⟨s, hs⟩ : ∃ s, Hid (s = X &&& Y) := ⟨_, Lib.hid rfl⟩
    have hsW : Hid (s < 2 ^ wid a) := Lib.hid (by rw [hs.out]; exact Nat.and_lt_two_pow _ hYl.out)
    have hsl : Hid (s < 18446744073709551616) := Lib.hid (lt_pow hsW.out hW)
    clear hsW
    (repeat (first | (with_reducible first | refine xA ?_ | refine xB ?_ | refine xC ?_ | refine xD ?_ | refine xH ?_ | refine xI rfl ?_ | refine xE ?_ | refine xF ?_ | refine xG ?_) | go_skip | go_guarded | ((with_reducible refine wl_id ?_); refine wl_loadL HM 0 _ rfl rfl _ rfl rfl ?_; simp only [Act.put, qz4, qz5, qz6]) | ((with_reducible refine wl_id ?_); refine wl_loadL HM 1 _ rfl rfl _ rfl rfl ?_; simp only [Act.put, qz4, qz5, qz6]) | (go_at_call 101; (with_reducible refine (eqv (by assumption) (bitwise_13 _ _ _ _ hW (by assumption) (by assumption))).mono ?_); rintro e w1 ⟨rfl, hb⟩; (replace HM := HM.below hb; replace HN := HN.below hb; replace HB := HB.trans (hb.mono HB.size); clear hb)) | (go_at_call 97; (with_reducible refine (num_any _ _ (by assumption)).mono ?_); rintro e w1 ⟨rfl, hb⟩; (replace HM := HM.below hb; replace HN := HN.below hb; replace HB := HB.trans (hb.mono HB.size); clear hb)) | go_values | go_skip | go_guarded | go_step | go_upon | go_back | ((with_reducible show Oper.upon _ _ _ _ _ _); go_simp) | (dsimp only)))
    go_ret
    exact ⟨ret_int (by rw [hAP.out, ← o_13 hs.out]), HB⟩
  have f13 : (op == 13) = false := by simpa using e13
  clear e13
  by_cases e14 : op = 14
  · subst e14
    obtain ⟨s, hs⟩ : ∃ s, Hid (s = X ||| Y) := ⟨_, Lib.hid rfl⟩
    have hsW : Hid (s < 2 ^ wid a) := Lib.hid (by rw [hs.out]; exact Nat.or_lt_two_pow hXl.out hYl.out)
    have hsl : Hid (s < 18446744073709551616) := Lib.hid (lt_pow hsW.out hW)
    clear hsW
    (repeat (first | (with_reducible first | refine xA ?_ | refine xB ?_ | refine xC ?_ | refine xD ?_ | refine xH ?_ | refine xI rfl ?_ | refine xE ?_ | refine xF ?_ | refine xG ?_) | go_skip | go_guarded | ((with_reducible refine wl_id ?_); refine wl_loadL HM 0 _ rfl rfl _ rfl rfl ?_; simp only [Act.put, qz4, qz5, qz6]) | ((with_reducible refine wl_id ?_); refine wl_loadL HM 1 _ rfl rfl _ rfl rfl ?_; simp only [Act.put, qz4, qz5, qz6]) | (go_at_call 101; (with_reducible refine (eqv (by assumption) (bitwise_14 _ _ _ _ hW (by assumption) (by assumption))).mono ?_); rintro e w1 ⟨rfl, hb⟩; (replace HM := HM.below hb; replace HN := HN.below hb; replace HB := HB.trans (hb.mono HB.size); clear hb)) | (go_at_call 97; (with_reducible refine (num_any _ _ (by assumption)).mono ?_); rintro e w1 ⟨rfl, hb⟩; (replace HM := HM.below hb; replace HN := HN.below hb; replace HB := HB.trans (hb.mono HB.size); clear hb)) | go_values | go_skip | go_guarded | go_step | go_upon | go_back | ((with_reducible show Oper.upon _ _ _ _ _ _); go_simp) | (dsimp only)))
    go_ret
    exact ⟨ret_int (by rw [hAP.out, ← o_14 hs.out]), HB⟩
  have f14 : (op == 14) = false := by simpa using e14
  clear e14
  by_cases e15 : op = 15
  · subst e15
    obtain ⟨s, hs⟩ : ∃ s, Hid (s = X ^^^ Y) := ⟨_, Lib.hid rfl⟩
    have hsW : Hid (s < 2 ^ wid a) := Lib.hid (by rw [hs.out]; exact Nat.xor_lt_two_pow hXl.out hYl.out)
    have hsl : Hid (s < 18446744073709551616) := Lib.hid (lt_pow hsW.out hW)
    clear hsW
    (repeat (first | (with_reducible first | refine xA ?_ | refine xB ?_ | refine xC ?_ | refine xD ?_ | refine xH ?_ | refine xI rfl ?_ | refine xE ?_ | refine xF ?_ | refine xG ?_) | go_skip | go_guarded | ((with_reducible refine wl_id ?_); refine wl_loadL HM 0 _ rfl rfl _ rfl rfl ?_; simp only [Act.put, qz4, qz5, qz6]) | ((with_reducible refine wl_id ?_); refine wl_loadL HM 1 _ rfl rfl _ rfl rfl ?_; simp only [Act.put, qz4, qz5, qz6]) | (go_at_call 101; (with_reducible refine (eqv (by assumption) (bitwise_15 _ _ _ _ hW (by assumption) (by assumption))).mono ?_); rintro e w1 ⟨rfl, hb⟩; (replace HM := HM.below hb; replace HN := HN.below hb; replace HB := HB.trans (hb.mono HB.size); clear hb)) | (go_at_call 97; (with_reducible refine (num_any _ _ (by assumption)).mono ?_); rintro e w1 ⟨rfl, hb⟩; (replace HM := HM.below hb; replace HN := HN.below hb; replace HB := HB.trans (hb.mono HB.size); clear hb)) | go_values | go_skip | go_guarded | go_step | go_upon | go_back | ((with_reducible show Oper.upon _ _ _ _ _ _); go_simp) | (dsimp only)))
    go_ret
    exact ⟨ret_int (by rw [hAP.out, ← o_15 hs.out]), HB⟩
  have f15 : (op == 15) = false := by simpa using e15
  clear e15
  by_cases e16 : op = 16
  · subst e16
    obtain ⟨s, hs⟩ : ∃ s, Hid (s = X * 2 ^ (min Y (wid a)) % 2 ^ wid a) := ⟨_, Lib.hid rfl⟩
    have hsW : Hid (s < 2 ^ wid a) := Lib.hid (by rw [hs.out]; exact Nat.mod_lt _ (Nat.pow_pos (by omega)))
    have hsl : Hid (s < 18446744073709551616) := Lib.hid (lt_pow hsW.out hW)
    clear hsW
    (repeat (first | (with_reducible first | refine xA ?_ | refine xB ?_ | refine xC ?_ | refine xD ?_ | refine xH ?_ | refine xI rfl ?_ | refine xE ?_ | refine xF ?_ | refine xG ?_) | go_skip | go_guarded | ((with_reducible refine wl_id ?_); refine wl_loadL HM 0 _ rfl rfl _ rfl rfl ?_; simp only [Act.put, qz4, qz5, qz6]) | ((with_reducible refine wl_id ?_); refine wl_loadL HM 1 _ rfl rfl _ rfl rfl ?_; simp only [Act.put, qz4, qz5, qz6]) | (go_at_call 102; (with_reducible refine (eqv (by assumption) (moved_up _ _ _ _ hW0 hW (by assumption) (by assumption))).mono ?_); rintro e w1 ⟨rfl, hb⟩; (replace HM := HM.below hb; replace HN := HN.below hb; replace HB := HB.trans (hb.mono HB.size); clear hb)) | (go_at_call 97; (with_reducible refine (num_any _ _ (by assumption)).mono ?_); rintro e w1 ⟨rfl, hb⟩; (replace HM := HM.below hb; replace HN := HN.below hb; replace HB := HB.trans (hb.mono HB.size); clear hb)) | go_values | go_skip | go_guarded | go_step | go_upon | go_back | ((with_reducible show Oper.upon _ _ _ _ _ _); go_simp) | (dsimp only)))
    go_ret
    exact ⟨ret_int (by rw [hAP.out, ← o_16 hs.out]), HB⟩
  have f16 : (op == 16) = false := by simpa using e16
  clear e16
  by_cases e17 : op = 17
  · subst e17
    obtain ⟨s, hs⟩ : ∃ s, Hid (s = sar false X (wid a) (min Y (wid a))) := ⟨_, Lib.hid rfl⟩
    have hsW : Hid (s < 2 ^ wid a) := Lib.hid (by rw [hs.out]; exact sar_lt _ hW0 hXl.out _)
    have hsl : Hid (s < 18446744073709551616) := Lib.hid (lt_pow hsW.out hW)
    clear hsW
    (repeat (first | (with_reducible first | refine xA ?_ | refine xB ?_ | refine xC ?_ | refine xD ?_ | refine xH ?_ | refine xI rfl ?_ | refine xE ?_ | refine xF ?_ | refine xG ?_) | go_skip | go_guarded | ((with_reducible refine wl_id ?_); refine wl_loadL HM 0 _ rfl rfl _ rfl rfl ?_; simp only [Act.put, qz4, qz5, qz6]) | ((with_reducible refine wl_id ?_); refine wl_loadL HM 1 _ rfl rfl _ rfl rfl ?_; simp only [Act.put, qz4, qz5, qz6]) | (go_at_call 102; (with_reducible refine (eqv (by assumption) (moved_17 _ _ _ _ hW0 hW (by assumption) (by assumption))).mono ?_); rintro e w1 ⟨rfl, hb⟩; (replace HM := HM.below hb; replace HN := HN.below hb; replace HB := HB.trans (hb.mono HB.size); clear hb)) | (go_at_call 97; (with_reducible refine (num_any _ _ (by assumption)).mono ?_); rintro e w1 ⟨rfl, hb⟩; (replace HM := HM.below hb; replace HN := HN.below hb; replace HB := HB.trans (hb.mono HB.size); clear hb)) | go_values | go_skip | go_guarded | go_step | go_upon | go_back | ((with_reducible show Oper.upon _ _ _ _ _ _); go_simp) | (dsimp only)))
    go_ret
    exact ⟨ret_int (by rw [hAP.out, ← o_17 hXl.out hs.out]), HB⟩
  have f17 : (op == 17) = false := by simpa using e17
  clear e17
  by_cases e18 : op = 18
  · subst e18
    obtain ⟨s, hs⟩ : ∃ s, Hid (s = sar (X.testBit (wid a - 1)) X (wid a) (min Y (wid a))) := ⟨_, Lib.hid rfl⟩
    have hsW : Hid (s < 2 ^ wid a) := Lib.hid (by rw [hs.out]; exact sar_lt _ hW0 hXl.out _)
    have hsl : Hid (s < 18446744073709551616) := Lib.hid (lt_pow hsW.out hW)
    clear hsW
    (repeat (first | (with_reducible first | refine xA ?_ | refine xB ?_ | refine xC ?_ | refine xD ?_ | refine xH ?_ | refine xI rfl ?_ | refine xE ?_ | refine xF ?_ | refine xG ?_) | go_skip | go_guarded | ((with_reducible refine wl_id ?_); refine wl_loadL HM 0 _ rfl rfl _ rfl rfl ?_; simp only [Act.put, qz4, qz5, qz6]) | ((with_reducible refine wl_id ?_); refine wl_loadL HM 1 _ rfl rfl _ rfl rfl ?_; simp only [Act.put, qz4, qz5, qz6]) | (go_at_call 102; (with_reducible refine (eqv (by assumption) (moved_18 _ _ _ _ hW0 hW (by assumption) (by assumption))).mono ?_); rintro e w1 ⟨rfl, hb⟩; (replace HM := HM.below hb; replace HN := HN.below hb; replace HB := HB.trans (hb.mono HB.size); clear hb)) | (go_at_call 97; (with_reducible refine (num_any _ _ (by assumption)).mono ?_); rintro e w1 ⟨rfl, hb⟩; (replace HM := HM.below hb; replace HN := HN.below hb; replace HB := HB.trans (hb.mono HB.size); clear hb)) | go_values | go_skip | go_guarded | go_step | go_upon | go_back | ((with_reducible show Oper.upon _ _ _ _ _ _); go_simp) | (dsimp only)))
    go_ret
    exact ⟨ret_int (by rw [hAP.out, ← o_18 hW0 hXl.out hs.out]), HB⟩
  have f18 : (op == 18) = false := by simpa using e18
  clear e18
  by_cases e19 : op = 19
  · subst e19
    have hX64 : Hid (X < 18446744073709551616) := Lib.hid (lt_pow hXl.out hW)
    have hY64 : Hid (Y < 18446744073709551616) := Lib.hid (lt_pow hYl.out hW)
    obtain ⟨s, hs⟩ : ∃ s, Hid (s = (decide (X = Y)).toNat) := ⟨_, Lib.hid rfl⟩
    have hs1 := Bool.toNat_le (decide (X = Y))
    have hsl : Hid (s < 18446744073709551616) := Lib.hid (by rw [hs.out]; omega)
    clear hs1
    (repeat (first | (with_reducible first | refine xA ?_ | refine xB ?_ | refine xC ?_ | refine xD ?_ | refine xH ?_ | refine xI rfl ?_ | refine xE ?_ | refine xF ?_ | refine xG ?_) | go_skip | go_guarded | ((with_reducible refine wl_id ?_); refine wl_loadL HM 0 _ rfl rfl _ rfl rfl ?_; simp only [Act.put, qz4, qz5, qz6]) | ((with_reducible refine wl_id ?_); refine wl_loadL HM 1 _ rfl rfl _ rfl rfl ?_; simp only [Act.put, qz4, qz5, qz6]) | ((with_reducible refine wl_id ?_); refine wl_eq29 rfl _ _ _ rfl X Y rfl rfl hX64 hY64 ?_; simp only [Act.put, qz4, qz5, qz6]) | (go_at_call 103; (with_reducible refine (eqv (by assumption) (truth_any _ _)).mono ?_); rintro e w1 ⟨rfl, hb⟩; (replace HM := HM.below hb; replace HN := HN.below hb; replace HB := HB.trans (hb.mono HB.size); clear hb)) | (go_at_call 97; (with_reducible refine (num_any _ _ (by assumption)).mono ?_); rintro e w1 ⟨rfl, hb⟩; (replace HM := HM.below hb; replace HN := HN.below hb; replace HB := HB.trans (hb.mono HB.size); clear hb)) | go_values | go_skip | go_guarded | go_step | go_upon | go_back | ((with_reducible show Oper.upon _ _ _ _ _ _); go_simp) | (dsimp only)))
    go_ret
    exact ⟨ret_int (by rw [hAP.out, ← o_19 hs.out]), HB⟩
  have f19 : (op == 19) = false := by simpa using e19
  clear e19
  by_cases e20 : op = 20
  · subst e20
    obtain ⟨s, hs⟩ : ∃ s, Hid (s = (decide (X < Y)).toNat) := ⟨_, Lib.hid rfl⟩
    have hs1 := Bool.toNat_le (decide (X < Y))
    have hsl : Hid (s < 18446744073709551616) := Lib.hid (by rw [hs.out]; omega)
    clear hs1
    (repeat (first | (with_reducible first | refine xA ?_ | refine xB ?_ | refine xC ?_ | refine xD ?_ | refine xH ?_ | refine xI rfl ?_ | refine xE ?_ | refine xF ?_ | refine xG ?_) | go_skip | go_guarded | ((with_reducible refine wl_id ?_); refine wl_loadL HM 0 _ rfl rfl _ rfl rfl ?_; simp only [Act.put, qz4, qz5, qz6]) | ((with_reducible refine wl_id ?_); refine wl_loadL HM 1 _ rfl rfl _ rfl rfl ?_; simp only [Act.put, qz4, qz5, qz6]) | (go_at_call 104; (with_reducible refine (less_ref _ _ _ _ hW (by assumption) (by assumption)).mono ?_); rintro e w1 ⟨rfl, hb⟩; (replace HM := HM.below hb; replace HN := HN.below hb; replace HB := HB.trans (hb.mono HB.size); clear hb)) | (go_at_call 103; (with_reducible refine (eqv (by assumption) (truth_any _ _)).mono ?_); rintro e w1 ⟨rfl, hb⟩; (replace HM := HM.below hb; replace HN := HN.below hb; replace HB := HB.trans (hb.mono HB.size); clear hb)) | (go_at_call 97; (with_reducible refine (num_any _ _ (by assumption)).mono ?_); rintro e w1 ⟨rfl, hb⟩; (replace HM := HM.below hb; replace HN := HN.below hb; replace HB := HB.trans (hb.mono HB.size); clear hb)) | go_values | go_skip | go_guarded | go_step | go_upon | go_back | ((with_reducible show Oper.upon _ _ _ _ _ _); go_simp) | (dsimp only)))
    go_ret
    exact ⟨ret_int (by rw [hAP.out, ← o_20 hs.out]), HB⟩
  have f20 : (op == 20) = false := by simpa using e20
  clear e20
  by_cases e21 : op = 21
  · subst e21
    have hidx : (((wid a : Nat) : Int) - 1).toNat = wid a - 1 := by omega
    have c0 : (0 : Int) ≤ ((wid a : Nat) : Int) - 1 := by omega
    have c1 : ((wid a : Nat) : Int) - 1 < 64 := by omega
    obtain ⟨b, hb'⟩ : ∃ b, Hid (X.testBit (wid a - 1) = b) := ⟨_, Lib.hid rfl⟩
    obtain ⟨c, hc'⟩ : ∃ c, Hid (Y.testBit (wid a - 1) = c) := ⟨_, Lib.hid rfl⟩
    by_cases e : b = c
    · subst e
      have ne : (b != b) = false := by simp
      obtain ⟨s, hs⟩ : ∃ s, Hid (s = (decide (X < Y)).toNat) := ⟨_, Lib.hid rfl⟩
      have hs1 := Bool.toNat_le (decide (X < Y))
      have hsl : Hid (s < 18446744073709551616) := Lib.hid (by rw [hs.out]; omega)
      clear hs1
      (repeat (first | (with_reducible first | refine xA ?_ | refine xB ?_ | refine xC ?_ | refine xD ?_ | refine xH ?_ | refine xI rfl ?_ | refine xE ?_ | refine xF ?_ | refine xG ?_) | go_values | go_skip | go_guarded | go_step | go_upon | go_back | ((with_reducible show Oper.upon _ _ _ _ _ _); go_simp) | (dsimp only)))
      refine wp_region_cls (by kernel_rfl) (by kernel_rfl) ?_
      (repeat (first | go_big_quiet_skip | (go_big_quiet_want; first | (refine quiet_loadL HM 0 _ rfl _ rfl rfl ?_; simp only [Act.put, qz4, qz5, qz6]; go_big_quiet_on) | (refine quiet_loadL HM 1 _ rfl _ rfl rfl ?_; simp only [Act.put, qz4, qz5, qz6]; go_big_quiet_on) | (refine quiet_bitX HM 0 _ rfl (wid a - 1) (by omega) _ hb' _ rfl rfl ?_; simp only [Act.put, qz4, qz5, qz6]; go_big_quiet_on) | (refine quiet_bitX HM 1 _ rfl (wid a - 1) (by omega) _ hc' _ rfl rfl ?_; simp only [Act.put, qz4, qz5, qz6]; go_big_quiet_on) | (go_big_quiet_op; first | go_big_quiet_on | (refine Exists.intro _ (And.intro (fun _ _ => rfl) ?_); go_big_quiet_on) | go_big_quiet_call (((intro hC; replace hC : Below _ _ _ := hC); first | (go_at_call 98; (with_reducible refine (eqv (by assumption) (not_any _ _ _ hW)).mono ?_); (rintro e w2 ⟨rfl, hb⟩; exact ⟨rfl, hC.trans (hb.mono hC.size)⟩)) | (go_at_call 99; (with_reducible refine (eqv (by assumption) (add_ref _ _ _ _ _ hW (by assumption) (by assumption))).mono ?_); (rintro e w2 ⟨rfl, hb⟩; exact ⟨rfl, hC.trans (hb.mono hC.size)⟩)) | (go_at_call 97; (with_reducible refine (num_any _ _ (by assumption)).mono ?_); (rintro e w2 ⟨rfl, hb⟩; exact ⟨rfl, hC.trans (hb.mono hC.size)⟩))))))))
      refine wpQuiet_nil ?_
      intro w8 hb
      replace hb : Below _ _ _ := hb
      (replace HM := HM.below hb; replace HN := HN.below hb; replace HB := HB.trans (hb.mono HB.size); clear hb)
      (repeat (first | (with_reducible first | refine xA ?_ | refine xB ?_ | refine xC ?_ | refine xD ?_ | refine xH ?_ | refine xI rfl ?_ | refine xE ?_ | refine xF ?_ | refine xG ?_) | go_skip | go_guarded | ((with_reducible refine wl_id ?_); refine wl_loadL HM 0 _ rfl rfl _ rfl rfl ?_; simp only [Act.put, qz4, qz5, qz6]) | ((with_reducible refine wl_id ?_); refine wl_loadL HM 1 _ rfl rfl _ rfl rfl ?_; simp only [Act.put, qz4, qz5, qz6]) | (go_at_call 104; (with_reducible refine (less_ref _ _ _ _ hW (by assumption) (by assumption)).mono ?_); rintro e w1 ⟨rfl, hb⟩; (replace HM := HM.below hb; replace HN := HN.below hb; replace HB := HB.trans (hb.mono HB.size); clear hb)) | (go_at_call 103; (with_reducible refine (eqv (by assumption) (truth_any _ _)).mono ?_); rintro e w1 ⟨rfl, hb⟩; (replace HM := HM.below hb; replace HN := HN.below hb; replace HB := HB.trans (hb.mono HB.size); clear hb)) | (go_at_call 97; (with_reducible refine (num_any _ _ (by assumption)).mono ?_); rintro e w1 ⟨rfl, hb⟩; (replace HM := HM.below hb; replace HN := HN.below hb; replace HB := HB.trans (hb.mono HB.size); clear hb)) | go_values | go_skip | go_guarded | go_step | go_upon | go_back | ((with_reducible show Oper.upon _ _ _ _ _ _); go_simp) | (dsimp only)))
      go_ret
      exact ⟨ret_int (by rw [hAP.out, ← o_21eq hW0 hXl.out hYl.out hb'.out hc'.out hs.out]), HB⟩
    · have hcb : c = !b := by revert e; cases b <;> cases c <;> simp
      subst hcb
      have ne : (b != !b) = true := by cases b <;> rfl
      obtain ⟨s, hs⟩ : ∃ s, Hid (s = b.toNat) := ⟨_, Lib.hid rfl⟩
      have hs1 := Bool.toNat_le b
      have hsl : Hid (s < 18446744073709551616) := Lib.hid (by rw [hs.out]; omega)
      clear hs1
      (repeat (first | (with_reducible first | refine xA ?_ | refine xB ?_ | refine xC ?_ | refine xD ?_ | refine xH ?_ | refine xI rfl ?_ | refine xE ?_ | refine xF ?_ | refine xG ?_) | go_values | go_skip | go_guarded | go_step | go_upon | go_back | ((with_reducible show Oper.upon _ _ _ _ _ _); go_simp) | (dsimp only)))
      refine wp_region_cls (by kernel_rfl) (by kernel_rfl) ?_
      (repeat (first | go_big_quiet_skip | (go_big_quiet_want; first | (refine quiet_loadL HM 0 _ rfl _ rfl rfl ?_; simp only [Act.put, qz4, qz5, qz6]; go_big_quiet_on) | (refine quiet_loadL HM 1 _ rfl _ rfl rfl ?_; simp only [Act.put, qz4, qz5, qz6]; go_big_quiet_on) | (refine quiet_bitX HM 0 _ rfl (wid a - 1) (by omega) _ hb' _ rfl rfl ?_; simp only [Act.put, qz4, qz5, qz6]; go_big_quiet_on) | (refine quiet_bitX HM 1 _ rfl (wid a - 1) (by omega) _ hc' _ rfl rfl ?_; simp only [Act.put, qz4, qz5, qz6]; go_big_quiet_on) | (go_big_quiet_op; first | go_big_quiet_on | (refine Exists.intro _ (And.intro (fun _ _ => rfl) ?_); go_big_quiet_on) | go_big_quiet_call (((intro hC; replace hC : Below _ _ _ := hC); first | (go_at_call 98; (with_reducible refine (eqv (by assumption) (not_any _ _ _ hW)).mono ?_); (rintro e w2 ⟨rfl, hb⟩; exact ⟨rfl, hC.trans (hb.mono hC.size)⟩)) | (go_at_call 99; (with_reducible refine (eqv (by assumption) (add_ref _ _ _ _ _ hW (by assumption) (by assumption))).mono ?_); (rintro e w2 ⟨rfl, hb⟩; exact ⟨rfl, hC.trans (hb.mono hC.size)⟩)) | (go_at_call 97; (with_reducible refine (num_any _ _ (by assumption)).mono ?_); (rintro e w2 ⟨rfl, hb⟩; exact ⟨rfl, hC.trans (hb.mono hC.size)⟩))))))))
      refine wpQuiet_nil ?_
      intro w8 hb
      replace hb : Below _ _ _ := hb
      (replace HM := HM.below hb; replace HN := HN.below hb; replace HB := HB.trans (hb.mono HB.size); clear hb)
      have hbit := bitL HM 0 X rfl (wid a - 1) (by omega)
      rw [hb'.out] at hbit
      simp only [Nat.add_zero] at hbit
      (repeat (first | (with_reducible first | refine xA ?_ | refine xB ?_ | refine xC ?_ | refine xD ?_ | refine xH ?_ | refine xI rfl ?_ | refine xE ?_ | refine xF ?_ | refine xG ?_) | go_skip | go_guarded | (go_at_call 103; (with_reducible refine (eqv (by assumption) (truth_any _ _)).mono ?_); rintro e w1 ⟨rfl, hb⟩; (replace HM := HM.below hb; replace HN := HN.below hb; replace HB := HB.trans (hb.mono HB.size); clear hb)) | (go_at_call 97; (with_reducible refine (num_any _ _ (by assumption)).mono ?_); rintro e w1 ⟨rfl, hb⟩; (replace HM := HM.below hb; replace HN := HN.below hb; replace HB := HB.trans (hb.mono HB.size); clear hb)) | go_values | go_skip | go_guarded | go_step | go_upon | go_back | ((with_reducible show Oper.upon _ _ _ _ _ _); go_simp) | (dsimp only)))
      go_ret
      exact ⟨ret_int (by rw [hAP.out, ← o_21ne hW0 hXl.out hYl.out hb'.out hc'.out hs.out]), HB⟩
  have f21 : (op == 21) = false := by simpa using e21
  clear e21
  (repeat (first | (with_reducible first | refine xA ?_ | refine xB ?_ | refine xC ?_ | refine xD ?_ | refine xH ?_ | refine xI rfl ?_ | refine xE ?_ | refine xF ?_ | refine xG ?_) | go_values | go_skip | go_guarded | go_step | go_upon | go_back | ((with_reducible show Oper.upon _ _ _ _ _ _); go_simp) | (dsimp only)))
  go_ret
  exact ⟨ret_int (by rw [hAP.out, o_none _ _ _ _ (by assumption) f8 f9 f10 f11 f12 f13 f14 f15 f16 f17 f18 f19 f20 f21]), HB⟩
end Go.Proofs.YtmaogkgjiplckaaGreat
namespace Go.Proofs.YtmaogkgjiplckaaGreat
open Go.RowKit
def resG (op : Int) (g : G) (n : Nat) (xs ys : List Int) : G × List Int := if op = 5 then (g, notL xs) else applyG op g n xs ys
def okOp (op : Int) : Prop := op = 5 ∨ (8 ≤ op ∧ op ≤ 21)
theorem resG_ok {op : Int} {g : G} {fr : List Int} {s : Nat → Bool} {n : Nat} {xs ys : List Int} (hI : GI g fr s) (hx : ∀ x ∈ xs, isL g.n x) (hy : ∀ y ∈ ys, isL g.n y) (hxn : xs.length = n) (hyn : ys.length = n) (hn1 : 1 ≤ n) (hn : n ≤ 64) (ho : okOp op) : VAns g fr s (if 19 ≤ op then 1 else n) (resG op g n xs ys) (opI op n (num s xs) (num s ys)) := by
  rcases ho with rfl | ⟨h8, h21⟩
  · have h := num_not (s := s) hx
    rw [hxn] at h
    have hX := num_lt s xs
    rw [hxn] at hX
    exact ⟨s, hI, Step.refl _ _, by show g.n ≤ _; omega, notL_isL hx, by show (notL xs).length = _; rw [notL_len, hxn]; rfl, o_5 hX (by show num s (notL xs) = _; rw [Nat.mod_eq_of_lt hX]; omega)⟩
  · have e : resG op g n xs ys = applyG op g n xs ys := by unfold resG; rw [if_neg (by omega)]
    rw [e]
    exact applyG_ok hI hx hy hxn hyn hn1 hn h8 h21
theorem Apply_res {X : Nat → Prop} {base gb : Nat} {g : G} {fr : List Int} {s : Nat → Bool} (op : Int) (w : World) (hG : GR X base w gb g) (hba : base ≤ w.heap.size) (vx vy : Value) (xs ys : List Int) (n : Nat) (hX : SlX X w vx xs) (hY : SlX X w vy ys) (hxn : xs.length = n) (hyn : ys.length = n) (hn1 : 1 ≤ n) (hn2 : n ≤ 64) (hn : g.n + 40000 ≤ 1048576) (hx : ∀ x ∈ xs, isL g.n x) (hy : ∀ y ∈ ys, isL g.n y) (hI : GI g fr s) (ho : okOp op) :
    Calls Tryz.prog 63 #[.pointer (some ⟨gb, 0, none⟩), .int .i64 op, vx, vy] w (WordY X base gb w (resG op g n xs ys)) := by
  rcases ho with rfl | ⟨h8, h21⟩
  · exact Apply_not w hG vx vy xs ys n hX hY hxn hn1 hn2 hx
  · have e : resG op g n xs ys = applyG op g n xs ys := by unfold resG; rw [if_neg (by omega)]
    rw [e]
    exact Apply_op op w hG hba vx vy xs ys n hX hY hxn hyn hn1 hn2 hn hx hy hI h8 h21
theorem slx_shape {X : Nat → Prop} {w : World} {v : Value} {l : List Int} {m : Nat} (h : SlX X w v l) (hm : l.length = m) : ∃ a c, v = .slice a m c := by
  obtain ⟨a, c, e⟩ := h.shape
  exact ⟨a, c, by rw [e, hm]⟩
end Go.Proofs.YtmaogkgjiplckaaGreat
namespace Go.Proofs.YtmaogkgjiplckaaGreat
open Go.RowKit
theorem below_drewN {B : Nat} {w w' : World} (h : Below B w w') (n : Nat) : Below B w (w'.drewN n) :=
  h.trans ⟨rfl, rfl, rfl, Nat.le_refl _, fun _ _ => rfl⟩
structure Nd where
  op : Int
  w : Int
  n : Int
  k0 : Int
  k1 : Int
  k2 : Int
deriving DecidableEq
def Nd.cells (d : Nd) : List Value := [.int .i64 d.op, .int .i64 d.w, .int .u64 d.n, .int .i64 d.k0, .int .i64 d.k1, .int .i64 d.k2]
def kidsI (op : Int) : Int := if op < 5 ∨ 24 < op then 0 else if op ≤ 7 then 1 else if op ≤ 21 ∨ op = 23 then 2 else 3
set_option maxHeartbeats 400000 in
theorem kids_any (op : Int) (w : World) :
    Calls Tryz.prog 73 #[.int .i64 op] w fun e w' => e = .returned (.int .i64 (kidsI op)) ∧ w = w' := by
  go_enter Tryz.func73, Tryz.ntmps73
  (repeat' (first | (with_reducible first | refine xA ?_ | refine xB ?_ | refine xC ?_ | refine xD ?_ | refine xH ?_ | refine xI rfl ?_ | refine xE ?_ | refine xF ?_ | refine xG ?_) | go_values | go_skip | go_guarded | go_step | go_upon | go_back | ((with_reducible show Oper.upon _ _ _ _ _ _); go_simp) | (dsimp only)))
  all_goals
    go_ret
    exact ⟨ret_int (by unfold kidsI; first | (simp_all; done) | (simp_all; omega)), rfl⟩
def leafB (op wd : Int) : Bool := if op = 0 then wd == 1 || wd == 8 || wd == 64 else if op = 1 then wd == 8 else if op = 2 then wd == 64 else wd == 0
def wideB (op wd a b c : Int) : Bool :=
  if op = 5 then a != 0 && wd == a
  else if op = 6 then wd == 64 && (a == 1 || a == 8)
  else if op = 7 then wd == 8 && a == 64
  else if op = 19 ∨ op = 20 ∨ op = 21 then wd == 1 && a != 0 && a == b
  else if op = 22 then a == 1 && b != 0 && b == c && wd == b
  else if op = 23 then wd == 8 && a == 0 && b == 64
  else if op = 24 then wd == 0 && a == 0 && b == 64 && c == 8
  else if kidsI op = 0 then leafB op wd
  else a != 0 && a == b && wd == a
set_option maxHeartbeats 400000 in
theorem leaf_any (op wd n k0 k1 k2 : Int) (w : World) :
    Calls Tryz.prog 74 #[.agg #[.int .i64 op, .int .i64 wd, .int .u64 n, .int .i64 k0, .int .i64 k1, .int .i64 k2]] w fun e w' => e = .returned (.bool (leafB op wd)) ∧ Below w.heap.size w w' := by
  go_enter Tryz.func74, Tryz.ntmps74
  (repeat' (first | (with_reducible first | refine xA ?_ | refine xB ?_ | refine xC ?_ | refine xD ?_ | refine xH ?_ | refine xI rfl ?_ | refine xE ?_ | refine xF ?_ | refine xG ?_) | go_values | go_skip | go_guarded | go_step | go_upon | go_back | ((with_reducible show Oper.upon _ _ _ _ _ _); go_simp) | (dsimp only)))
  all_goals
    go_ret
    exact ⟨ret_bool (by unfold leafB; simp_all), by (repeat (first | with_reducible exact Below.refl _ _ | assumption | with_reducible refine below_drewN ?_ _ | with_reducible refine Below.drew ?_ | with_reducible refine Below.setRow ?_ ?_ _ | with_reducible refine Below.alloc ?_ ?_ _ | with_reducible refine Below.setCell ?_ ?_ _ | with_reducible exact Nat.le_refl _ | (focus (simp; done)) | (focus (simp; omega)) | omega))⟩
set_option maxHeartbeats 1000000 in
theorem wide_any (op wd n k0 k1 k2 a b c : Int) (w : World) :
    Calls Tryz.prog 59 #[.agg #[.int .i64 op, .int .i64 wd, .int .u64 n, .int .i64 k0, .int .i64 k1, .int .i64 k2], .agg #[.int .i64 a, .int .i64 b, .int .i64 c]] w fun e w' => e = .returned (.bool (wideB op wd a b c)) ∧ Below w.heap.size w w' := by
  by_cases h19 : op = 19
  · subst h19
    go_enter Tryz.func59, Tryz.ntmps59
    (repeat' (first | (with_reducible first | refine xA ?_ | refine xB ?_ | refine xC ?_ | refine xD ?_ | refine xH ?_ | refine xI rfl ?_ | refine xE ?_ | refine xF ?_ | refine xG ?_) | go_values | go_skip | go_guarded | go_step | go_upon | go_back | ((with_reducible show Oper.upon _ _ _ _ _ _); go_simp) | (dsimp only)))
    all_goals
      go_ret
      exact ⟨ret_bool (by unfold wideB; simp_all), by (repeat (first | with_reducible exact Below.refl _ _ | assumption | with_reducible refine below_drewN ?_ _ | with_reducible refine Below.drew ?_ | with_reducible refine Below.setRow ?_ ?_ _ | with_reducible refine Below.alloc ?_ ?_ _ | with_reducible refine Below.setCell ?_ ?_ _ | with_reducible exact Nat.le_refl _ | (focus (simp; done)) | (focus (simp; omega)) | omega))⟩
  by_cases h20 : op = 20
  · subst h20
    go_enter Tryz.func59, Tryz.ntmps59
    (repeat' (first | (with_reducible first | refine xA ?_ | refine xB ?_ | refine xC ?_ | refine xD ?_ | refine xH ?_ | refine xI rfl ?_ | refine xE ?_ | refine xF ?_ | refine xG ?_) | go_values | go_skip | go_guarded | go_step | go_upon | go_back | ((with_reducible show Oper.upon _ _ _ _ _ _); go_simp) | (dsimp only)))
    all_goals
      go_ret
      exact ⟨ret_bool (by unfold wideB; simp_all), by (repeat (first | with_reducible exact Below.refl _ _ | assumption | with_reducible refine below_drewN ?_ _ | with_reducible refine Below.drew ?_ | with_reducible refine Below.setRow ?_ ?_ _ | with_reducible refine Below.alloc ?_ ?_ _ | with_reducible refine Below.setCell ?_ ?_ _ | with_reducible exact Nat.le_refl _ | (focus (simp; done)) | (focus (simp; omega)) | omega))⟩
  by_cases h21 : op = 21
  · subst h21
    go_enter Tryz.func59, Tryz.ntmps59
    (repeat' (first | (with_reducible first | refine xA ?_ | refine xB ?_ | refine xC ?_ | refine xD ?_ | refine xH ?_ | refine xI rfl ?_ | refine xE ?_ | refine xF ?_ | refine xG ?_) | go_values | go_skip | go_guarded | go_step | go_upon | go_back | ((with_reducible show Oper.upon _ _ _ _ _ _); go_simp) | (dsimp only)))
    all_goals
      go_ret
      exact ⟨ret_bool (by unfold wideB; simp_all), by (repeat (first | with_reducible exact Below.refl _ _ | assumption | with_reducible refine below_drewN ?_ _ | with_reducible refine Below.drew ?_ | with_reducible refine Below.setRow ?_ ?_ _ | with_reducible refine Below.alloc ?_ ?_ _ | with_reducible refine Below.setCell ?_ ?_ _ | with_reducible exact Nat.le_refl _ | (focus (simp; done)) | (focus (simp; omega)) | omega))⟩
  have f19 : (op == 19) = false := by simpa using h19
  have f20 : (op == 20) = false := by simpa using h20
  have f21 : (op == 21) = false := by simpa using h21
  go_enter Tryz.func59, Tryz.ntmps59
  (repeat' (first | (with_reducible first | refine xA ?_ | refine xB ?_ | refine xC ?_ | refine xD ?_ | refine xH ?_ | refine xI rfl ?_ | refine xE ?_ | refine xF ?_ | refine xG ?_) | go_skip | go_guarded | (go_at_call 73; (with_reducible refine (kids_any _ _).mono ?_); rintro e w1 ⟨rfl, rfl⟩) | (go_at_call 74; (with_reducible refine (leaf_any _ _ _ _ _ _ _).mono ?_); rintro e w1 ⟨rfl, hb⟩) | go_values | go_skip | go_guarded | go_step | go_upon | go_back | ((with_reducible show Oper.upon _ _ _ _ _ _); go_simp) | (dsimp only)))
  all_goals
    go_ret
    exact ⟨ret_bool (by unfold wideB; simp_all), by first | ((repeat (first | with_reducible exact Below.refl _ _ | assumption | with_reducible refine below_drewN ?_ _ | with_reducible refine Below.drew ?_ | with_reducible refine Below.setRow ?_ ?_ _ | with_reducible refine Below.alloc ?_ ?_ _ | with_reducible refine Below.setCell ?_ ?_ _ | with_reducible exact Nat.le_refl _ | (focus (simp; done)) | (focus (simp; omega)) | omega)); done) | exact Below.trans (by (repeat (first | with_reducible exact Below.refl _ _ | assumption | with_reducible refine below_drewN ?_ _ | with_reducible refine Below.drew ?_ | with_reducible refine Below.setRow ?_ ?_ _ | with_reducible refine Below.alloc ?_ ?_ _ | with_reducible refine Below.setCell ?_ ?_ _ | with_reducible exact Nat.le_refl _ | (focus (simp; done)) | (focus (simp; omega)) | omega))) (hb.mono (by simp; omega))⟩
def numB (op wd n : Int) : Bool := if op = 0 then (if wd = 1 then n / 2 == 0 else if wd = 8 then n / 256 == 0 else true) else if op = 1 then decide (n < 16) else if op = 2 then decide (n < 8) else n == 0
def mostI (op wd : Int) : Int := if op = 0 then (if wd = 1 then 1 else if wd = 8 then 255 else 18446744073709551615) else if op = 1 then 15 else if op = 2 then 7 else 0
set_option maxHeartbeats 400000 in
theorem number_any (op wd n k0 k1 k2 : Int) (w : World) (hn : 0 ≤ n) (h : op = 0 → wd = 1 ∨ wd = 8 ∨ wd = 64) :
    Calls Tryz.prog 60 #[.agg #[.int .i64 op, .int .i64 wd, .int .u64 n, .int .i64 k0, .int .i64 k1, .int .i64 k2]] w fun e w' => e = .returned (.bool (numB op wd n)) ∧ Below w.heap.size w w' := by
  by_cases h0 : op = 0
  · subst h0
    rcases h rfl with rfl | rfl | rfl
    all_goals
      clear h
      go_enter Tryz.func60, Tryz.ntmps60
      (repeat' (first | (with_reducible first | refine xA ?_ | refine xB ?_ | refine xC ?_ | refine xD ?_ | refine xH ?_ | refine xI rfl ?_ | refine xE ?_ | refine xF ?_ | refine xG ?_) | go_values | go_skip | go_guarded | go_step | go_upon | go_back | ((with_reducible show Oper.upon _ _ _ _ _ _); go_simp) | (dsimp only)))
      all_goals
        go_ret
        exact ⟨ret_bool (by unfold numB; first | rfl | simp_all), by (repeat (first | with_reducible exact Below.refl _ _ | assumption | with_reducible refine below_drewN ?_ _ | with_reducible refine Below.drew ?_ | with_reducible refine Below.setRow ?_ ?_ _ | with_reducible refine Below.alloc ?_ ?_ _ | with_reducible refine Below.setCell ?_ ?_ _ | with_reducible exact Nat.le_refl _ | (focus (simp; done)) | (focus (simp; omega)) | omega))⟩
  have f0 : (op == 0) = false := by simpa using h0
  clear h
  go_enter Tryz.func60, Tryz.ntmps60
  (repeat' (first | (with_reducible first | refine xA ?_ | refine xB ?_ | refine xC ?_ | refine xD ?_ | refine xH ?_ | refine xI rfl ?_ | refine xE ?_ | refine xF ?_ | refine xG ?_) | go_values | go_skip | go_guarded | go_step | go_upon | go_back | ((with_reducible show Oper.upon _ _ _ _ _ _); go_simp) | (dsimp only)))
  all_goals
    go_ret
    exact ⟨ret_bool (by unfold numB; simp_all), by (repeat (first | with_reducible exact Below.refl _ _ | assumption | with_reducible refine below_drewN ?_ _ | with_reducible refine Below.drew ?_ | with_reducible refine Below.setRow ?_ ?_ _ | with_reducible refine Below.alloc ?_ ?_ _ | with_reducible refine Below.setCell ?_ ?_ _ | with_reducible exact Nat.le_refl _ | (focus (simp; done)) | (focus (simp; omega)) | omega))⟩
def widI (op wd a b c : Int) : Int :=
  if op = 0 then (if wd = 1 ∨ wd = 8 ∨ wd = 64 then wd else -1)
  else if op = 1 then 8
  else if op = 2 then 64
  else if op = 3 ∨ op = 4 then 0
  else if op = 5 then (if a = 0 then -1 else a)
  else if op = 6 then (if a = 1 ∨ a = 8 then 64 else -1)
  else if op = 7 then (if a = 64 then 8 else -1)
  else if op = 19 ∨ op = 20 ∨ op = 21 then (if a ≠ 0 ∧ a = b then 1 else -1)
  else if op = 22 then (if a = 1 ∧ b ≠ 0 ∧ b = c then b else -1)
  else if op = 23 then (if a = 0 ∧ b = 64 then 8 else -1)
  else if op = 24 then (if a = 0 ∧ b = 64 ∧ c = 8 then 0 else -1)
  else (if a ≠ 0 ∧ a = b then a else -1)
end Go.Proofs.YtmaogkgjiplckaaGreat
namespace Go.Proofs.YtmaogkgjiplckaaGreat
open Go.RowKit
section
variable {α : Type}
def RowAt (s : Nat) (f : α → List Value) (w : World) (b o : Nat) (ls : List α) : Prop :=
  ∀ i d, ls[i]? = some d → ∀ j c, (f d)[j]? = some c → w.cell? ⟨b, o + (s * i + j), none⟩ = some c
theorem RowAt.below {s : Nat} {f : α → List Value} {w w' : World} {b o : Nat} {ls : List α} (h : RowAt s f w b o ls) (hb : Below w.heap.size w w') : RowAt s f w' b o ls :=
  fun i d hi j c hj => cell_keep hb (h i d hi j c hj)
theorem RowAt.take {s : Nat} {f : α → List Value} {w : World} {b o : Nat} {ls : List α} (h : RowAt s f w b o ls) (k : Nat) : RowAt s f w b o (ls.take k) :=
  fun i d hi j c hj => h i d (by
    rw [List.getElem?_take] at hi
    split at hi
    · exact hi
    · cases hi) j c hj
def SlIs (s : Nat) (f : α → List Value) (w : World) (v : Value) (ls : List α) : Prop :=
  ∃ ao cap, v = .slice ao ls.length cap ∧ ls.length ≤ cap ∧ (ao = none → cap = 0) ∧ (ls ≠ [] → ∃ b o, ao = some ⟨b, o, none⟩ ∧ RowAt s f w b o ls)
theorem SlIs.below {s : Nat} {f : α → List Value} {w w' : World} {v : Value} {ls : List α} (h : SlIs s f w v ls) (hb : Below w.heap.size w w') : SlIs s f w' v ls :=
  let ⟨ao, cap, h1, h2, h3, h4⟩ := h
  ⟨ao, cap, h1, h2, h3, fun hn => let ⟨b, o, e, hr⟩ := h4 hn; ⟨b, o, e, hr.below hb⟩⟩
end
theorem ld3 (w : World) (p : Addr) (n : Int) (h : w.cell? p = some (.int .i64 n)) : (Instr.loadAt 3 (.pointer (some p))).run Tryz.prog w = .ok (.int .i64 n) w := by go_simp
theorem ld49 (w : World) (b o : Nat) (d : Nd) (h : ∀ j c, d.cells[j]? = some c → w.cell? ⟨b, o + j, none⟩ = some c) : (Instr.loadAt 49 (.pointer (some ⟨b, o, none⟩))).run Tryz.prog w = .ok (.agg d.cells.toArray) w := by
  have h0 := h 0 _ rfl
  have h1 := h 1 _ rfl
  have h2 := h 2 _ rfl
  have h3 := h 3 _ rfl
  have h4 := h 4 _ rfl
  have h5 := h 5 _ rfl
  clear h
  simp only [Nat.add_zero] at h0
  unfold Nd.cells
  go_simp
def wAt (ls : List Nd) (k : Int) : Int := ((ls[k.toNat]?).map Nd.w).getD 0
section
variable {ops : Array Oper} {rest : List Oper} {o : Oper} {a : Act} {w : World} {Q : Exit → Act → World → Prop}
theorem wl_ldW {w0 : World} {b off : Nat} {ls : List Nd} (HR : RowAt 6 Nd.cells w0 b off ls) (hb : Below w0.heap.size w0 w) (K : Int) (h0 : 0 ≤ K) (h1 : K < ls.length) (hgd : o.guard = none) (x : Operand) (ho : o.op = .load 3 x)
    (hx : a.eval x = .pointer (some ⟨b, off + K.toNat * 6 + 1, none⟩)) (h : wpList Tryz.prog ops Q rest (a.put o.dst (.int .i64 (wAt ls K))) w) : wpList Tryz.prog ops Q (o :: rest) a w :=
  wpList_plain hgd fun _ hK => by
    have hlt : K.toNat < ls.length := by omega
    have hc := cell_keep hb (HR K.toNat _ (List.getElem?_eq_getElem hlt) 1 _ rfl)
    rw [Nat.mul_comm, ← Nat.add_assoc] at hc
    unfold Oper.wp execOp
    simp only [ho, hx, Sem.run_bind, ld3 w _ _ hc, Result.andThen_ok]
    have e : wAt ls K = ls[K.toNat].w := by unfold wAt; rw [List.getElem?_eq_getElem hlt]; rfl
    rw [← e]
    exact hK _ _ h
end
theorem kids_anyX (op h : Int) (w : World) (e : kidsI op = h) :
    Calls Tryz.prog 73 #[.int .i64 op] w fun e w' => e = .returned (.int .i64 h) ∧ w = w' := by
  rw [← e]; exact kids_any op w
end Go.Proofs.YtmaogkgjiplckaaGreat
namespace Go.Proofs.YtmaogkgjiplckaaGreat
open Go.RowKit
def kidW (has j K : Int) (ls : List Nd) : Option Int := if has ≤ j then (if K = 0 then some 0 else none) else if K < 0 ∨ ls.length ≤ K then none else some (wAt ls K)
def kidsR (op k0 k1 k2 : Int) (ls : List Nd) : Option (Int × Int × Int) :=
  match kidW (kidsI op) 0 k0 ls, kidW (kidsI op) 1 k1 ls, kidW (kidsI op) 2 k2 ls with
  | some a, some b, some c => some (a, b, c)
  | _, _, _ => none
theorem ld47 (w : World) (b : Nat) (x y z : Int) (h0 : w.cell? ⟨b, 0, none⟩ = some (.int .i64 x)) (h1 : w.cell? ⟨b, 1, none⟩ = some (.int .i64 y)) (h2 : w.cell? ⟨b, 2, none⟩ = some (.int .i64 z)) :
    (loadVar 47 ⟨b, 0, none⟩).run Tryz.prog w = .ok (.agg #[.int .i64 x, .int .i64 y, .int .i64 z]) w := by go_simp
def ci (o : Option Value) : Int := match o with | some (.int _ n) => n | _ => 0
theorem post55 {post : Ending → World → Prop} {a : Act} {w : World} (b : Nat) (ok : Bool) (hd : a.defers = []) (hp : a.tmps.getD 4 undef = .pointer (some ⟨b, 0, none⟩)) (hu : a.tmps.getD 5 undef = .bool ok)
    (h0 : w.cell? ⟨b, 0, none⟩ = some (.int .i64 (ci (w.cell? ⟨b, 0, none⟩)))) (h1 : w.cell? ⟨b, 1, none⟩ = some (.int .i64 (ci (w.cell? ⟨b, 1, none⟩)))) (h2 : w.cell? ⟨b, 2, none⟩ = some (.int .i64 (ci (w.cell? ⟨b, 2, none⟩))))
    (h : post (.returned (.tuple #[.agg #[.int .i64 (ci (w.cell? ⟨b, 0, none⟩)), .int .i64 (ci (w.cell? ⟨b, 1, none⟩)), .int .i64 (ci (w.cell? ⟨b, 2, none⟩))], .bool ok])) w) : bodyPost Tryz.prog Tryz.f58 post .ret a w := by
  refine bodyPost_ret ((results_cell_tmp rfl _ _ _).trans ?_) hd h
  rw [hp, hu]
  have e := ld47 w b _ _ _ h0 h1 h2
  simp only [asAddr, Sem.run_pure, Result.andThen_ok, e]
def Kids55 (op k0 k1 k2 : Int) (ls : List Nd) (e : Ending) : Prop :=
  ∃ x y z ok, e = .returned (.tuple #[.agg #[.int .i64 x, .int .i64 y, .int .i64 z], .bool ok]) ∧ kidsR op k0 k1 k2 ls = if ok then some (x, y, z) else none
set_option maxHeartbeats 1000000 in
theorem kids55_0 (op wd n k0 k1 k2 : Int) (b off cap : Nat) (ls : List Nd) (w : World) (hk : kidsI op = 0) (HR : RowAt 6 Nd.cells w b off ls) :
    Calls Tryz.prog 58 #[.agg #[.int .i64 op, .int .i64 wd, .int .u64 n, .int .i64 k0, .int .i64 k1, .int .i64 k2], .slice (some ⟨b, off, none⟩) ls.length cap] w fun e w' =>
      Kids55 op k0 k1 k2 ls e ∧ Below w.heap.size w w' := by
  go_enter Tryz.func58, Tryz.ntmps58
  (repeat' (first | (with_reducible first | refine xA ?_ | refine xB ?_ | refine xC ?_ | refine xD ?_ | refine xH ?_ | refine xI rfl ?_ | refine xE ?_ | refine xF ?_ | refine xG ?_) | go_skip | go_guarded | ((with_reducible refine wl_id ?_); refine wl_ldW HR (by (repeat (first | with_reducible exact Below.refl _ _ | assumption | with_reducible refine below_drewN ?_ _ | with_reducible refine Below.drew ?_ | with_reducible refine Below.setRow ?_ ?_ _ | with_reducible refine Below.alloc ?_ ?_ _ | with_reducible refine Below.setCell ?_ ?_ _ | with_reducible exact Nat.le_refl _ | (focus (simp; done)) | (focus (simp; omega)) | omega))) _ (by omega) (by omega) rfl _ rfl rfl ?_; simp only [Act.put, qz4, qz5, qz6]) | (go_at_call 73; (with_reducible refine (kids_anyX _ 0 _ hk).mono ?_); rintro e w1 ⟨rfl, rfl⟩) | (with_reducible refine wp_loop_rounds 4 ?_) | rw [rounds_succ] | go_values | go_skip | go_guarded | go_step | go_upon | go_back | ((with_reducible show Oper.upon _ _ _ _ _ _); go_simp) | (dsimp only)))
  all_goals
    refine post55 (w.heap.size + 1) _ rfl rfl rfl ?_ ?_ ?_ ⟨⟨_, _, _, _, rfl, ?_⟩, ?_⟩
    · simp [ci, go_sem]
    · simp [ci, go_sem]
    · simp [ci, go_sem]
    · simp_all [ci, go_sem, kidsR, kidW] <;> (repeat rw [if_neg (by omega)])
    · (repeat (first | with_reducible exact Below.refl _ _ | assumption | with_reducible refine below_drewN ?_ _ | with_reducible refine Below.drew ?_ | with_reducible refine Below.setRow ?_ ?_ _ | with_reducible refine Below.alloc ?_ ?_ _ | with_reducible refine Below.setCell ?_ ?_ _ | with_reducible exact Nat.le_refl _ | (focus (simp; done)) | (focus (simp; omega)) | omega))
set_option maxHeartbeats 1000000 in
theorem kids55n_0 (op wd n k0 k1 k2 : Int) (ao : Option Addr) (cap : Nat) (w : World) (hk : kidsI op = 0) :
    Calls Tryz.prog 58 #[.agg #[.int .i64 op, .int .i64 wd, .int .u64 n, .int .i64 k0, .int .i64 k1, .int .i64 k2], .slice ao 0 cap] w fun e w' =>
      Kids55 op k0 k1 k2 [] e ∧ Below w.heap.size w w' := by
  go_enter Tryz.func58, Tryz.ntmps58
  (repeat' (first | (with_reducible first | refine xA ?_ | refine xB ?_ | refine xC ?_ | refine xD ?_ | refine xH ?_ | refine xI rfl ?_ | refine xE ?_ | refine xF ?_ | refine xG ?_) | go_skip | go_guarded | (go_at_call 73; (with_reducible refine (kids_anyX _ 0 _ hk).mono ?_); rintro e w1 ⟨rfl, rfl⟩) | (with_reducible refine wp_loop_rounds 4 ?_) | rw [rounds_succ] | go_values | go_skip | go_guarded | go_step | go_upon | go_back | ((with_reducible show Oper.upon _ _ _ _ _ _); go_simp) | (dsimp only)))
  all_goals
    first | (exfalso; omega) | skip
    refine post55 (w.heap.size + 1) _ rfl rfl rfl ?_ ?_ ?_ ⟨⟨_, _, _, _, rfl, ?_⟩, ?_⟩
    · simp [ci, go_sem]
    · simp [ci, go_sem]
    · simp [ci, go_sem]
    · simp_all [ci, go_sem, kidsR, kidW] <;> (repeat rw [if_neg (by omega)])
    · (repeat (first | with_reducible exact Below.refl _ _ | assumption | with_reducible refine below_drewN ?_ _ | with_reducible refine Below.drew ?_ | with_reducible refine Below.setRow ?_ ?_ _ | with_reducible refine Below.alloc ?_ ?_ _ | with_reducible refine Below.setCell ?_ ?_ _ | with_reducible exact Nat.le_refl _ | (focus (simp; done)) | (focus (simp; omega)) | omega))
set_option maxHeartbeats 1000000 in
theorem kids55_1 (op wd n k0 k1 k2 : Int) (b off cap : Nat) (ls : List Nd) (w : World) (hk : kidsI op = 1) (HR : RowAt 6 Nd.cells w b off ls) :
    Calls Tryz.prog 58 #[.agg #[.int .i64 op, .int .i64 wd, .int .u64 n, .int .i64 k0, .int .i64 k1, .int .i64 k2], .slice (some ⟨b, off, none⟩) ls.length cap] w fun e w' =>
      Kids55 op k0 k1 k2 ls e ∧ Below w.heap.size w w' := by
  go_enter Tryz.func58, Tryz.ntmps58
  (repeat' (first | (with_reducible first | refine xA ?_ | refine xB ?_ | refine xC ?_ | refine xD ?_ | refine xH ?_ | refine xI rfl ?_ | refine xE ?_ | refine xF ?_ | refine xG ?_) | go_skip | go_guarded | ((with_reducible refine wl_id ?_); refine wl_ldW HR (by (repeat (first | with_reducible exact Below.refl _ _ | assumption | with_reducible refine below_drewN ?_ _ | with_reducible refine Below.drew ?_ | with_reducible refine Below.setRow ?_ ?_ _ | with_reducible refine Below.alloc ?_ ?_ _ | with_reducible refine Below.setCell ?_ ?_ _ | with_reducible exact Nat.le_refl _ | (focus (simp; done)) | (focus (simp; omega)) | omega))) _ (by omega) (by omega) rfl _ rfl rfl ?_; simp only [Act.put, qz4, qz5, qz6]) | (go_at_call 73; (with_reducible refine (kids_anyX _ 1 _ hk).mono ?_); rintro e w1 ⟨rfl, rfl⟩) | (with_reducible refine wp_loop_rounds 4 ?_) | rw [rounds_succ] | go_values | go_skip | go_guarded | go_step | go_upon | go_back | ((with_reducible show Oper.upon _ _ _ _ _ _); go_simp) | (dsimp only)))
  all_goals
    refine post55 (w.heap.size + 1) _ rfl rfl rfl ?_ ?_ ?_ ⟨⟨_, _, _, _, rfl, ?_⟩, ?_⟩
    · simp [ci, go_sem]
    · simp [ci, go_sem]
    · simp [ci, go_sem]
    · simp_all [ci, go_sem, kidsR, kidW] <;> (repeat rw [if_neg (by omega)])
    · (repeat (first | with_reducible exact Below.refl _ _ | assumption | with_reducible refine below_drewN ?_ _ | with_reducible refine Below.drew ?_ | with_reducible refine Below.setRow ?_ ?_ _ | with_reducible refine Below.alloc ?_ ?_ _ | with_reducible refine Below.setCell ?_ ?_ _ | with_reducible exact Nat.le_refl _ | (focus (simp; done)) | (focus (simp; omega)) | omega))
set_option maxHeartbeats 1000000 in
theorem kids55n_1 (op wd n k0 k1 k2 : Int) (ao : Option Addr) (cap : Nat) (w : World) (hk : kidsI op = 1) :
    Calls Tryz.prog 58 #[.agg #[.int .i64 op, .int .i64 wd, .int .u64 n, .int .i64 k0, .int .i64 k1, .int .i64 k2], .slice ao 0 cap] w fun e w' =>
      Kids55 op k0 k1 k2 [] e ∧ Below w.heap.size w w' := by
  go_enter Tryz.func58, Tryz.ntmps58
  (repeat' (first | (with_reducible first | refine xA ?_ | refine xB ?_ | refine xC ?_ | refine xD ?_ | refine xH ?_ | refine xI rfl ?_ | refine xE ?_ | refine xF ?_ | refine xG ?_) | go_skip | go_guarded | (go_at_call 73; (with_reducible refine (kids_anyX _ 1 _ hk).mono ?_); rintro e w1 ⟨rfl, rfl⟩) | (with_reducible refine wp_loop_rounds 4 ?_) | rw [rounds_succ] | go_values | go_skip | go_guarded | go_step | go_upon | go_back | ((with_reducible show Oper.upon _ _ _ _ _ _); go_simp) | (dsimp only)))
  all_goals
    first | (exfalso; omega) | skip
    refine post55 (w.heap.size + 1) _ rfl rfl rfl ?_ ?_ ?_ ⟨⟨_, _, _, _, rfl, ?_⟩, ?_⟩
    · simp [ci, go_sem]
    · simp [ci, go_sem]
    · simp [ci, go_sem]
    · simp_all [ci, go_sem, kidsR, kidW] <;> (repeat rw [if_neg (by omega)])
    · (repeat (first | with_reducible exact Below.refl _ _ | assumption | with_reducible refine below_drewN ?_ _ | with_reducible refine Below.drew ?_ | with_reducible refine Below.setRow ?_ ?_ _ | with_reducible refine Below.alloc ?_ ?_ _ | with_reducible refine Below.setCell ?_ ?_ _ | with_reducible exact Nat.le_refl _ | (focus (simp; done)) | (focus (simp; omega)) | omega))
set_option maxHeartbeats 1000000 in
theorem kids55_2 (op wd n k0 k1 k2 : Int) (b off cap : Nat) (ls : List Nd) (w : World) (hk : kidsI op = 2) (HR : RowAt 6 Nd.cells w b off ls) :
    Calls Tryz.prog 58 #[.agg #[.int .i64 op, .int .i64 wd, .int .u64 n, .int .i64 k0, .int .i64 k1, .int .i64 k2], .slice (some ⟨b, off, none⟩) ls.length cap] w fun e w' =>
      Kids55 op k0 k1 k2 ls e ∧ Below w.heap.size w w' := by
  go_enter Tryz.func58, Tryz.ntmps58
  (repeat' (first | (with_reducible first | refine xA ?_ | refine xB ?_ | refine xC ?_ | refine xD ?_ | refine xH ?_ | refine xI rfl ?_ | refine xE ?_ | refine xF ?_ | refine xG ?_) | go_skip | go_guarded | ((with_reducible refine wl_id ?_); refine wl_ldW HR (by (repeat (first | with_reducible exact Below.refl _ _ | assumption | with_reducible refine below_drewN ?_ _ | with_reducible refine Below.drew ?_ | with_reducible refine Below.setRow ?_ ?_ _ | with_reducible refine Below.alloc ?_ ?_ _ | with_reducible refine Below.setCell ?_ ?_ _ | with_reducible exact Nat.le_refl _ | (focus (simp; done)) | (focus (simp; omega)) | omega))) _ (by omega) (by omega) rfl _ rfl rfl ?_; simp only [Act.put, qz4, qz5, qz6]) | (go_at_call 73; (with_reducible refine (kids_anyX _ 2 _ hk).mono ?_); rintro e w1 ⟨rfl, rfl⟩) | (with_reducible refine wp_loop_rounds 4 ?_) | rw [rounds_succ] | go_values | go_skip | go_guarded | go_step | go_upon | go_back | ((with_reducible show Oper.upon _ _ _ _ _ _); go_simp) | (dsimp only)))
  all_goals
    refine post55 (w.heap.size + 1) _ rfl rfl rfl ?_ ?_ ?_ ⟨⟨_, _, _, _, rfl, ?_⟩, ?_⟩
    · simp [ci, go_sem]
    · simp [ci, go_sem]
    · simp [ci, go_sem]
    · simp_all [ci, go_sem, kidsR, kidW] <;> (repeat rw [if_neg (by omega)])
    · (repeat (first | with_reducible exact Below.refl _ _ | assumption | with_reducible refine below_drewN ?_ _ | with_reducible refine Below.drew ?_ | with_reducible refine Below.setRow ?_ ?_ _ | with_reducible refine Below.alloc ?_ ?_ _ | with_reducible refine Below.setCell ?_ ?_ _ | with_reducible exact Nat.le_refl _ | (focus (simp; done)) | (focus (simp; omega)) | omega))
set_option maxHeartbeats 1000000 in
theorem kids55n_2 (op wd n k0 k1 k2 : Int) (ao : Option Addr) (cap : Nat) (w : World) (hk : kidsI op = 2) :
    Calls Tryz.prog 58 #[.agg #[.int .i64 op, .int .i64 wd, .int .u64 n, .int .i64 k0, .int .i64 k1, .int .i64 k2], .slice ao 0 cap] w fun e w' =>
      Kids55 op k0 k1 k2 [] e ∧ Below w.heap.size w w' := by
  go_enter Tryz.func58, Tryz.ntmps58
  (repeat' (first | (with_reducible first | refine xA ?_ | refine xB ?_ | refine xC ?_ | refine xD ?_ | refine xH ?_ | refine xI rfl ?_ | refine xE ?_ | refine xF ?_ | refine xG ?_) | go_skip | go_guarded | (go_at_call 73; (with_reducible refine (kids_anyX _ 2 _ hk).mono ?_); rintro e w1 ⟨rfl, rfl⟩) | (with_reducible refine wp_loop_rounds 4 ?_) | rw [rounds_succ] | go_values | go_skip | go_guarded | go_step | go_upon | go_back | ((with_reducible show Oper.upon _ _ _ _ _ _); go_simp) | (dsimp only)))
  all_goals
    first | (exfalso; omega) | skip
    refine post55 (w.heap.size + 1) _ rfl rfl rfl ?_ ?_ ?_ ⟨⟨_, _, _, _, rfl, ?_⟩, ?_⟩
    · simp [ci, go_sem]
    · simp [ci, go_sem]
    · simp [ci, go_sem]
    · simp_all [ci, go_sem, kidsR, kidW] <;> (repeat rw [if_neg (by omega)])
    · (repeat (first | with_reducible exact Below.refl _ _ | assumption | with_reducible refine below_drewN ?_ _ | with_reducible refine Below.drew ?_ | with_reducible refine Below.setRow ?_ ?_ _ | with_reducible refine Below.alloc ?_ ?_ _ | with_reducible refine Below.setCell ?_ ?_ _ | with_reducible exact Nat.le_refl _ | (focus (simp; done)) | (focus (simp; omega)) | omega))
set_option maxHeartbeats 1000000 in
theorem kids55_3 (op wd n k0 k1 k2 : Int) (b off cap : Nat) (ls : List Nd) (w : World) (hk : kidsI op = 3) (HR : RowAt 6 Nd.cells w b off ls) :
    Calls Tryz.prog 58 #[.agg #[.int .i64 op, .int .i64 wd, .int .u64 n, .int .i64 k0, .int .i64 k1, .int .i64 k2], .slice (some ⟨b, off, none⟩) ls.length cap] w fun e w' =>
      Kids55 op k0 k1 k2 ls e ∧ Below w.heap.size w w' := by
  go_enter Tryz.func58, Tryz.ntmps58
  (repeat' (first | (with_reducible first | refine xA ?_ | refine xB ?_ | refine xC ?_ | refine xD ?_ | refine xH ?_ | refine xI rfl ?_ | refine xE ?_ | refine xF ?_ | refine xG ?_) | go_skip | go_guarded | ((with_reducible refine wl_id ?_); refine wl_ldW HR (by (repeat (first | with_reducible exact Below.refl _ _ | assumption | with_reducible refine below_drewN ?_ _ | with_reducible refine Below.drew ?_ | with_reducible refine Below.setRow ?_ ?_ _ | with_reducible refine Below.alloc ?_ ?_ _ | with_reducible refine Below.setCell ?_ ?_ _ | with_reducible exact Nat.le_refl _ | (focus (simp; done)) | (focus (simp; omega)) | omega))) _ (by omega) (by omega) rfl _ rfl rfl ?_; simp only [Act.put, qz4, qz5, qz6]) | (go_at_call 73; (with_reducible refine (kids_anyX _ 3 _ hk).mono ?_); rintro e w1 ⟨rfl, rfl⟩) | (with_reducible refine wp_loop_rounds 4 ?_) | rw [rounds_succ] | go_values | go_skip | go_guarded | go_step | go_upon | go_back | ((with_reducible show Oper.upon _ _ _ _ _ _); go_simp) | (dsimp only)))
  all_goals
    refine post55 (w.heap.size + 1) _ rfl rfl rfl ?_ ?_ ?_ ⟨⟨_, _, _, _, rfl, ?_⟩, ?_⟩
    · simp [ci, go_sem]
    · simp [ci, go_sem]
    · simp [ci, go_sem]
    · simp_all [ci, go_sem, kidsR, kidW] <;> (repeat rw [if_neg (by omega)])
    · (repeat (first | with_reducible exact Below.refl _ _ | assumption | with_reducible refine below_drewN ?_ _ | with_reducible refine Below.drew ?_ | with_reducible refine Below.setRow ?_ ?_ _ | with_reducible refine Below.alloc ?_ ?_ _ | with_reducible refine Below.setCell ?_ ?_ _ | with_reducible exact Nat.le_refl _ | (focus (simp; done)) | (focus (simp; omega)) | omega))
set_option maxHeartbeats 1000000 in
theorem kids55n_3 (op wd n k0 k1 k2 : Int) (ao : Option Addr) (cap : Nat) (w : World) (hk : kidsI op = 3) :
    Calls Tryz.prog 58 #[.agg #[.int .i64 op, .int .i64 wd, .int .u64 n, .int .i64 k0, .int .i64 k1, .int .i64 k2], .slice ao 0 cap] w fun e w' =>
      Kids55 op k0 k1 k2 [] e ∧ Below w.heap.size w w' := by
  go_enter Tryz.func58, Tryz.ntmps58
  (repeat' (first | (with_reducible first | refine xA ?_ | refine xB ?_ | refine xC ?_ | refine xD ?_ | refine xH ?_ | refine xI rfl ?_ | refine xE ?_ | refine xF ?_ | refine xG ?_) | go_skip | go_guarded | (go_at_call 73; (with_reducible refine (kids_anyX _ 3 _ hk).mono ?_); rintro e w1 ⟨rfl, rfl⟩) | (with_reducible refine wp_loop_rounds 4 ?_) | rw [rounds_succ] | go_values | go_skip | go_guarded | go_step | go_upon | go_back | ((with_reducible show Oper.upon _ _ _ _ _ _); go_simp) | (dsimp only)))
  all_goals
    first | (exfalso; omega) | skip
    refine post55 (w.heap.size + 1) _ rfl rfl rfl ?_ ?_ ?_ ⟨⟨_, _, _, _, rfl, ?_⟩, ?_⟩
    · simp [ci, go_sem]
    · simp [ci, go_sem]
    · simp [ci, go_sem]
    · simp_all [ci, go_sem, kidsR, kidW] <;> (repeat rw [if_neg (by omega)])
    · (repeat (first | with_reducible exact Below.refl _ _ | assumption | with_reducible refine below_drewN ?_ _ | with_reducible refine Below.drew ?_ | with_reducible refine Below.setRow ?_ ?_ _ | with_reducible refine Below.alloc ?_ ?_ _ | with_reducible refine Below.setCell ?_ ?_ _ | with_reducible exact Nat.le_refl _ | (focus (simp; done)) | (focus (simp; omega)) | omega))
end Go.Proofs.YtmaogkgjiplckaaGreat
namespace Go.Proofs.YtmaogkgjiplckaaGreat
open Go.RowKit
theorem SlIs.cases {s : Nat} {f : Nd → List Value} {w : World} {v : Value} {ls : List Nd} (h : SlIs s f w v ls) :
    (∃ ao cap, v = .slice ao 0 cap ∧ ls = []) ∨ (∃ b o cap, v = .slice (some ⟨b, o, none⟩) ls.length cap ∧ ls ≠ [] ∧ RowAt s f w b o ls) := by
  obtain ⟨ao, cap, rfl, _, _, h4⟩ := h
  by_cases e : ls = []
  · subst e; exact .inl ⟨_, _, rfl, rfl⟩
  · obtain ⟨b, o, rfl, hr⟩ := h4 e
    exact .inr ⟨b, o, cap, rfl, e, hr⟩
theorem kidsI_bd (op : Int) : kidsI op = 0 ∨ kidsI op = 1 ∨ kidsI op = 2 ∨ kidsI op = 3 := by
  unfold kidsI; split
  · simp
  · split
    · simp
    · split <;> simp
theorem kids55_any (op wd n k0 k1 k2 : Int) (v : Value) (ls : List Nd) (w : World) (h : SlIs 6 Nd.cells w v ls) :
    Calls Tryz.prog 58 #[.agg #[.int .i64 op, .int .i64 wd, .int .u64 n, .int .i64 k0, .int .i64 k1, .int .i64 k2], v] w fun e w' =>
      Kids55 op k0 k1 k2 ls e ∧ Below w.heap.size w w' := by
  rcases h.cases with ⟨ao, cap, rfl, rfl⟩ | ⟨b, o, cap, rfl, _, HR⟩
  · rcases kidsI_bd op with hk | hk | hk | hk
    · exact kids55n_0 op wd n k0 k1 k2 ao cap w hk
    · exact kids55n_1 op wd n k0 k1 k2 ao cap w hk
    · exact kids55n_2 op wd n k0 k1 k2 ao cap w hk
    · exact kids55n_3 op wd n k0 k1 k2 ao cap w hk
  · rcases kidsI_bd op with hk | hk | hk | hk
    · exact kids55_0 op wd n k0 k1 k2 b o cap ls w hk HR
    · exact kids55_1 op wd n k0 k1 k2 b o cap ls w hk HR
    · exact kids55_2 op wd n k0 k1 k2 b o cap ls w hk HR
    · exact kids55_3 op wd n k0 k1 k2 b o cap ls w hk HR
theorem box_row (w : World) (d : Nd) (t : TypeId) : RowAt 6 Nd.cells (w.alloc (.cells #[.int .i64 d.op, .int .i64 d.w, .int .u64 d.n, .int .i64 d.k0, .int .i64 d.k1, .int .i64 d.k2] t)) w.heap.size 0 [d] := by
  intro i e hi j c hj
  match i, hi with
  | 0, hi =>
    obtain rfl : d = e := by simpa using hi
    match j, hj with
    | 0, hj => obtain rfl : _ = c := by simpa [Nd.cells] using hj
               simp [go_sem]
    | 1, hj => obtain rfl : _ = c := by simpa [Nd.cells] using hj
               simp [go_sem]
    | 2, hj => obtain rfl : _ = c := by simpa [Nd.cells] using hj
               simp [go_sem]
    | 3, hj => obtain rfl : _ = c := by simpa [Nd.cells] using hj
               simp [go_sem]
    | 4, hj => obtain rfl : _ = c := by simpa [Nd.cells] using hj
               simp [go_sem]
    | 5, hj => obtain rfl : _ = c := by simpa [Nd.cells] using hj
               simp [go_sem]
    | j + 6, hj => simp [Nd.cells] at hj
  | i + 1, hi => simp at hi
section
variable {ops : Array Oper} {rest : List Oper} {o : Oper} {a : Act} {w : World} {Q : Exit → Act → World → Prop}
theorem wl_ldNd {w0 : World} {b off : Nat} {ls : List Nd} (HR : RowAt 6 Nd.cells w0 b off ls) (hb : Below w0.heap.size w0 w) (i : Nat) (d : Nd) (hi : ls[i]? = some d) (hgd : o.guard = none) (x : Operand) (ho : o.op = .load 49 x)
    (hx : a.eval x = .pointer (some ⟨b, off + 6 * i, none⟩)) (h : wpList Tryz.prog ops Q rest (a.put o.dst (.agg #[.int .i64 d.op, .int .i64 d.w, .int .u64 d.n, .int .i64 d.k0, .int .i64 d.k1, .int .i64 d.k2])) w) : wpList Tryz.prog ops Q (o :: rest) a w :=
  wpList_plain hgd fun _ hK => by
    have hc := fun j c hj => cell_keep hb (HR i d hi j c hj)
    simp only [← Nat.add_assoc] at hc
    unfold Oper.wp execOp
    simp only [ho, hx, Sem.run_bind, ld49 w _ _ _ hc, Result.andThen_ok]
    exact hK _ _ h
end
def rightE (d : Nd) (ls : List Nd) : Int :=
  if d.op < 0 ∨ 24 < d.op then 4 else
  match kidsR d.op d.k0 d.k1 d.k2 ls with
  | none => 9
  | some (a, b, c) => if wideB d.op d.w a b c then (if numB d.op d.w d.n then 0 else 3) else 8
theorem wide0 {op wd a b c : Int} (h : (!wideB op wd a b c) = false) (h0 : op = 0) : wd = 1 ∨ wd = 8 ∨ wd = 64 := by
  subst h0
  simp [wideB, kidsI, leafB] at h
  omega
set_option maxHeartbeats 1000000 in
theorem right_any (op wd n k0 k1 k2 : Int) (v : Value) (ls : List Nd) (w : World) (h : SlIs 6 Nd.cells w v ls) (hn : 0 ≤ n) :
    Calls Tryz.prog 42 #[.agg #[.int .i64 op, .int .i64 wd, .int .u64 n, .int .i64 k0, .int .i64 k1, .int .i64 k2], v] w fun e w' => e = .returned (.int .i64 (rightE ⟨op, wd, n, k0, k1, k2⟩ ls)) ∧ Below w.heap.size w w' := by
  have HX := box_row w ⟨op, wd, n, k0, k1, k2⟩ 49
  dsimp only at HX
  have HB : Below w.heap.size w (w.alloc (.cells #[.int .i64 op, .int .i64 wd, .int .u64 n, .int .i64 k0, .int .i64 k1, .int .i64 k2] 49)) := by (repeat (first | with_reducible exact Below.refl _ _ | assumption | with_reducible refine below_drewN ?_ _ | with_reducible refine Below.drew ?_ | with_reducible refine Below.setRow ?_ ?_ _ | with_reducible refine Below.alloc ?_ ?_ _ | with_reducible refine Below.setCell ?_ ?_ _ | with_reducible exact Nat.le_refl _ | (focus (simp; done)) | (focus (simp; omega)) | omega))
  go_enter Tryz.func42, Tryz.ntmps42
  (repeat' (first | (with_reducible first | refine xA ?_ | refine xB ?_ | refine xC ?_ | refine xD ?_ | refine xH ?_ | refine xI rfl ?_ | refine xE ?_ | refine xF ?_ | refine xG ?_) | go_skip | go_guarded | (go_at_call 58; (with_reducible refine (kids55_any _ _ _ _ _ _ _ ls _ (h.below (by (repeat (first | with_reducible exact Below.refl _ _ | assumption | with_reducible refine below_drewN ?_ _ | with_reducible refine Below.drew ?_ | with_reducible refine Below.setRow ?_ ?_ _ | with_reducible refine Below.alloc ?_ ?_ _ | with_reducible refine Below.setCell ?_ ?_ _ | with_reducible exact Nat.le_refl _ | (focus (simp; done)) | (focus (simp; omega)) | omega))))).mono ?_); rintro e w1 ⟨⟨x, y, z, ok, rfl, hR⟩, hb⟩; (have hsz := HB.size; replace HX := HX.below (Below.trans (by (repeat (first | with_reducible exact Below.refl _ _ | assumption | with_reducible refine below_drewN ?_ _ | with_reducible refine Below.drew ?_ | with_reducible refine Below.setRow ?_ ?_ _ | with_reducible refine Below.alloc ?_ ?_ _ | with_reducible refine Below.setCell ?_ ?_ _ | with_reducible exact Nat.le_refl _ | (focus (simp; done)) | (focus (simp; omega)) | omega))) (hb.mono (by first | omega | (simp; done) | (simp; omega)))); replace HB := HB.trans (Below.trans (by (repeat (first | with_reducible exact Below.refl _ _ | assumption | with_reducible refine below_drewN ?_ _ | with_reducible refine Below.drew ?_ | with_reducible refine Below.setRow ?_ ?_ _ | with_reducible refine Below.alloc ?_ ?_ _ | with_reducible refine Below.setCell ?_ ?_ _ | with_reducible exact Nat.le_refl _ | (focus (simp; done)) | (focus (simp; omega)) | omega))) (hb.mono (by first | omega | (simp; done) | (simp; omega)))); clear hb)) | (go_at_call 59; (with_reducible refine (wide_any _ _ _ _ _ _ _ _ _ _).mono ?_); rintro e w1 ⟨rfl, hb⟩; (have hsz := HB.size; replace HX := HX.below (Below.trans (by (repeat (first | with_reducible exact Below.refl _ _ | assumption | with_reducible refine below_drewN ?_ _ | with_reducible refine Below.drew ?_ | with_reducible refine Below.setRow ?_ ?_ _ | with_reducible refine Below.alloc ?_ ?_ _ | with_reducible refine Below.setCell ?_ ?_ _ | with_reducible exact Nat.le_refl _ | (focus (simp; done)) | (focus (simp; omega)) | omega))) (hb.mono (by first | omega | (simp; done) | (simp; omega)))); replace HB := HB.trans (Below.trans (by (repeat (first | with_reducible exact Below.refl _ _ | assumption | with_reducible refine below_drewN ?_ _ | with_reducible refine Below.drew ?_ | with_reducible refine Below.setRow ?_ ?_ _ | with_reducible refine Below.alloc ?_ ?_ _ | with_reducible refine Below.setCell ?_ ?_ _ | with_reducible exact Nat.le_refl _ | (focus (simp; done)) | (focus (simp; omega)) | omega))) (hb.mono (by first | omega | (simp; done) | (simp; omega)))); clear hb)) | (go_at_call 60; (with_reducible refine (number_any _ _ _ _ _ _ _ hn (fun h0 => wide0 (by assumption) h0)).mono ?_); rintro e w1 ⟨rfl, hb⟩; (have hsz := HB.size; replace HX := HX.below (Below.trans (by (repeat (first | with_reducible exact Below.refl _ _ | assumption | with_reducible refine below_drewN ?_ _ | with_reducible refine Below.drew ?_ | with_reducible refine Below.setRow ?_ ?_ _ | with_reducible refine Below.alloc ?_ ?_ _ | with_reducible refine Below.setCell ?_ ?_ _ | with_reducible exact Nat.le_refl _ | (focus (simp; done)) | (focus (simp; omega)) | omega))) (hb.mono (by first | omega | (simp; done) | (simp; omega)))); replace HB := HB.trans (Below.trans (by (repeat (first | with_reducible exact Below.refl _ _ | assumption | with_reducible refine below_drewN ?_ _ | with_reducible refine Below.drew ?_ | with_reducible refine Below.setRow ?_ ?_ _ | with_reducible refine Below.alloc ?_ ?_ _ | with_reducible refine Below.setCell ?_ ?_ _ | with_reducible exact Nat.le_refl _ | (focus (simp; done)) | (focus (simp; omega)) | omega))) (hb.mono (by first | omega | (simp; done) | (simp; omega)))); clear hb)) | ((with_reducible refine wl_id ?_); refine wl_ldNd HX (by (repeat (first | with_reducible exact Below.refl _ _ | assumption | with_reducible refine below_drewN ?_ _ | with_reducible refine Below.drew ?_ | with_reducible refine Below.setRow ?_ ?_ _ | with_reducible refine Below.alloc ?_ ?_ _ | with_reducible refine Below.setCell ?_ ?_ _ | with_reducible exact Nat.le_refl _ | (focus (simp; done)) | (focus (simp; omega)) | omega))) 0 _ rfl rfl _ rfl rfl ?_; simp only [Act.put, qz4, qz5, qz6]; (try dsimp only)) | go_values | go_skip | go_guarded | go_step | go_upon | go_back | ((with_reducible show Oper.upon _ _ _ _ _ _); go_simp) | (dsimp only)))
  all_goals
    have hsz := HB.size
    go_ret
    refine ⟨ret_int ?_, by first | ((repeat (first | with_reducible exact Below.refl _ _ | assumption | with_reducible refine below_drewN ?_ _ | with_reducible refine Below.drew ?_ | with_reducible refine Below.setRow ?_ ?_ _ | with_reducible refine Below.alloc ?_ ?_ _ | with_reducible refine Below.setCell ?_ ?_ _ | with_reducible exact Nat.le_refl _ | (focus (simp; done)) | (focus (simp; omega)) | omega)); done) | exact HB | exact HB.trans (by (repeat (first | with_reducible exact Below.refl _ _ | assumption | with_reducible refine below_drewN ?_ _ | with_reducible refine Below.drew ?_ | with_reducible refine Below.setRow ?_ ?_ _ | with_reducible refine Below.alloc ?_ ?_ _ | with_reducible refine Below.setCell ?_ ?_ _ | with_reducible exact Nat.le_refl _ | (focus (simp; done)) | (focus (simp; omega)) | omega)))⟩
    unfold rightE
    simp_all
end Go.Proofs.YtmaogkgjiplckaaGreat
namespace Go.Proofs.YtmaogkgjiplckaaGreat
open Go.RowKit
section
variable {P : Program} {ops : Array Oper} {C : World → Prop} {o : Oper} {a : Act} {K : Act → Prop} {W : World}
theorem wp_abs {c : Code} {Q : Exit → Act → World → Prop} {U : World} (F : World → Prop) (hF : F U) (h : ∀ w, F w → c.wp P Q a w) : c.wp P Q a U := h U hF
end
theorem ld46 (w : World) (p : Addr) (n : Int) (h : w.cell? p = some (.int .u64 n)) : (Instr.loadAt 24 (.pointer (some p))).run Tryz.prog w = .ok (.int .u64 n) w := by go_simp
section
variable {ops : Array Oper} {o : Oper} {a : Act} {K : Act → Prop} {W : World}
theorem quiet_ld3 {p : Addr} {n : Int} (hc : W.cell? p = some (.int .i64 n)) (x : Operand) (ho : o.op = .load 3 x) (hx : a.eval x = .pointer (some p)) (hk : K (a.put o.dst (.int .i64 n))) : o.quiet Tryz.prog a (Cls W) K :=
  quiet_load 3 x ho p hx _ (fun w hw => cell_keep hw hc) (fun w h => ld3 w _ _ h) hk
theorem quiet_ld46 {p : Addr} {n : Int} (hc : W.cell? p = some (.int .u64 n)) (x : Operand) (ho : o.op = .load 24 x) (hx : a.eval x = .pointer (some p)) (hk : K (a.put o.dst (.int .u64 n))) : o.quiet Tryz.prog a (Cls W) K :=
  quiet_load 24 x ho p hx _ (fun w hw => cell_keep hw hc) (fun w h => ld46 w _ _ h) hk
theorem quiet_ldNd {b off : Nat} {ls : List Nd} (HR : RowAt 6 Nd.cells W b off ls) (i : Nat) (d : Nd) (hi : ls[i]? = some d) (x : Operand) (ho : o.op = .load 49 x)
    (hx : a.eval x = .pointer (some ⟨b, off + 6 * i, none⟩)) (hk : K (a.put o.dst (.agg #[.int .i64 d.op, .int .i64 d.w, .int .u64 d.n, .int .i64 d.k0, .int .i64 d.k1, .int .i64 d.k2]))) : o.quiet Tryz.prog a (Cls W) K := by
  refine ⟨_, fun w hw => ?_, hk⟩
  have hc := fun j c hj => cell_keep hw (HR i d hi j c hj)
  simp only [← Nat.add_assoc] at hc
  unfold Oper.quietAt execOp
  simp only [ho, hx, Sem.run_bind, ld49 w _ _ _ hc, Result.andThen_ok]
  exact ⟨rfl, rfl⟩
end
end Go.Proofs.YtmaogkgjiplckaaGreat
namespace Go.Proofs.YtmaogkgjiplckaaGreat
open Go.RowKit
theorem wAt_nn {ls : List Nd} (h : ∀ d ∈ ls, 0 ≤ d.w) (k : Int) : 0 ≤ wAt ls k := by
  unfold wAt
  cases e : ls[k.toNat]? with
  | none => simp
  | some d => simpa using h d (List.mem_of_getElem? e)
theorem cell_x (w : World) (d : Nd) (b : Nat) (h : RowAt 6 Nd.cells w b 0 [d]) : w.cell? ⟨b, 1, none⟩ = some (.int .i64 d.w) ∧ w.cell? ⟨b, 2, none⟩ = some (.int .u64 d.n) :=
  ⟨h 0 d rfl 1 _ rfl, h 0 d rfl 2 _ rfl⟩
def NdWf (d : Nd) : Prop :=
  (-9223372036854775808 ≤ d.op ∧ d.op ≤ 9223372036854775807) ∧ (-9223372036854775808 ≤ d.w ∧ d.w ≤ 9223372036854775807) ∧ (0 ≤ d.n ∧ d.n < 18446744073709551616) ∧
  (-9223372036854775808 ≤ d.k0 ∧ d.k0 ≤ 9223372036854775807) ∧ (-9223372036854775808 ≤ d.k1 ∧ d.k1 ≤ 9223372036854775807) ∧ (-9223372036854775808 ≤ d.k2 ∧ d.k2 ≤ 9223372036854775807)
def chk : List Nd → List Nd → Int × Int
  | _, [] => (0, 0)
  | pre, d :: rest => if pre.length = 65536 then (10, 65536) else if rightE d pre ≠ 0 then (rightE d pre, pre.length) else chk (pre ++ [d]) rest
def tchk (ls : List Nd) : Int × Int := if ls = [] then (11, 0) else chk [] ls
theorem chk_step {ls : List Nd} {k : Nat} {d : Nd} (h : ls[k]? = some d) : chk (ls.take k) (ls.drop k) = if k = 65536 then (10, 65536) else if rightE d (ls.take k) ≠ 0 then (rightE d (ls.take k), (k : Int)) else chk (ls.take (k + 1)) (ls.drop (k + 1)) := by
  have hlt : k < ls.length := by
    rcases Nat.lt_or_ge k ls.length with h1 | h1
    · exact h1
    · rw [List.getElem?_eq_none h1] at h; cases h
  have hd : ls.drop k = d :: ls.drop (k + 1) := by
    rw [List.drop_eq_getElem_cons hlt]
    rw [List.getElem?_eq_getElem hlt] at h
    injection h with h; rw [h]
  have ht : ls.take (k + 1) = ls.take k ++ [d] := by rw [List.take_add_one, h]; rfl
  rw [hd, ht]
  simp only [chk, List.length_take, Nat.min_eq_left (Nat.le_of_lt hlt)]
end Go.Proofs.YtmaogkgjiplckaaGreat
namespace Go.Proofs.YtmaogkgjiplckaaGreat
open Go.RowKit
structure BS where
  g : G
  ws : List (List Int)
  inp : List (List Int)
  reg : List (List Int)
def bs0 : BS := ⟨newG, [], List.replicate 16 [], List.replicate 8 []⟩
def BS.at (b : BS) (k : Int) : List Int := b.ws.getD k.toNat []
def bword (b : BS) (d : Nd) : BS × List Int :=
  if d.op = 0 then (b, constL d.w.toNat d.n.toNat)
  else if d.op = 1 then (if b.inp.getD d.n.toNat [] = [] then (⟨addV b.g 8, b.ws, b.inp.set d.n.toNat (freeL b.g.n 8), b.reg⟩, freeL b.g.n 8) else (b, b.inp.getD d.n.toNat []))
  else if d.op = 2 then (if b.reg.getD d.n.toNat [] = [] then (⟨addV b.g 64, b.ws, b.inp, b.reg.set d.n.toNat (freeL b.g.n 64)⟩, freeL b.g.n 64) else (b, b.reg.getD d.n.toNat []))
  else if d.op = 6 then (b, b.at d.k0 ++ constL (64 - (b.at d.k0).length) 0)
  else if d.op = 7 then (b, (b.at d.k0).take 8)
  else if d.op = 22 then (⟨(chooseG b.g ((b.at d.k0).getD 0 0) (b.at d.k1) (b.at d.k2)).1, b.ws, b.inp, b.reg⟩, (chooseG b.g ((b.at d.k0).getD 0 0) (b.at d.k1) (b.at d.k2)).2)
  else (⟨(resG d.op b.g (b.at d.k0).length (b.at d.k0) (b.at d.k1)).1, b.ws, b.inp, b.reg⟩, (resG d.op b.g (b.at d.k0).length (b.at d.k0) (b.at d.k1)).2)
def BS.push (r : BS × List Int) : BS := ⟨r.1.g, r.1.ws ++ [r.2], r.1.inp, r.1.reg⟩
def bK (ls : List Nd) : Nat → BS
  | 0 => bs0
  | k + 1 => match ls[k]? with
    | some d => .push (bword (bK ls k) d)
    | none => bK ls k
def valD (I R : Nat → Nat) (ls : List Nd) (vs : List Nat) (d : Nd) : Nat :=
  if d.op = 0 then d.n.toNat
  else if d.op = 1 then I d.n.toNat
  else if d.op = 2 then R d.n.toNat
  else if d.op = 6 then vs.getD d.k0.toNat 0
  else if d.op = 7 then vs.getD d.k0.toNat 0 % 256
  else if d.op = 22 then (if vs.getD d.k0.toNat 0 = 1 then vs.getD d.k1.toNat 0 else vs.getD d.k2.toNat 0)
  else (opI d.op (wAt ls d.k0).toNat (vs.getD d.k0.toNat 0 : Nat) (vs.getD d.k1.toNat 0 : Nat)).toNat
def vK (I R : Nat → Nat) (ls : List Nd) : Nat → List Nat
  | 0 => []
  | k + 1 => match ls[k]? with
    | some d => vK I R ls k ++ [valD I R ls (vK I R ls k) d]
    | none => vK I R ls k
theorem vK_len {I R : Nat → Nat} {ls : List Nd} : ∀ k, k ≤ ls.length → (vK I R ls k).length = k := by
  intro k
  induction k with
  | zero => intro _; rfl
  | succ k ih =>
    intro h
    rw [vK, List.getElem?_eq_getElem (show k < ls.length by omega)]
    dsimp only
    rw [List.length_append, ih (by omega)]; rfl
def sayL : List Int → Nat → List Int
  | [], _ => []
  | v :: l, x => (if x % 2 = 1 then v else -v) :: sayL l (x / 2)
theorem sayL_len : ∀ (l : List Int) (x : Nat), (sayL l x).length = l.length
  | [], _ => rfl
  | _ :: l, x => by rw [sayL, List.length_cons, List.length_cons, sayL_len l]
theorem sayL_range (f : Nat → Int) : ∀ (k x : Nat), sayL ((List.range k).map f) x = (List.range k).map fun i => if x.testBit i then f i else -f i := by
  intro k
  induction k generalizing f with
  | zero => intro x; rfl
  | succ k ih =>
    intro x
    rw [List.range_succ_eq_map, List.map_cons, List.map_cons, List.map_map, List.map_map, sayL]
    have h := ih (fun i => f (i + 1)) (x / 2)
    congr 1
    · rw [Nat.testBit_zero]; simp
    · have e : (List.range k).map (f ∘ Nat.succ) = (List.range k).map (fun i => f (i + 1)) := rfl
      rw [e, h]
      refine List.map_congr_left fun i _ => ?_
      show _ = if x.testBit (i + 1) then f (i + 1) else -f (i + 1)
      rw [Nat.testBit_succ]
theorem sayL_free (n k x : Nat) : sayL (freeL n k) x = fromL n k x := by
  unfold freeL fromL
  rw [sayL_range]
def frB (I R : Nat → Nat) (b : BS) : List Int := (List.range 16).flatMap (fun i => sayL (b.inp.getD i []) (I i)) ++ (List.range 8).flatMap (fun i => sayL (b.reg.getD i []) (R i))
theorem GI.congr {g : G} {fr fr' : List Int} {s : Nat → Bool} (h : GI g fr s) (e : ∀ x, x ∈ fr' ↔ x ∈ fr) : GI g fr' s :=
  ⟨h.pos, h.one, h.sat, h.rng, fun v h1 h2 => (h.det v h1 h2).mono (fun _ hc => hc) (fun x hx => (e x).2 hx), fun x hx => h.frm x ((e x).1 hx), h.an, h.xo, h.len⟩
theorem mem_set_flat {f : Nat → Nat} {l : List (List Int)} {i m : Nat} {v : List Int} (hi : i < m) (hl : l.length = m) (h0 : l.getD i [] = []) (x : Int) :
    x ∈ (List.range m).flatMap (fun j => sayL ((l.set i v).getD j []) (f j)) ↔ x ∈ (List.range m).flatMap (fun j => sayL (l.getD j []) (f j)) ∨ x ∈ sayL v (f i) := by
  simp only [List.mem_flatMap, List.mem_range]
  constructor
  · rintro ⟨j, hj, hx⟩
    by_cases e : j = i
    · subst e
      right
      rwa [List.getD_eq_getElem?_getD, List.getElem?_set_self (by omega), Option.getD_some] at hx
    · left
      refine ⟨j, hj, ?_⟩
      rwa [List.getD_eq_getElem?_getD, List.getElem?_set_ne (Ne.symm e), ← List.getD_eq_getElem?_getD] at hx
  · rintro (⟨j, hj, hx⟩ | hx)
    · by_cases e : j = i
      · subst e
        rw [h0] at hx
        simp [sayL] at hx
      · refine ⟨j, hj, ?_⟩
        rwa [List.getD_eq_getElem?_getD, List.getElem?_set_ne (Ne.symm e), ← List.getD_eq_getElem?_getD]
    · refine ⟨i, hi, ?_⟩
      rwa [List.getD_eq_getElem?_getD, List.getElem?_set_self (by omega), Option.getD_some]
inductive NF (ls : List Nd) (j : Nat) (d : Nd) : Prop
  | const (h : d.op = 0) (hw : d.w = 1 ∨ d.w = 8 ∨ d.w = 64) (hn : 0 ≤ d.n) (hN : d.n.toNat < 2 ^ d.w.toNat) (z : d.k0 = 0 ∧ d.k1 = 0 ∧ d.k2 = 0)
  | input (h : d.op = 1) (hw : d.w = 8) (hn : 0 ≤ d.n) (hN : d.n < 16)
  | reg (h : d.op = 2) (hw : d.w = 64) (hn : 0 ≤ d.n) (hN : d.n < 8)
  | not (h : d.op = 5) (a : Nat) (ha : d.k0 = a) (haj : a < j) (hw : wAt ls a = d.w) (h0 : d.w ≠ 0) (z : d.k1 = 0)
  | wide (h : d.op = 6) (a : Nat) (ha : d.k0 = a) (haj : a < j) (hw : d.w = 64) (hx : wAt ls a = 1 ∨ wAt ls a = 8)
  | low (h : d.op = 7) (a : Nat) (ha : d.k0 = a) (haj : a < j) (hw : d.w = 8) (hx : wAt ls a = 64)
  | two (h : 8 ≤ d.op ∧ d.op ≤ 18) (a b : Nat) (ha : d.k0 = a) (hb : d.k1 = b) (haj : a < j) (hbj : b < j) (hx : wAt ls a = d.w) (hy : wAt ls b = d.w) (h0 : d.w ≠ 0)
  | test (h : 19 ≤ d.op ∧ d.op ≤ 21) (a b : Nat) (ha : d.k0 = a) (hb : d.k1 = b) (haj : a < j) (hbj : b < j) (hx : wAt ls b = wAt ls a) (h0 : wAt ls a ≠ 0) (hw : d.w = 1)
  | choice (h : d.op = 22) (a b c : Nat) (ha : d.k0 = a) (hb : d.k1 = b) (hc : d.k2 = c) (haj : a < j) (hbj : b < j) (hcj : c < j) (h1 : wAt ls a = 1) (hx : wAt ls b = d.w) (hy : wAt ls c = d.w) (h0 : d.w ≠ 0)
def noArr (d : Nd) : Prop := d.op ≠ 3 ∧ d.op ≠ 4 ∧ d.op ≠ 23 ∧ d.op ≠ 24
theorem wAt_take {ls : List Nd} {j a : Nat} (h : a < j) : wAt (ls.take j) a = wAt ls a := by
  unfold wAt
  rw [List.getElem?_take, if_pos (by simpa using h)]
theorem kidW_in {has j : Int} {K x : Int} {ls : List Nd} (h : kidW has j K ls = some x) (hj : j < has) : ∃ a : Nat, K = a ∧ a < ls.length ∧ x = wAt ls a := by
  unfold kidW at h
  rw [if_neg (by omega)] at h
  split at h
  · cases h
  · injection h with h
    exact ⟨K.toNat, by omega, by omega, by rw [← h]; congr 1; omega⟩
theorem kidW_out {has j : Int} {K x : Int} {ls : List Nd} (h : kidW has j K ls = some x) (hj : has ≤ j) : K = 0 ∧ x = 0 := by
  unfold kidW at h
  rw [if_pos hj] at h
  split at h
  · rename_i h0
    injection h with h
    exact ⟨h0, h.symm⟩
  · cases h
theorem nf_of {ls : List Nd} {j : Nat} {d : Nd} (hj : j ≤ ls.length) (h : rightE d (ls.take j) = 0) (ha : noArr d) (hwf : NdWf d) : NF ls j d := by
  have hl : (ls.take j).length = j := by rw [List.length_take]; omega
  obtain ⟨n3, n4, n23, n24⟩ := ha
  obtain ⟨-, -, ⟨hn0, hn1⟩, -⟩ := hwf
  unfold rightE at h
  split at h
  · cases h
  rename_i hop
  split at h
  · cases h
  rename_i a b c hk
  split at h
  case isFalse => cases h
  rename_i hw
  split at h
  case isFalse => cases h
  rename_i hnum
  unfold kidsR at hk
  split at hk
  case h_2 => cases hk
  rename_i x y z hx hy hz
  injection hk with hk
  injection hk with e1 e2
  injection e2 with e2 e3
  subst e1; subst e2; subst e3
  have hc : d.op = 0 ∨ d.op = 1 ∨ d.op = 2 ∨ d.op = 5 ∨ d.op = 6 ∨ d.op = 7 ∨ (8 ≤ d.op ∧ d.op ≤ 18) ∨ (19 ≤ d.op ∧ d.op ≤ 21) ∨ d.op = 22 := by omega
  rcases hc with e | e | e | e | e | e | e | e | e
  · have hK : kidsI d.op = 0 := by rw [e]; rfl
    rw [hK] at hx hy hz
    rw [e] at hw hnum
    simp only [wideB, leafB, numB, kidsI] at hw hnum
    simp at hw hnum
    refine .const e (by omega) hn0 ?_ ⟨(kidW_out hx (by decide)).1, (kidW_out hy (by decide)).1, (kidW_out hz (by decide)).1⟩
    rcases hw with (h | h) | h
    all_goals
      rw [h] at hnum ⊢
      simp at hnum ⊢
      try omega
  · rw [e] at hw hnum
    simp only [wideB, leafB, numB, kidsI] at hw hnum
    simp at hw hnum
    exact .input e hw hn0 hnum
  · rw [e] at hw hnum
    simp only [wideB, leafB, numB, kidsI] at hw hnum
    simp at hw hnum
    exact .reg e hw hn0 hnum
  · have hK : kidsI d.op = 1 := by rw [e]; rfl
    rw [hK] at hx hy hz
    obtain ⟨A, h1, h2, rfl⟩ := kidW_in hx (by decide)
    rw [hl] at h2
    rw [wAt_take h2] at hw
    rw [e] at hw
    simp only [wideB] at hw
    simp at hw
    exact .not e A h1 h2 hw.2.symm (by rw [hw.2]; exact hw.1) (kidW_out hy (by decide)).1
  · have hK : kidsI d.op = 1 := by rw [e]; rfl
    rw [hK] at hx hy hz
    obtain ⟨A, h1, h2, rfl⟩ := kidW_in hx (by decide)
    rw [hl] at h2
    rw [wAt_take h2] at hw
    rw [e] at hw
    simp only [wideB] at hw
    simp at hw
    exact .wide e A h1 h2 hw.1 hw.2
  · have hK : kidsI d.op = 1 := by rw [e]; rfl
    rw [hK] at hx hy hz
    obtain ⟨A, h1, h2, rfl⟩ := kidW_in hx (by decide)
    rw [hl] at h2
    rw [wAt_take h2] at hw
    rw [e] at hw
    simp only [wideB] at hw
    simp at hw
    exact .low e A h1 h2 hw.1 hw.2
  · have hK : kidsI d.op = 2 := by unfold kidsI; rw [if_neg (by omega), if_neg (by omega), if_pos (by omega)]
    rw [hK] at hx hy hz
    obtain ⟨A, h1, h2, rfl⟩ := kidW_in hx (by decide)
    obtain ⟨B, h3, h4, rfl⟩ := kidW_in hy (by decide)
    rw [hl] at h2 h4
    rw [wAt_take h2, wAt_take h4] at hw
    unfold wideB at hw
    rw [if_neg (by omega), if_neg (by omega), if_neg (by omega), if_neg (by omega), if_neg (by omega), if_neg (by omega), if_neg (by omega), if_neg (by omega)] at hw
    simp at hw
    exact .two e A B h1 h3 h2 h4 hw.2.symm (by rw [← hw.1.2]; exact hw.2.symm) (by rw [hw.2]; exact hw.1.1)
  · have hK : kidsI d.op = 2 := by unfold kidsI; rw [if_neg (by omega), if_neg (by omega), if_pos (by omega)]
    rw [hK] at hx hy hz
    obtain ⟨A, h1, h2, rfl⟩ := kidW_in hx (by decide)
    obtain ⟨B, h3, h4, rfl⟩ := kidW_in hy (by decide)
    rw [hl] at h2 h4
    rw [wAt_take h2, wAt_take h4] at hw
    unfold wideB at hw
    rw [if_neg (by omega), if_neg (by omega), if_neg (by omega), if_pos (by omega)] at hw
    simp at hw
    exact .test e A B h1 h3 h2 h4 hw.2.symm hw.1.2 hw.1.1
  · have hK : kidsI d.op = 3 := by rw [e]; rfl
    rw [hK] at hx hy hz
    obtain ⟨A, h1, h2, rfl⟩ := kidW_in hx (by decide)
    obtain ⟨B, h3, h4, rfl⟩ := kidW_in hy (by decide)
    obtain ⟨C, h5, h6, rfl⟩ := kidW_in hz (by decide)
    rw [hl] at h2 h4 h6
    rw [wAt_take h2, wAt_take h4, wAt_take h6] at hw
    rw [e] at hw
    simp only [wideB] at hw
    simp at hw
    exact .choice e A B C h1 h3 h5 h2 h4 h6 hw.1.1.1 hw.2.symm (by rw [← hw.1.2]; exact hw.2.symm) (by rw [hw.2]; exact hw.1.1.2)
theorem NF.wd {ls : List Nd} {j : Nat} {d : Nd} (h : NF ls j d) (hp : ∀ a, a < j → wAt ls a = 1 ∨ wAt ls a = 8 ∨ wAt ls a = 64) : d.w = 1 ∨ d.w = 8 ∨ d.w = 64 := by
  cases h with
  | const _ hw => exact hw
  | input _ hw => exact .inr (.inl hw)
  | reg _ hw => exact .inr (.inr hw)
  | not _ a _ haj hw => rw [← hw]; exact hp a haj
  | wide _ _ _ _ hw => exact .inr (.inr hw)
  | low _ _ _ _ hw => exact .inr (.inl hw)
  | two _ a _ _ _ haj _ hx => rw [← hx]; exact hp a haj
  | test _ _ _ _ _ _ _ _ _ hw => exact .inl hw
  | choice _ _ b _ _ _ _ _ hbj _ _ hx => rw [← hx]; exact hp b hbj
def TF (ls : List Nd) : Prop := ∀ j d, ls[j]? = some d → NF ls j d
theorem wAt_get {ls : List Nd} {j : Nat} {d : Nd} (h : ls[j]? = some d) : wAt ls j = d.w := by
  unfold wAt
  rw [Int.toNat_natCast, h]
  rfl
theorem TF.wd {ls : List Nd} (h : TF ls) : ∀ (j : Nat), j < ls.length → wAt ls j = 1 ∨ wAt ls j = 8 ∨ wAt ls j = 64 := by
  intro j
  induction j using Nat.strongRecOn with
  | _ j ih =>
    intro hj
    have hd := List.getElem?_eq_getElem hj
    rw [wAt_get hd]
    exact (h j _ hd).wd fun a ha => ih a ha (by omega)
theorem chk_ok {ls : List Nd} : ∀ k, k ≤ ls.length → ls.length ≤ 65536 → chk (ls.take k) (ls.drop k) = (0, 0) → ∀ j d, k ≤ j → ls[j]? = some d → rightE d (ls.take j) = 0 := by
  intro k hk hm h j d hkj hd
  have hjl : j < ls.length := by
    rcases Nat.lt_or_ge j ls.length with h1 | h1
    · exact h1
    · rw [List.getElem?_eq_none h1] at hd; cases hd
  obtain ⟨m, rfl⟩ : ∃ m, j = k + m := ⟨j - k, by omega⟩
  induction m generalizing k with
  | zero =>
    simp only [Nat.add_zero] at hd hjl ⊢
    rw [chk_step hd, if_neg (by omega)] at h
    split at h
    · rename_i hne
      exact absurd (congrArg Prod.fst h) hne
    · rename_i hne
      exact Decidable.not_not.1 hne
  | succ m ih =>
    have hk2 : k < ls.length := by omega
    rw [chk_step (List.getElem?_eq_getElem hk2), if_neg (by omega)] at h
    split at h
    · rename_i hne
      exact absurd (congrArg Prod.fst h) hne
    · have e : k + (m + 1) = k + 1 + m := by omega
      rw [e] at hd hjl ⊢
      exact ih (k + 1) (by omega) h (by omega) hd hjl
theorem tf_of {ls : List Nd} (h : tchk ls = (0, 0)) (hm : ls.length ≤ 65536) (ha : ∀ d ∈ ls, noArr d) (hwf : ∀ d ∈ ls, NdWf d) : TF ls ∧ ls ≠ [] := by
  unfold tchk at h
  split at h
  · injection h with h1 _; cases h1
  rename_i hne
  refine ⟨fun j d hd => ?_, hne⟩
  have hjl : j < ls.length := by
    rcases Nat.lt_or_ge j ls.length with h1 | h1
    · exact h1
    · rw [List.getElem?_eq_none h1] at hd; cases hd
  exact nf_of (by omega) (chk_ok 0 (by omega) hm (by simpa using h) j d (by omega) hd) (ha d (List.mem_of_getElem? hd)) (hwf d (List.mem_of_getElem? hd))
end Go.Proofs.YtmaogkgjiplckaaGreat

