import Derived.Test.YtmaogkgjiplckaaSQ
import Derived.Test.YtmaogkgjiplckaaWMk
set_option linter.unusedSimpArgs false
set_option linter.unusedVariables false
namespace Go.Proofs.Ytmaogkgjiplckaa
open Go.RowKit
theorem own_addr {w : World} {B n c : Nat} {a : Option Addr} {l : List Value} (h : w.ownsRow B 3 1 (.slice a n c) n l) (hn : 1 ≤ n) : ∃ g, a = some ⟨g, 0, none⟩ := by
  rcases h.2 with ⟨e, h0⟩ | ⟨g, cap, cur, e, _⟩
  · omega
  · injection e with e; exact ⟨g, e⟩
theorem RowI.ofOwns2 {w : World} {base : Nat} {g n c : Nat} {l : List Int} (h : w.ownsRow base 3 1 (.slice (some ⟨g, 0, none⟩) n c) n (l.map (Value.int .i64))) : RowI w g 0 l := by
  have hl : l.length = n := by simpa using h.1
  subst hl
  exact RowI.ofOwns h
theorem own_slx {w : World} {base : Nat} {v : Value} {n : Nat} {l : List Int} (h : w.ownsRow base 3 1 v n (l.map (Value.int .i64))) {l' : List Int} (e : l = l') : SlX (fun _ => True) w v l' := by
  subst e
  have hl : l.length = n := by simpa using h.1
  subst hl
  exact SlX.ofOwns h fun _ _ _ => trivial
theorem app_turn {Y : Nat → Prop} {base gb B n m : Nat} {w w' : World} {g : G} {v v' : Value} {l l' : List Value} (ho : w.ownsRow B 3 1 v n l) (ho' : w'.ownsRow B 3 1 v' m l') (hg : w.grownBy w' v.ownBlock) (hl : v'.ownBlock = v.ownBlock ∨ v'.ownBlock = some w.heap.size) (hG : GR Y base w gb g) (hY : ∀ k, v.ownBlock = some k → Y k) : GR (fun k => Y k ∨ v'.ownBlock = some k) base w' gb g := by
  have hx := hG.xb
  refine hG.turn hg hY ?_ ?_
  · rintro k (h | h)
    · exact .inl h
    · rcases hl with e | e
      · rw [e] at h; exact .inl (hY k h)
      · rw [e] at h; cases h; exact .inr (Nat.le_refl _)
  · rintro k (h | h)
    · exact Nat.lt_of_lt_of_le (hx k h) hg.size
    · exact (ho'.lt k h).2
theorem rmask_N {N : Nat} (w : World) (hN : 1 ≤ N ∧ N ≤ 64) : Calls Try.prog 16 #[.int .i64 N] w fun e w' => e = .returned (.int .u64 ((2 ^ N - 1 : Nat) : Int)) ∧ Below w.heap.size w w' := by
  have h := rmask_any (N : Int) w
  rw [wid_in hN] at h
  exact h
set_option maxRecDepth 100000 in
set_option maxHeartbeats 4000000 in
theorem chooses_walk (W x y : Int) (c : Bool) (w : World) (hx0 : 0 ≤ x) (hx1 : x < 18446744073709551616) (hy0 : 0 ≤ y) (hy1 : y < 18446744073709551616) :
    Calls Try.prog 3 #[.int .i64 W, .int .u64 x, .int .u64 y, .bool c] w fun e w' => e = .returned (.bool true) ∧ Below w.heap.size w w' := by
  by_cases hlo : W < 1
  · go_enter Try.func3, Try.ntmps3
    (repeat (first | (with_reducible first | refine xA ?_ | refine xB ?_ | refine xC ?_ | refine xD ?_ | refine xH ?_ | refine xI rfl ?_ | refine xE ?_ | refine xF ?_ | refine xG ?_) | go_skip | go_guarded | (go_at_call 9; (with_reducible refine (awake_any _).mono ?_); rintro _ w0 ⟨rfl, hb0⟩; have HB : Kept (fun k => k < w.heap.size) w w0 := Kept.ofBelow hb0; clear hb0) | go_values | go_skip | go_guarded | go_step | go_upon | go_back | (show Oper.upon _ _ _ _ _ _; go_simp) | (dsimp only)))
    go_ret
    exact ⟨rfl, HB.toBelow (Nat.le_refl _) fun _ h => h⟩
  by_cases hhi : W > 64
  · go_enter Try.func3, Try.ntmps3
    (repeat (first | (with_reducible first | refine xA ?_ | refine xB ?_ | refine xC ?_ | refine xD ?_ | refine xH ?_ | refine xI rfl ?_ | refine xE ?_ | refine xF ?_ | refine xG ?_) | go_skip | go_guarded | (go_at_call 9; (with_reducible refine (awake_any _).mono ?_); rintro _ w0 ⟨rfl, hb0⟩; have HB : Kept (fun k => k < w.heap.size) w w0 := Kept.ofBelow hb0; clear hb0) | go_values | go_skip | go_guarded | go_step | go_upon | go_back | (show Oper.upon _ _ _ _ _ _; go_simp) | (dsimp only)))
    go_ret
    exact ⟨rfl, HB.toBelow (Nat.le_refl _) fun _ h => h⟩
  obtain ⟨N, rfl⟩ := Int.eq_ofNat_of_zero_le (show 0 ≤ W by omega)
  have hN : 1 ≤ N ∧ N ≤ 64 := by omega
  have HN1 := Lib.hid (show newG.n + N ≤ 1048576 by show 1 + N ≤ _; omega)
  have HN2 := Lib.hid (show (addV newG N).n + N ≤ 1048576 by show 1 + N + N ≤ _; omega)
  have HN3 := Lib.hid (show (gTwo N).n < 1048576 by show 1 + N + N < _; omega)
  have HN4 := Lib.hid (show (gThree N).n + 192 ≤ 1048576 by show 1 + N + N + 1 + 192 ≤ _; omega)
  obtain ⟨z, hz⟩ : ∃ z : Int, ((gTwo N).n : Int) + 1 = z := ⟨_, rfl⟩
  have hzb : 3 ≤ z ∧ z ≤ 200 := by have : (gTwo N).n = 1 + N + N := rfl; omega
  have HZ := Lib.hid hz
  obtain ⟨s3, hp⟩ := chooses_plain N x.toNat y.toNat c z hz
  obtain ⟨r1, hr1⟩ : ∃ r, chooseG (gThree N) z (freeL newG.n N) (freeL (addV newG N).n N) = r := ⟨_, rfl⟩
  obtain ⟨r2, hr2⟩ : ∃ r, chooseG r1.1 (-z) (freeL newG.n N) (freeL (addV newG N).n N) = r := ⟨_, rfl⟩
  obtain ⟨s4, s5, i4, i5, n4, n4', n5, n5', l1, l2, v1, v2⟩ := choose_two hp.1 hp.2.1 hp.2.2.2.1 hp.2.2.2.2.1 (freeL_len _ _) (freeL_len _ _) hp.2.2.2.2.2.1 hp.2.2.2.2.2.2 hr1 hr2
  have HP := Lib.hid hp
  have HR1 := Lib.hid hr1
  have HR2 := Lib.hid hr2
  have hn3 : (gThree N).n = 1 + N + N + 1 := rfl
  have HN5 := Lib.hid (show r1.1.n + 192 ≤ 1048576 by omega)
  have HN6 := Lib.hid (show r2.1.n ≤ 1048576 by omega)
  have HI4 := Lib.hid i4
  have HL4 := Lib.hid (show ∀ a, isL (gThree N).n a → isL r1.1.n a from fun a h => h.mono n4)
  have HM1 := Lib.hid l1
  have HM2 := Lib.hid l2
  have HL1 := Lib.hid (show r1.2.length ≤ 64 by rw [← hr1]; unfold chooseG; rw [zipG_len _ _ _ _ (by rw [freeL_len, freeL_len]), freeL_len]; omega)
  have HL2 := Lib.hid (show r2.2.length ≤ 64 by rw [← hr2]; unfold chooseG; rw [zipG_len _ _ _ _ (by rw [freeL_len, freeL_len]), freeL_len]; omega)
  have hmx := mask_and hN hx0 hx1
  have hmy := mask_and hN hy0 hy1
  have hlz := hp.2.2.1
  rw [hlz] at v1 v2
  have HI5 := Lib.hid i5
  have hfn : (fromL newG.n N x.toNat ++ fromL (addV newG N).n N y.toNat ++ [if c then z else -z]).length ≤ 1000000 := by simp [fromL_len]; omega
  have HFN := Lib.hid hfn
  obtain ⟨X2, hX2⟩ : ∃ X2 : Nat, x.toNat % 2 ^ N = X2 := ⟨_, rfl⟩
  obtain ⟨Y2, hY2⟩ : ∃ Y2 : Nat, y.toNat % 2 ^ N = Y2 := ⟨_, rfl⟩
  rw [hX2] at hmx
  rw [hY2] at hmy
  clear hz hp hr1 hr2 i4 i5 n4 n4' n5 n5' l1 l2 hlz hfn hn3
  cases c
  · simp only [Bool.false_eq_true, if_false] at v1 v2 HI5 HFN HP
    rw [hY2] at v1
    rw [hX2] at v2
    have HV1 := Lib.hid v1
    have HV2 := Lib.hid v2
    clear v1 v2 hX2 hY2
    go_enter Try.func3, Try.ntmps3
    (repeat (first | (with_reducible first | refine xA ?_ | refine xB ?_ | refine xC ?_ | refine xD ?_ | refine xH ?_ | refine xI rfl ?_ | refine xE ?_ | refine xF ?_ | refine xG ?_) | go_skip | go_guarded | (go_at_call 9; (with_reducible refine (awake_any _).mono ?_); rintro _ w0 ⟨rfl, hb0⟩; have HB : Kept (fun k => k < w.heap.size) w w0 := Kept.ofBelow hb0; clear hb0) | (go_at_call 10; (with_reducible refine (New_any (X := fun k => k < w.heap.size) _ (fun k h => Nat.lt_of_lt_of_le h HB.size)).mono ?_); rintro _ w1 ⟨gb, rfl, hG, hb1⟩; replace HB := HB.trans (Kept.ofBelow hb1); have HBA := Lib.hid hb1.size; clear hb1) | (go_at_call 11; (with_reducible refine (free_law _ hG N x hx0 hx1 (by omega) HN1.out).mono ?_); rintro _ w2 ⟨a1, a2, c1, c2, S1, rfl, hG2, hA, hFA, hFB, hk2⟩; have HW1 := Lib.hid HB.size; have HBB := Lib.hid hk2.size; replace HB := HB.trans hk2; replace HBA := Lib.hid (Nat.le_trans HBA.out hk2.size); clear hk2 hG) | (go_at_call 11; (with_reducible refine (free_law _ hG2 N y hy0 hy1 (by omega) HN2.out).mono ?_); rintro _ w3 ⟨a3, a4, c3, c4, S2, rfl, hG3, hB, hMA, hMB, hk3⟩; replace HB := HB.trans (hk3.mono fun _ _ h => Or.inl h); replace HBA := Lib.hid (Nat.le_trans HBA.out hk3.size); replace HBB := Lib.hid (Nat.le_trans HBB.out hk3.size); replace hA := (hA.kept hk3).mono (Y := fun k => (k < w.heap.size ∨ S1 k) ∨ S2 k) (fun _ _ h => Or.inl h); replace hFA := owns_kept hFA hk3 (fun k e => Or.inr (hFB k e)); obtain ⟨g4, hg4⟩ := own_addr hMA hN.1; subst hg4; replace hG3 : GR (fun k => (k < w.heap.size ∨ S1 k) ∨ S2 k) w0.heap.size w3 gb (gTwo N) := hG3; clear hk3 hG2) | (go_at_call 12; (with_reducible refine (Free_at _ z hG3 HN3.out HZ.out).mono ?_); rintro _ w4 ⟨rfl, hG4, hk4⟩; replace HB := HB.trans (hk4.mono fun _ _ h => Or.inl (Or.inl h)); replace HBA := Lib.hid (Nat.le_trans HBA.out hk4.size); replace HBB := Lib.hid (Nat.le_trans HBB.out hk4.size); replace hA := hA.kept hk4; replace hB := hB.kept hk4; replace hFA := owns_kept hFA hk4 (fun k e => Or.inl (Or.inr (hFB k e))); replace hMA := owns_kept hMA hk4 (fun k e => Or.inr (hMB k e)); have HFL : Hid (∀ k, (Value.slice a2 N c2).ownBlock = some k → k < w4.heap.size) := Lib.hid (fun k e => (hFA.lt k e).2); replace hG4 : GR (fun k => (k < w.heap.size ∨ S1 k) ∨ S2 k) w0.heap.size w4 gb (gThree N) := hG4; clear hk4 hG3) | (go_at_call 13; (with_reducible refine (choose_law w4 hG4 HBA.out z N _ _ _ _ _ _ (freeL_len _ _) (freeL_len _ _) hA hB hN.1 hN.2 HN4.out HP.out.1 HP.out.2.1 HP.out.2.2.2.1 HP.out.2.2.2.2.1 r1 HR1).mono ?_); rintro _ w5 ⟨q1, rfl, hO1, hq1, hG5, hk5⟩; replace HB := HB.trans (hk5.mono fun _ _ h => Or.inl (Or.inl h)); replace HBA := Lib.hid (Nat.le_trans HBA.out hk5.size); replace HBB := Lib.hid (Nat.le_trans HBB.out hk5.size); replace hA := (hA.kept hk5).mono (Y := fun k => ((k < w.heap.size ∨ S1 k) ∨ S2 k) ∨ k = q1) (fun _ _ h => Or.inl h); replace hB := (hB.kept hk5).mono (Y := fun k => ((k < w.heap.size ∨ S1 k) ∨ S2 k) ∨ k = q1) (fun _ _ h => Or.inl h); replace hFA := owns_kept hFA hk5 (fun k e => Or.inl (Or.inr (hFB k e))); replace hMA := owns_kept hMA hk5 (fun k e => Or.inr (hMB k e)); have hs5 := hk5.size; clear hk5 hG4) | (go_at_call 13; (with_reducible refine (choose_law w5 hG5 HBA.out (-z) N _ _ _ _ _ _ (freeL_len _ _) (freeL_len _ _) hA hB hN.1 hN.2 HN5.out HI4.out (HL4.out _ HP.out.2.1.neg) (fun a h => HL4.out _ (HP.out.2.2.2.1 a h)) (fun a h => HL4.out _ (HP.out.2.2.2.2.1 a h)) r2 HR2).mono ?_); rintro _ w6 ⟨q2, rfl, hO2, hq2, hG6, hk6⟩; replace HB := HB.trans (hk6.mono fun _ _ h => Or.inl (Or.inl (Or.inl h))); replace HBA := Lib.hid (Nat.le_trans HBA.out hk6.size); replace HBB := Lib.hid (Nat.le_trans HBB.out hk6.size); replace hO1 := hO1.kept hk6 (Or.inr rfl); replace hFA := owns_kept hFA hk6 (fun k e => Or.inl (Or.inl (Or.inr (hFB k e)))); replace hMA := owns_kept hMA hk6 (fun k e => Or.inl (Or.inr (hMB k e))); have hq2l := hO2.lt; have hq1l := hO1.lt; clear hk6 hG5 hA hB) | (go_at_call 14; (with_reducible refine (told_any (Y := fun _ => True) w8 hG8 HI5.out _ HF8.out HFN.out).mono ?_); rintro _ w9 ⟨v, rfl, hv, hO9, -, hb9⟩; obtain ⟨av, cv, rfl⟩ := hv; replace HB := HB.trans (Kept.ofBelow hb9); have HS1 := Lib.hid (hO1.kept (Kept.ofBelow (X := fun _ => True) hb9) trivial).slx; have HS2 := Lib.hid (hO2.kept (Kept.ofBelow (X := fun _ => True) hb9) trivial).slx; have HTD := Lib.hid (told_sl hO9); clear hb9 hO9 hG8 hO1 hO2) | (go_at_call 15; (with_reducible refine (Word_any _ _ _ _ s5 HTD.out _ HS1.out HM1.out HN6.out HL1.out _ HV1).mono ?_); rintro _ w10 ⟨rfl, rfl⟩; clear HS1) | (go_at_call 15; (with_reducible refine (Word_any _ _ _ _ s5 HTD.out _ HS2.out HM2.out HN6.out HL2.out _ HV2).mono ?_); rintro _ w10 ⟨rfl, rfl⟩) | (go_at_call 16; (with_reducible refine (rmask_N _ hN).mono ?_); rintro _ w11 ⟨rfl, hbm⟩; replace HB := HB.trans (Kept.ofBelow hbm); clear hbm) | ((with_reducible refine wl_id ?_); refine wl_push rfl _ _ rfl w1.heap.size v7 (N + N) _ rfl (hO7.alloc _) w7.heap.size (-z) rfl (cell_new _ _ _) (by omega) (by have := HBB.out; simp; omega) ?_; intro v8 w8 hO8 hg8 hl8; have hG8 := (HT.out.alloc (.cells #[.int .i64 ((-z))] 3)).turn (Y' := fun k => k < w.heap.size) hg8 (fun q e => Or.inr e) (fun k h => Or.inl (Or.inl (Or.inl (Or.inl (Or.inl (Or.inl h)))))) (fun k h => Nat.lt_of_lt_of_le h (Nat.le_trans HB.size (Nat.le_trans (by simp) hg8.size))); have hk8 : Kept (fun k => k < w.heap.size ∨ k = q1 ∨ k = q2) w7 w8 := ((Kept.refl _ w7).alloc (.cells #[.int .i64 ((-z))] 3)).grown hg8 (fun q e hl hx => by have h1 := (hO7.lt q e).1; have h3 := HW1.out; rcases hl7 with h4 | h4 <;> (rw [h4] at e); (· have h5 := HFL.out q e; omega); (· cases e; omega)); replace HB := HB.trans (hk8.mono fun _ _ h => Or.inl h); replace hO1 := hO1.kept hk8 (Or.inr (Or.inl rfl)); replace hO2 := hO2.kept hk8 (Or.inr (Or.inr rfl)); have HF8 := Lib.hid (own_slx hO8 rfl); clear hk8 hg8 hO7 hl7 hl8 HT; (try simp only [Act.put, List.setIfInBounds_toArray, List.set_cons_succ, List.set_cons_zero])) | ((with_reducible refine wl_id ?_); refine wl_appendI rfl _ _ rfl w1.heap.size (.slice a2 N c2) N _ rfl hFA g4 0 N c4 _ rfl (fromL_len _ _ _) (RowI.ofOwns2 hMA) (by omega) HBB.out ?_; intro v7 w7 hO7 hg7 hl7; have HT := Lib.hid (app_turn hFA hO7 hg7 hl7 hG6 (fun k e => Or.inl (Or.inl (Or.inl (Or.inr (hFB k e)))))); have hk7 : Kept (fun k => k < w.heap.size ∨ k = q1 ∨ k = q2) w6 w7 := (Kept.refl _ w6).grown hg7 (fun q e hl hx => by have h1 := HFL.out q e; have h2 := (hFA.lt q e).1; have h3 := HW1.out; omega); replace HB := HB.trans (hk7.mono fun _ _ h => Or.inl h); replace hO1 := hO1.kept hk7 (Or.inr (Or.inl rfl)); replace hO2 := hO2.kept hk7 (Or.inr (Or.inr rfl)); replace HBB := Lib.hid (Nat.le_trans HBB.out hg7.size); clear hk7 hg7 hFA hMA hG6; (try simp only [Act.put, List.setIfInBounds_toArray, List.set_cons_succ, List.set_cons_zero])) | go_values | go_skip | go_guarded | go_step | go_upon | go_back | (show Oper.upon _ _ _ _ _ _; go_simp) | (dsimp only)))
    go_ret
    exact ⟨rfl, HB.toBelow (Nat.le_refl _) fun _ h => h⟩
  · simp only [if_true] at v1 v2 HI5 HFN HP
    rw [hX2] at v1
    rw [hY2] at v2
    have HV1 := Lib.hid v1
    have HV2 := Lib.hid v2
    clear v1 v2 hX2 hY2
    go_enter Try.func3, Try.ntmps3
    (repeat (first | (with_reducible first | refine xA ?_ | refine xB ?_ | refine xC ?_ | refine xD ?_ | refine xH ?_ | refine xI rfl ?_ | refine xE ?_ | refine xF ?_ | refine xG ?_) | go_skip | go_guarded | (go_at_call 9; (with_reducible refine (awake_any _).mono ?_); rintro _ w0 ⟨rfl, hb0⟩; have HB : Kept (fun k => k < w.heap.size) w w0 := Kept.ofBelow hb0; clear hb0) | (go_at_call 10; (with_reducible refine (New_any (X := fun k => k < w.heap.size) _ (fun k h => Nat.lt_of_lt_of_le h HB.size)).mono ?_); rintro _ w1 ⟨gb, rfl, hG, hb1⟩; replace HB := HB.trans (Kept.ofBelow hb1); have HBA := Lib.hid hb1.size; clear hb1) | (go_at_call 11; (with_reducible refine (free_law _ hG N x hx0 hx1 (by omega) HN1.out).mono ?_); rintro _ w2 ⟨a1, a2, c1, c2, S1, rfl, hG2, hA, hFA, hFB, hk2⟩; have HW1 := Lib.hid HB.size; have HBB := Lib.hid hk2.size; replace HB := HB.trans hk2; replace HBA := Lib.hid (Nat.le_trans HBA.out hk2.size); clear hk2 hG) | (go_at_call 11; (with_reducible refine (free_law _ hG2 N y hy0 hy1 (by omega) HN2.out).mono ?_); rintro _ w3 ⟨a3, a4, c3, c4, S2, rfl, hG3, hB, hMA, hMB, hk3⟩; replace HB := HB.trans (hk3.mono fun _ _ h => Or.inl h); replace HBA := Lib.hid (Nat.le_trans HBA.out hk3.size); replace HBB := Lib.hid (Nat.le_trans HBB.out hk3.size); replace hA := (hA.kept hk3).mono (Y := fun k => (k < w.heap.size ∨ S1 k) ∨ S2 k) (fun _ _ h => Or.inl h); replace hFA := owns_kept hFA hk3 (fun k e => Or.inr (hFB k e)); obtain ⟨g4, hg4⟩ := own_addr hMA hN.1; subst hg4; replace hG3 : GR (fun k => (k < w.heap.size ∨ S1 k) ∨ S2 k) w0.heap.size w3 gb (gTwo N) := hG3; clear hk3 hG2) | (go_at_call 12; (with_reducible refine (Free_at _ z hG3 HN3.out HZ.out).mono ?_); rintro _ w4 ⟨rfl, hG4, hk4⟩; replace HB := HB.trans (hk4.mono fun _ _ h => Or.inl (Or.inl h)); replace HBA := Lib.hid (Nat.le_trans HBA.out hk4.size); replace HBB := Lib.hid (Nat.le_trans HBB.out hk4.size); replace hA := hA.kept hk4; replace hB := hB.kept hk4; replace hFA := owns_kept hFA hk4 (fun k e => Or.inl (Or.inr (hFB k e))); replace hMA := owns_kept hMA hk4 (fun k e => Or.inr (hMB k e)); have HFL : Hid (∀ k, (Value.slice a2 N c2).ownBlock = some k → k < w4.heap.size) := Lib.hid (fun k e => (hFA.lt k e).2); replace hG4 : GR (fun k => (k < w.heap.size ∨ S1 k) ∨ S2 k) w0.heap.size w4 gb (gThree N) := hG4; clear hk4 hG3) | (go_at_call 13; (with_reducible refine (choose_law w4 hG4 HBA.out z N _ _ _ _ _ _ (freeL_len _ _) (freeL_len _ _) hA hB hN.1 hN.2 HN4.out HP.out.1 HP.out.2.1 HP.out.2.2.2.1 HP.out.2.2.2.2.1 r1 HR1).mono ?_); rintro _ w5 ⟨q1, rfl, hO1, hq1, hG5, hk5⟩; replace HB := HB.trans (hk5.mono fun _ _ h => Or.inl (Or.inl h)); replace HBA := Lib.hid (Nat.le_trans HBA.out hk5.size); replace HBB := Lib.hid (Nat.le_trans HBB.out hk5.size); replace hA := (hA.kept hk5).mono (Y := fun k => ((k < w.heap.size ∨ S1 k) ∨ S2 k) ∨ k = q1) (fun _ _ h => Or.inl h); replace hB := (hB.kept hk5).mono (Y := fun k => ((k < w.heap.size ∨ S1 k) ∨ S2 k) ∨ k = q1) (fun _ _ h => Or.inl h); replace hFA := owns_kept hFA hk5 (fun k e => Or.inl (Or.inr (hFB k e))); replace hMA := owns_kept hMA hk5 (fun k e => Or.inr (hMB k e)); have hs5 := hk5.size; clear hk5 hG4) | (go_at_call 13; (with_reducible refine (choose_law w5 hG5 HBA.out (-z) N _ _ _ _ _ _ (freeL_len _ _) (freeL_len _ _) hA hB hN.1 hN.2 HN5.out HI4.out (HL4.out _ HP.out.2.1.neg) (fun a h => HL4.out _ (HP.out.2.2.2.1 a h)) (fun a h => HL4.out _ (HP.out.2.2.2.2.1 a h)) r2 HR2).mono ?_); rintro _ w6 ⟨q2, rfl, hO2, hq2, hG6, hk6⟩; replace HB := HB.trans (hk6.mono fun _ _ h => Or.inl (Or.inl (Or.inl h))); replace HBA := Lib.hid (Nat.le_trans HBA.out hk6.size); replace HBB := Lib.hid (Nat.le_trans HBB.out hk6.size); replace hO1 := hO1.kept hk6 (Or.inr rfl); replace hFA := owns_kept hFA hk6 (fun k e => Or.inl (Or.inl (Or.inr (hFB k e)))); replace hMA := owns_kept hMA hk6 (fun k e => Or.inl (Or.inr (hMB k e))); have hq2l := hO2.lt; have hq1l := hO1.lt; clear hk6 hG5 hA hB) | (go_at_call 14; (with_reducible refine (told_any (Y := fun _ => True) w8 hG8 HI5.out _ HF8.out HFN.out).mono ?_); rintro _ w9 ⟨v, rfl, hv, hO9, -, hb9⟩; obtain ⟨av, cv, rfl⟩ := hv; replace HB := HB.trans (Kept.ofBelow hb9); have HS1 := Lib.hid (hO1.kept (Kept.ofBelow (X := fun _ => True) hb9) trivial).slx; have HS2 := Lib.hid (hO2.kept (Kept.ofBelow (X := fun _ => True) hb9) trivial).slx; have HTD := Lib.hid (told_sl hO9); clear hb9 hO9 hG8 hO1 hO2) | (go_at_call 15; (with_reducible refine (Word_any _ _ _ _ s5 HTD.out _ HS1.out HM1.out HN6.out HL1.out _ HV1).mono ?_); rintro _ w10 ⟨rfl, rfl⟩; clear HS1) | (go_at_call 15; (with_reducible refine (Word_any _ _ _ _ s5 HTD.out _ HS2.out HM2.out HN6.out HL2.out _ HV2).mono ?_); rintro _ w10 ⟨rfl, rfl⟩) | (go_at_call 16; (with_reducible refine (rmask_N _ hN).mono ?_); rintro _ w11 ⟨rfl, hbm⟩; replace HB := HB.trans (Kept.ofBelow hbm); clear hbm) | ((with_reducible refine wl_id ?_); refine wl_push rfl _ _ rfl w1.heap.size v7 (N + N) _ rfl (hO7.alloc _) w7.heap.size z rfl (cell_new _ _ _) (by omega) (by have := HBB.out; simp; omega) ?_; intro v8 w8 hO8 hg8 hl8; have hG8 := (HT.out.alloc (.cells #[.int .i64 (z)] 3)).turn (Y' := fun k => k < w.heap.size) hg8 (fun q e => Or.inr e) (fun k h => Or.inl (Or.inl (Or.inl (Or.inl (Or.inl (Or.inl h)))))) (fun k h => Nat.lt_of_lt_of_le h (Nat.le_trans HB.size (Nat.le_trans (by simp) hg8.size))); have hk8 : Kept (fun k => k < w.heap.size ∨ k = q1 ∨ k = q2) w7 w8 := ((Kept.refl _ w7).alloc (.cells #[.int .i64 (z)] 3)).grown hg8 (fun q e hl hx => by have h1 := (hO7.lt q e).1; have h3 := HW1.out; rcases hl7 with h4 | h4 <;> (rw [h4] at e); (· have h5 := HFL.out q e; omega); (· cases e; omega)); replace HB := HB.trans (hk8.mono fun _ _ h => Or.inl h); replace hO1 := hO1.kept hk8 (Or.inr (Or.inl rfl)); replace hO2 := hO2.kept hk8 (Or.inr (Or.inr rfl)); have HF8 := Lib.hid (own_slx hO8 rfl); clear hk8 hg8 hO7 hl7 hl8 HT; (try simp only [Act.put, List.setIfInBounds_toArray, List.set_cons_succ, List.set_cons_zero])) | ((with_reducible refine wl_id ?_); refine wl_appendI rfl _ _ rfl w1.heap.size (.slice a2 N c2) N _ rfl hFA g4 0 N c4 _ rfl (fromL_len _ _ _) (RowI.ofOwns2 hMA) (by omega) HBB.out ?_; intro v7 w7 hO7 hg7 hl7; have HT := Lib.hid (app_turn hFA hO7 hg7 hl7 hG6 (fun k e => Or.inl (Or.inl (Or.inl (Or.inr (hFB k e)))))); have hk7 : Kept (fun k => k < w.heap.size ∨ k = q1 ∨ k = q2) w6 w7 := (Kept.refl _ w6).grown hg7 (fun q e hl hx => by have h1 := HFL.out q e; have h2 := (hFA.lt q e).1; have h3 := HW1.out; omega); replace HB := HB.trans (hk7.mono fun _ _ h => Or.inl h); replace hO1 := hO1.kept hk7 (Or.inr (Or.inl rfl)); replace hO2 := hO2.kept hk7 (Or.inr (Or.inr rfl)); replace HBB := Lib.hid (Nat.le_trans HBB.out hg7.size); clear hk7 hg7 hFA hMA hG6; (try simp only [Act.put, List.setIfInBounds_toArray, List.set_cons_succ, List.set_cons_zero])) | go_values | go_skip | go_guarded | go_step | go_upon | go_back | (show Oper.upon _ _ _ _ _ _; go_simp) | (dsimp only)))
    go_ret
    exact ⟨rfl, HB.toBelow (Nat.le_refl _) fun _ h => h⟩

end Go.Proofs.Ytmaogkgjiplckaa
