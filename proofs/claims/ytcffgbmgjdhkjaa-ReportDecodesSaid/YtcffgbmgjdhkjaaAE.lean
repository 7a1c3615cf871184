import Derived.Test.YtcffgbmgjdhkjaaAD
set_option linter.unusedSimpArgs false
set_option linter.unusedVariables false
namespace Go.Proofs.Ytcffgbmgjdhkjaa
open Go.RowKit

def readP (b : List Int) : PR Rp :=
  if b.length < 4 then .err 1 b.length else
  if SubB b 0 4 ≠ [66, 82, 82, 80] then .err 2 0 else
  match numP b 4 1 1 5 with
  | .err E q => .err E q
  | .ok v p0 => match numP b p0 1 0 18 with
    | .err E q => .err E q
    | .ok e p1 => match numP b p1 2 0 65535 with
      | .err E q => .err E q
      | .ok a p2 => match numP b p2 2 0 4096 with
        | .err E q => .err E q
        | .ok n p3 => match manyP (preP b) n.toNat p3 with
          | .err E q => .err E q
          | .ok ps p4 => if p4 < b.length then .err 6 p4 else .ok ⟨v, e, a, ps⟩ p4

def RdDone (w : World) (r : PR Rp) (e : Ending) (w' : World) : Prop :=
  Below w.heap.size w w' ∧ match r with
    | .ok x _ => ∃ v, e = .returned (.tuple #[.agg #[.int .i64 x.v, .int .i64 x.e, .int .i64 x.a, v], .int .i64 0, .int .i64 0]) ∧ ∃ ts, SlT 43 3 tripc w' v ts ∧ PresT w' ts x.pres
    | .err E p => ∃ x y z a n c, e = .returned (.tuple #[.agg #[.int .i64 x, .int .i64 y, .int .i64 z, .slice a n c], .int .i64 E, .int .i64 p])


theorem below_of_grown {w w' : World} (h : w.grownBy w' none) : Below w.heap.size w w' := ⟨h.os, h.tape, h.output, h.size, fun k hk => h.block k hk (by simp)⟩

theorem st22 (g i : Nat) (cs : Array Value) (t : TypeId) (n : Int) (hi : i < cs.size) (w : World) (hg : w.heap[g]? = some (.cells cs t (0, 0))) :
    (Instr.storeAt 22 (.pointer (some ⟨g, i, none⟩)) (.int .i64 n)).run Try.prog w = .ok () (w.setCell ⟨g, i, none⟩ (.int .i64 n)) := by
  have hc : w.cell? ⟨g, i, none⟩ = some cs[i] := by rw [cell_of_row w g i cs t _ hg]; simp [hi]
  have hf := frozen_of_row w g i cs t hg
  go_simp
theorem st23 (g i : Nat) (cs : Array Value) (t : TypeId) (a : Option Addr) (n c : Nat) (hi : i < cs.size) (w : World) (hg : w.heap[g]? = some (.cells cs t (0, 0))) :
    (Instr.storeAt 23 (.pointer (some ⟨g, i, none⟩)) (.slice a n c)).run Try.prog w = .ok () (w.setCell ⟨g, i, none⟩ (.slice a n c)) := by
  have hc : w.cell? ⟨g, i, none⟩ = some cs[i] := by rw [cell_of_row w g i cs t _ hg]; simp [hi]
  have hf := frozen_of_row w g i cs t hg
  go_simp

theorem manyPre_n {b : List Int} (hb : ByteL b) : ∀ (n : Nat) (p : Int) (xs : List Pr) (q : Int), manyP (preP b) n p = .ok xs q → 0 ≤ p → p ≤ b.length → 0 ≤ q ∧ q ≤ b.length := by
  intro n
  induction n with
  | zero => intro p xs q h h0 hL; simp only [manyP] at h; injection h with e1 e2; subst e2; exact ⟨h0, hL⟩
  | succ n ih =>
    intro p xs q h h0 hL
    simp only [manyP] at h
    split at h
    · cases h
    · rename_i x q1 e1
      have k1 := preP_n hb e1 h0 hL
      split at h
      · cases h
      · rename_i ys q2 e2
        injection h with e3 e4
        subst e4
        exact ih _ _ _ e2 k1.1 k1.2

theorem listpre_ok (w0 : World) (vb : Value) (b : List Int) (Rb : Nat) (at0 N : Int) (hN0 : 0 ≤ N) (hN : N ≤ 65536) (w : World) (hI : RIn w0 vb b Rb w) (hR : RD w Rb vb at0) (h0 : 0 ≤ at0) (h1 : at0 ≤ b.length) (xs : List Pr) (p : Int) (hr : Hid (manyP (preP b) N.toNat at0 = .ok xs p)) :
    Calls Try.prog 38 #[.int .u64 N, .func (Fn.func 39) #[.pointer (some ⟨Rb, 0, none⟩)] #[]] w fun e w' => ∃ a n c ts, e = .returned (.slice a n c) ∧ SlT 43 3 tripc w' (.slice a n c) ts ∧ PresT w' ts xs ∧ w.grownBy w' (some Rb) ∧ RD w' Rb vb p := by
  obtain ⟨n, rfl⟩ := Int.eq_ofNat_of_zero_le hN0
  have := listpre_any w0 vb b Rb at0 n (by omega) w hI hR h0 h1
  rw [Int.toNat_natCast] at hr
  rw [hr.out] at this
  refine this.mono ?_
  rintro e w' ⟨hg, v, ts, rfl, hs, hp, hR2⟩
  obtain ⟨a, c, rfl⟩ := hs.sl.shape
  exact ⟨_, _, _, ts, rfl, hs, hp, hg, hR2⟩
theorem listpre_err (w0 : World) (vb : Value) (b : List Int) (Rb : Nat) (at0 N : Int) (hN0 : 0 ≤ N) (hN : N ≤ 65536) (w : World) (hI : RIn w0 vb b Rb w) (hR : RD w Rb vb at0) (h0 : 0 ≤ at0) (h1 : at0 ≤ b.length) (E p : Int) (hr : Hid (manyP (preP b) N.toNat at0 = .err E p)) :
    Calls Try.prog 38 #[.int .u64 N, .func (Fn.func 39) #[.pointer (some ⟨Rb, 0, none⟩)] #[]] w fun e w' => e = stopped E p ∧ w.grownBy w' (some Rb) := by
  obtain ⟨n, rfl⟩ := Int.eq_ofNat_of_zero_le hN0
  have := listpre_any w0 vb b Rb at0 n (by omega) w hI hR h0 h1
  rw [Int.toNat_natCast] at hr
  rw [hr.out] at this
  exact this.mono fun e w' ⟨hg, he⟩ => ⟨he, hg⟩

theorem same_at {w w' : World} {g : Nat} {o : Obj} (hg : w.grownBy w' (some g)) (h : w.heap[g]? = some o) (h' : w'.heap[g]? = some o) (k : Nat) (hk : k < w.heap.size) : w'.heap[k]? = w.heap[k]? := by
  by_cases e : k = g
  · subst e; rw [h, h']
  · exact hg.block k hk (fun e2 => e (by injection e2))

theorem brrp (l : List Int) (hl : ByteL l) : ((strOfNums l).toList == [66, 82, 82, 80]) = decide (l = [66, 82, 82, 80]) := by
  rw [ByteArray.toList_eq, Bool.eq_iff_iff]
  simp only [beq_iff_eq, decide_eq_true_eq]
  constructor
  · intro h
    refine strOf_inj hl (by intro c hc; simp at hc; omega) ?_
    apply ByteArray.ext
    apply Array.toList_inj.1
    rw [h]
    rfl
  · rintro rfl
    rfl

theorem part4 (w0 : World) (vb : Value) (b : List Int) (hS : SlIs 1 u8c w0 vb b) (Rb : Nat) (hr : w0.heap.size ≤ Rb) (w : World) (hB : Below w0.heap.size w0 w) (hR : RD w Rb vb 0) (hl : (b.length : Int) ≤ 1000000000) (h4 : 4 ≤ b.length) (s : ByteArray) (hs : Hid (strOfNums (SubB b 0 4) = s)) :
    Calls Try.prog 36 #[.pointer (some ⟨Rb, 0, none⟩), .int .i64 4] w fun e w' => ∃ a c, e = .returned (.slice a 4 c) ∧ (convert 28 9 (.slice a 4 c)).run Try.prog w' = .ok (.string s) w' ∧ w.grownBy w' (some Rb) ∧ RD w' Rb vb 4 := by
  refine (part_okX w0 vb b hS Rb hr 0 4 w hB hR (by omega) (by omega) (by omega) (by omega) hl (by omega)).mono ?_
  rintro e w' ⟨v, rfl, hS1, hg, hR1⟩
  have hc := conv_str _ _ _ hS1
  obtain ⟨a, c, rfl⟩ := hS1.shape
  have e4 : (SubB b (Int.toNat 0) (Int.toNat 4)).length = 4 := SubB_len (by simp; omega)
  rw [e4] at hc
  refine ⟨a, c, by rw [e4], ?_, hg, hR1⟩
  rw [← hs.out]
  exact hc

set_option maxRecDepth 100000 in
set_option maxHeartbeats 2000000 in
theorem read_any (vb : Value) (b : List Int) (w : World) (hS : SlIs 1 u8c w vb b) (hby : ByteL b) (hl : (b.length : Int) ≤ 1000000000) :
    Calls Try.prog 18 #[vb] w (RdDone w (readP b)) := by
  have hmf : ∀ (fn : Fn) (first cap : Array Value) (w : World), (Instr.makeFunc fn first cap).run Try.prog w = .ok (.func fn first cap) w := fun _ _ _ _ => rfl
  obtain ⟨av, cv, rfl⟩ := hS.shape
  obtain ⟨W4, hW4⟩ : ∃ W4, W4 = ((((w.alloc (.cells #[.int .i64 0, .int .i64 0, .int .i64 0, .slice none 0 0] 25)).alloc (.cells #[.int .i64 0] 22)).alloc (.cells #[.int .i64 0] 3)).alloc (.cells #[.slice av b.length cv, .int .i64 0] 73)) := ⟨_, rfl⟩
  have HO : W4.heap[w.heap.size]? = some (.cells #[.int .i64 0, .int .i64 0, .int .i64 0, .slice none 0 0] 25 (0, 0)) := by
    subst hW4
    rw [Below.heap_alloc _ _ _ (by simp; omega), Below.heap_alloc _ _ _ (by simp; omega), Below.heap_alloc _ _ _ (by simp)]
    exact heap_alloc_new w _
  have HE : W4.heap[w.heap.size + 1]? = some (.cells #[.int .i64 0] 22 (0, 0)) := by
    subst hW4
    rw [Below.heap_alloc _ _ _ (by simp), Below.heap_alloc _ _ _ (by simp)]
    simpa using heap_alloc_new (w.alloc (.cells #[.int .i64 0, .int .i64 0, .int .i64 0, .slice none 0 0] 25)) _
  have HA : W4.heap[w.heap.size + 1 + 1]? = some (.cells #[.int .i64 0] 3 (0, 0)) := by
    subst hW4
    rw [Below.heap_alloc _ _ _ (by simp)]
    simpa using heap_alloc_new ((w.alloc (.cells #[.int .i64 0, .int .i64 0, .int .i64 0, .slice none 0 0] 25)).alloc (.cells #[.int .i64 0] 22)) _
  have hR : RD W4 (w.heap.size + 1 + 1 + 1) (.slice av b.length cv) 0 := by
    subst hW4
    simpa [RD] using heap_alloc_new (((w.alloc (.cells #[.int .i64 0, .int .i64 0, .int .i64 0, .slice none 0 0] 25)).alloc (.cells #[.int .i64 0] 22)).alloc (.cells #[.int .i64 0] 3)) (.cells #[.slice av b.length cv, .int .i64 0] 73)
  have HG : w.grownBy W4 none := by
    subst hW4
    exact grown_alloc (grown_alloc (grown_alloc (grown_alloc (grown_refl _ _) _) _) _) _
  subst hW4
  have h0 : (0 : Int) ≤ 0 := Int.le_refl 0
  have h1 : (0 : Int) ≤ b.length := by omega
  obtain ⟨N, hN⟩ : ∃ N, Hid (readP b = N) := ⟨_, Lib.hid rfl⟩
  rw [hN.out]
  by_cases hlen : b.length < 4
  · obtain rfl : N = .err 1 b.length := by rw [← hN.out]; unfold readP; rw [if_pos hlen]
    go_enter_defers Try.func18, Try.ntmps18
    (repeat (first | with_reducible refine xThenN ?_ | with_reducible refine xThenE ?_ | with_reducible refine xThenR ?_ | with_reducible refine xThenP ?_ | with_reducible refine xBlockEq ?_ | with_reducible refine xBlockNe rfl ?_ | with_reducible refine xBlockN ?_ | with_reducible refine xBlockR ?_ | with_reducible refine xBlockP ?_ | (go_at_call 36; (with_reducible refine (part_noX w _ b hS _ _ _ _ hR h0 h1 (by omega) hl (by omega)).mono ?_); rintro e w1 ⟨rfl, hg1⟩) | go_values | go_skip | go_guarded | go_step | go_upon | go_back | (dsimp only)))
    (replace HO := keep_at hg1 HO (fun e => by injection e with e; omega); replace HE := keep_at hg1 HE (fun e => by injection e with e; omega); replace HA := keep_at hg1 HA (fun e => by injection e with e; omega); replace HG := grown_row HG hg1 (fun g hg => by injection hg with hg; omega))
    exact door_panic18 rfl rfl rfl HO rfl HE HA fun w2 hb2 => ⟨(below_of_grown HG).trans hb2, _, _, _, _, _, _, rfl⟩
  have hpos : 0 < b.length := by omega
  have hI0 : RIn w (.slice av b.length cv) b (w.heap.size + 1 + 1 + 1) w := ⟨hS, by omega, Below.refl _ _, hby, hpos, hl⟩
  have hI := (((hI0.alloc (.cells #[.int .i64 0, .int .i64 0, .int .i64 0, .slice none 0 0] 25)).alloc (.cells #[.int .i64 0] 22)).alloc (.cells #[.int .i64 0] 3)).alloc (.cells #[.slice av b.length cv, .int .i64 0] 73)
  clear hI0
  have hSB : ByteL (SubB b 0 4) := SubB_byte hby
  have hL4 : (b.length : Int) ≥ 4 := by omega
  by_cases hm : SubB b 0 4 = [66, 82, 82, 80]
  rotate_left
  · obtain rfl : N = .err 2 0 := by rw [← hN.out]; unfold readP; rw [if_neg hlen, if_pos hm]
    obtain ⟨s4, hs4⟩ : ∃ s, Hid (strOfNums (SubB b 0 4) = s) := ⟨_, Lib.hid rfl⟩
    have hq := brrp _ hSB
    rw [hs4.out, decide_eq_false hm] at hq
    clear hm hSB
    go_enter_defers Try.func18, Try.ntmps18
    (repeat (first | with_reducible refine xThenN ?_ | with_reducible refine xThenE ?_ | with_reducible refine xThenR ?_ | with_reducible refine xThenP ?_ | with_reducible refine xBlockEq ?_ | with_reducible refine xBlockNe rfl ?_ | with_reducible refine xBlockN ?_ | with_reducible refine xBlockR ?_ | with_reducible refine xBlockP ?_ | (go_at_call 36; (with_reducible refine (part4 w _ b hS _ (by omega) _ hI.below hR hl (by omega) _ hs4).mono ?_); rintro e w1 ⟨a1, c1, rfl, hcs, hg1, hR1⟩) | go_values | go_skip | go_guarded | go_step | go_upon | go_back | (dsimp only)))
    (replace HO := keep_at hg1 HO (fun e => by injection e with e; omega); replace HE := keep_at hg1 HE (fun e => by injection e with e; omega); replace HA := keep_at hg1 HA (fun e => by injection e with e; omega); replace HG := grown_row HG hg1 (fun g hg => by injection hg with hg; omega))
    exact door_panic18 rfl rfl rfl HO rfl HE HA fun w2 hb2 => ⟨(below_of_grown HG).trans hb2, _, _, _, _, _, _, rfl⟩
  obtain ⟨s4, hs4⟩ : ∃ s, Hid (strOfNums (SubB b 0 4) = s) := ⟨_, Lib.hid rfl⟩
  have hq := brrp _ hSB
  rw [hs4.out, decide_eq_true hm] at hq
  have HN := Lib.hid (show readP b = _ from by unfold readP; rw [if_neg hlen, if_neg (by simp [hm])])
  clear hm hSB
  go_enter_defers Try.func18, Try.ntmps18
  (repeat (first | with_reducible refine xThenN ?_ | with_reducible refine xThenE ?_ | with_reducible refine xThenR ?_ | with_reducible refine xThenP ?_ | with_reducible refine xBlockEq ?_ | with_reducible refine xBlockNe rfl ?_ | with_reducible refine xBlockN ?_ | with_reducible refine xBlockR ?_ | with_reducible refine xBlockP ?_ | (go_at_call 36; (with_reducible refine (part4 w _ b hS _ (by omega) _ hI.below hR hl (by omega) _ hs4).mono ?_); rintro e w1 ⟨a1, c1, rfl, hcs, hg1, hR1⟩) | go_values | go_skip | go_guarded | go_step | go_upon | go_back | (dsimp only)))
  (replace HO := keep_at hg1 HO (fun e => by injection e with e; omega); replace HE := keep_at hg1 HE (fun e => by injection e with e; omega); replace HA := keep_at hg1 HA (fun e => by injection e with e; omega); replace HG := grown_row HG hg1 (fun g hg => by injection hg with hg; omega))
  replace hI := hI.grown hg1
  clear hR hg1 h0 h1 hcs
  have hR := hR1
  have h0 : (0 : Int) ≤ 4 := by decide
  have h1 : (4 : Int) ≤ b.length := hL4
  clear hR1
  have hg0 : w.heap.size ≠ w.heap.size + 1 + 1 + 1 := by omega
  obtain ⟨r, hr⟩ : ∃ r, Hid (numP b 4 1 1 5 = r) := ⟨_, Lib.hid rfl⟩
  rcases r with ⟨v, p0⟩ | ⟨E, q⟩
  rotate_left
  · obtain rfl : N = .err E q := by rw [← hN.out, HN.out]; rw [hr.out]
    (repeat (first | with_reducible refine xThenN ?_ | with_reducible refine xThenE ?_ | with_reducible refine xThenR ?_ | with_reducible refine xThenP ?_ | with_reducible refine xBlockEq ?_ | with_reducible refine xBlockNe rfl ?_ | with_reducible refine xBlockN ?_ | with_reducible refine xBlockR ?_ | with_reducible refine xBlockP ?_ | (go_at_call 37; (with_reducible refine (rnum_err w _ b _ _ _ _ _ _ hI hR h0 h1 (by omega) (by omega) _ _ hr).mono ?_); rintro e w1 ⟨rfl, hg1⟩) | go_values | go_skip | go_guarded | go_step | go_upon | go_back | (dsimp only)))
    (replace HO := keep_at hg1 HO (fun e => by injection e with e; omega); replace HE := keep_at hg1 HE (fun e => by injection e with e; omega); replace HA := keep_at hg1 HA (fun e => by injection e with e; omega); replace HG := grown_row HG hg1 (fun g hg => by injection hg with hg; omega))
    exact door_panic18 rfl rfl rfl HO rfl HE HA fun w2 hb2 => ⟨(below_of_grown HG).trans hb2, _, _, _, _, _, _, rfl⟩
  obtain ⟨h0', h1', z0a, z0b, z0c⟩ := numP_n hI.byte hr.out h0 (by decide)
  (repeat (first | with_reducible refine xThenN ?_ | with_reducible refine xThenE ?_ | with_reducible refine xThenR ?_ | with_reducible refine xThenP ?_ | with_reducible refine xBlockEq ?_ | with_reducible refine xBlockNe rfl ?_ | with_reducible refine xBlockN ?_ | with_reducible refine xBlockR ?_ | with_reducible refine xBlockP ?_ | (go_at_call 37; (with_reducible refine (rnum_ok w _ b _ _ _ _ _ _ hI hR h0 h1 (by omega) (by omega) _ _ hr).mono ?_); rintro e w1 ⟨rfl, hg1, hR1⟩; replace HO := keep_at hg1 HO (fun e => by injection e with e; omega); replace HE := keep_at hg1 HE (fun e => by injection e with e; omega); replace HA := keep_at hg1 HA (fun e => by injection e with e; omega); replace HG := grown_row HG hg1 (fun g hg => by injection hg with hg; omega); replace hI := hI.grown hg1; clear hR hg1; have hR := hR1; clear hR1) | ((with_reducible refine wl_id ?_); refine wl_store_cell (v := .int .i64 _) rfl 3 _ _ rfl _ _ rfl _ 25 rfl HO (fun w hg => st3 _ _ _ _ _ (by simp) w hg) ?_; (intro w2 HO2 hg2; (simp only [List.setIfInBounds_toArray, List.set_cons_succ, List.set_cons_zero] at HO2); clear HO; have HO := HO2; clear HO2; replace HE := keep_at hg2 HE (fun e => by injection e with e; omega); replace HA := keep_at hg2 HA (fun e => by injection e with e; omega); replace HG := grown_own HG hg2 (Nat.le_refl _); replace hI := hI.own hg2 (Nat.le_refl _); replace hR := hR.keep hg2 (Ne.symm hg0); clear hg2; (try simp only [Act.put, List.setIfInBounds_toArray, List.set_cons_succ, List.set_cons_zero]))) | go_values | go_skip | go_guarded | go_step | go_upon | go_back | (dsimp only)))
  have hr0 := hr
  clear hr h0 h1
  have h0 := h0'; have h1 := h1'
  clear h0' h1'
  obtain ⟨r, hr⟩ : ∃ r, Hid (numP b p0 1 0 18 = r) := ⟨_, Lib.hid rfl⟩
  rcases r with ⟨e, p1⟩ | ⟨E, q⟩
  rotate_left
  · obtain rfl : N = .err E q := by rw [← hN.out, HN.out]; rw [hr0.out]; dsimp only; rw [hr.out]
    (repeat (first | with_reducible refine xThenN ?_ | with_reducible refine xThenE ?_ | with_reducible refine xThenR ?_ | with_reducible refine xThenP ?_ | with_reducible refine xBlockEq ?_ | with_reducible refine xBlockNe rfl ?_ | with_reducible refine xBlockN ?_ | with_reducible refine xBlockR ?_ | with_reducible refine xBlockP ?_ | (go_at_call 37; (with_reducible refine (rnum_err w _ b _ _ _ _ _ _ hI hR h0 h1 (by omega) (by omega) _ _ hr).mono ?_); rintro e w1 ⟨rfl, hg1⟩) | go_values | go_skip | go_guarded | go_step | go_upon | go_back | (dsimp only)))
    (replace HO := keep_at hg1 HO (fun e => by injection e with e; omega); replace HE := keep_at hg1 HE (fun e => by injection e with e; omega); replace HA := keep_at hg1 HA (fun e => by injection e with e; omega); replace HG := grown_row HG hg1 (fun g hg => by injection hg with hg; omega))
    exact door_panic18 rfl rfl rfl HO rfl HE HA fun w2 hb2 => ⟨(below_of_grown HG).trans hb2, _, _, _, _, _, _, rfl⟩
  obtain ⟨h0', h1', z1a, z1b, z1c⟩ := numP_n hI.byte hr.out h0 (by decide)
  (repeat (first | with_reducible refine xThenN ?_ | with_reducible refine xThenE ?_ | with_reducible refine xThenR ?_ | with_reducible refine xThenP ?_ | with_reducible refine xBlockEq ?_ | with_reducible refine xBlockNe rfl ?_ | with_reducible refine xBlockN ?_ | with_reducible refine xBlockR ?_ | with_reducible refine xBlockP ?_ | (go_at_call 37; (with_reducible refine (rnum_ok w _ b _ _ _ _ _ _ hI hR h0 h1 (by omega) (by omega) _ _ hr).mono ?_); rintro e w1 ⟨rfl, hg1, hR1⟩; replace HO := keep_at hg1 HO (fun e => by injection e with e; omega); replace HE := keep_at hg1 HE (fun e => by injection e with e; omega); replace HA := keep_at hg1 HA (fun e => by injection e with e; omega); replace HG := grown_row HG hg1 (fun g hg => by injection hg with hg; omega); replace hI := hI.grown hg1; clear hR hg1; have hR := hR1; clear hR1) | ((with_reducible refine wl_id ?_); refine wl_store_cell (v := .int .i64 _) rfl 22 _ _ rfl _ _ rfl _ 25 rfl HO (fun w hg => st22 _ _ _ _ _ (by simp) w hg) ?_; (intro w2 HO2 hg2; (simp only [List.setIfInBounds_toArray, List.set_cons_succ, List.set_cons_zero] at HO2); clear HO; have HO := HO2; clear HO2; replace HE := keep_at hg2 HE (fun e => by injection e with e; omega); replace HA := keep_at hg2 HA (fun e => by injection e with e; omega); replace HG := grown_own HG hg2 (Nat.le_refl _); replace hI := hI.own hg2 (Nat.le_refl _); replace hR := hR.keep hg2 (Ne.symm hg0); clear hg2; (try simp only [Act.put, List.setIfInBounds_toArray, List.set_cons_succ, List.set_cons_zero]))) | go_values | go_skip | go_guarded | go_step | go_upon | go_back | (dsimp only)))
  have hr1 := hr
  clear hr h0 h1
  have h0 := h0'; have h1 := h1'
  clear h0' h1'
  obtain ⟨r, hr⟩ : ∃ r, Hid (numP b p1 2 0 65535 = r) := ⟨_, Lib.hid rfl⟩
  rcases r with ⟨a, p2⟩ | ⟨E, q⟩
  rotate_left
  · obtain rfl : N = .err E q := by rw [← hN.out, HN.out]; rw [hr0.out]; dsimp only; rw [hr1.out]; dsimp only; rw [hr.out]
    (repeat (first | with_reducible refine xThenN ?_ | with_reducible refine xThenE ?_ | with_reducible refine xThenR ?_ | with_reducible refine xThenP ?_ | with_reducible refine xBlockEq ?_ | with_reducible refine xBlockNe rfl ?_ | with_reducible refine xBlockN ?_ | with_reducible refine xBlockR ?_ | with_reducible refine xBlockP ?_ | (go_at_call 37; (with_reducible refine (rnum_err w _ b _ _ _ _ _ _ hI hR h0 h1 (by omega) (by omega) _ _ hr).mono ?_); rintro e w1 ⟨rfl, hg1⟩) | go_values | go_skip | go_guarded | go_step | go_upon | go_back | (dsimp only)))
    (replace HO := keep_at hg1 HO (fun e => by injection e with e; omega); replace HE := keep_at hg1 HE (fun e => by injection e with e; omega); replace HA := keep_at hg1 HA (fun e => by injection e with e; omega); replace HG := grown_row HG hg1 (fun g hg => by injection hg with hg; omega))
    exact door_panic18 rfl rfl rfl HO rfl HE HA fun w2 hb2 => ⟨(below_of_grown HG).trans hb2, _, _, _, _, _, _, rfl⟩
  obtain ⟨h0', h1', z2a, z2b, z2c⟩ := numP_n hI.byte hr.out h0 (by decide)
  (repeat (first | with_reducible refine xThenN ?_ | with_reducible refine xThenE ?_ | with_reducible refine xThenR ?_ | with_reducible refine xThenP ?_ | with_reducible refine xBlockEq ?_ | with_reducible refine xBlockNe rfl ?_ | with_reducible refine xBlockN ?_ | with_reducible refine xBlockR ?_ | with_reducible refine xBlockP ?_ | (go_at_call 37; (with_reducible refine (rnum_ok w _ b _ _ _ _ _ _ hI hR h0 h1 (by omega) (by omega) _ _ hr).mono ?_); rintro e w1 ⟨rfl, hg1, hR1⟩; replace HO := keep_at hg1 HO (fun e => by injection e with e; omega); replace HE := keep_at hg1 HE (fun e => by injection e with e; omega); replace HA := keep_at hg1 HA (fun e => by injection e with e; omega); replace HG := grown_row HG hg1 (fun g hg => by injection hg with hg; omega); replace hI := hI.grown hg1; clear hR hg1; have hR := hR1; clear hR1) | ((with_reducible refine wl_id ?_); refine wl_store_cell (v := .int .i64 _) rfl 3 _ _ rfl _ _ rfl _ 25 rfl HO (fun w hg => st3 _ _ _ _ _ (by simp) w hg) ?_; (intro w2 HO2 hg2; (simp only [List.setIfInBounds_toArray, List.set_cons_succ, List.set_cons_zero] at HO2); clear HO; have HO := HO2; clear HO2; replace HE := keep_at hg2 HE (fun e => by injection e with e; omega); replace HA := keep_at hg2 HA (fun e => by injection e with e; omega); replace HG := grown_own HG hg2 (Nat.le_refl _); replace hI := hI.own hg2 (Nat.le_refl _); replace hR := hR.keep hg2 (Ne.symm hg0); clear hg2; (try simp only [Act.put, List.setIfInBounds_toArray, List.set_cons_succ, List.set_cons_zero]))) | go_values | go_skip | go_guarded | go_step | go_upon | go_back | (dsimp only)))
  have hr2 := hr
  clear hr h0 h1
  have h0 := h0'; have h1 := h1'
  clear h0' h1'
  obtain ⟨r, hr⟩ : ∃ r, Hid (numP b p2 2 0 4096 = r) := ⟨_, Lib.hid rfl⟩
  rcases r with ⟨n, p3⟩ | ⟨E, q⟩
  rotate_left
  · obtain rfl : N = .err E q := by rw [← hN.out, HN.out]; rw [hr0.out]; dsimp only; rw [hr1.out]; dsimp only; rw [hr2.out]; dsimp only; rw [hr.out]
    (repeat (first | with_reducible refine xThenN ?_ | with_reducible refine xThenE ?_ | with_reducible refine xThenR ?_ | with_reducible refine xThenP ?_ | with_reducible refine xBlockEq ?_ | with_reducible refine xBlockNe rfl ?_ | with_reducible refine xBlockN ?_ | with_reducible refine xBlockR ?_ | with_reducible refine xBlockP ?_ | (go_at_call 37; (with_reducible refine (rnum_err w _ b _ _ _ _ _ _ hI hR h0 h1 (by omega) (by omega) _ _ hr).mono ?_); rintro e w1 ⟨rfl, hg1⟩) | go_values | go_skip | go_guarded | go_step | go_upon | go_back | (dsimp only)))
    (replace HO := keep_at hg1 HO (fun e => by injection e with e; omega); replace HE := keep_at hg1 HE (fun e => by injection e with e; omega); replace HA := keep_at hg1 HA (fun e => by injection e with e; omega); replace HG := grown_row HG hg1 (fun g hg => by injection hg with hg; omega))
    exact door_panic18 rfl rfl rfl HO rfl HE HA fun w2 hb2 => ⟨(below_of_grown HG).trans hb2, _, _, _, _, _, _, rfl⟩
  obtain ⟨h0', h1', z3a, z3b, z3c⟩ := numP_n hI.byte hr.out h0 (by decide)
  (repeat (first | with_reducible refine xThenN ?_ | with_reducible refine xThenE ?_ | with_reducible refine xThenR ?_ | with_reducible refine xThenP ?_ | with_reducible refine xBlockEq ?_ | with_reducible refine xBlockNe rfl ?_ | with_reducible refine xBlockN ?_ | with_reducible refine xBlockR ?_ | with_reducible refine xBlockP ?_ | (go_at_call 37; (with_reducible refine (rnum_ok w _ b _ _ _ _ _ _ hI hR h0 h1 (by omega) (by omega) _ _ hr).mono ?_); rintro e w1 ⟨rfl, hg1, hR1⟩; replace HO := keep_at hg1 HO (fun e => by injection e with e; omega); replace HE := keep_at hg1 HE (fun e => by injection e with e; omega); replace HA := keep_at hg1 HA (fun e => by injection e with e; omega); replace HG := grown_row HG hg1 (fun g hg => by injection hg with hg; omega); replace hI := hI.grown hg1; clear hR hg1; have hR := hR1; clear hR1) | go_values | go_skip | go_guarded | go_step | go_upon | go_back | (dsimp only)))
  have hr3 := hr
  clear hr h0 h1
  have h0 := h0'; have h1 := h1'
  clear h0' h1'
  obtain ⟨r, hr⟩ : ∃ r, Hid (manyP (preP b) n.toNat p3 = r) := ⟨_, Lib.hid rfl⟩
  rcases r with ⟨ps, p4⟩ | ⟨E, q⟩
  rotate_left
  · obtain rfl : N = .err E q := by rw [← hN.out, HN.out]; rw [hr0.out]; dsimp only; rw [hr1.out]; dsimp only; rw [hr2.out]; dsimp only; rw [hr3.out]; dsimp only; rw [hr.out]
    (repeat (first | with_reducible refine xThenN ?_ | with_reducible refine xThenE ?_ | with_reducible refine xThenR ?_ | with_reducible refine xThenP ?_ | with_reducible refine xBlockEq ?_ | with_reducible refine xBlockNe rfl ?_ | with_reducible refine xBlockN ?_ | with_reducible refine xBlockR ?_ | with_reducible refine xBlockP ?_ | (go_at_call 38; (with_reducible refine (listpre_err w _ b _ _ _ (by omega) (by omega) _ hI hR h0 h1 _ _ hr).mono ?_); rintro e w1 ⟨rfl, hg1⟩) | go_values | go_skip | go_guarded | go_step | go_upon | go_back | (dsimp only)))
    (replace HO := keep_at hg1 HO (fun e => by injection e with e; omega); replace HE := keep_at hg1 HE (fun e => by injection e with e; omega); replace HA := keep_at hg1 HA (fun e => by injection e with e; omega); replace HG := grown_row HG hg1 (fun g hg => by injection hg with hg; omega))
    exact door_panic18 rfl rfl rfl HO rfl HE HA fun w2 hb2 => ⟨(below_of_grown HG).trans hb2, _, _, _, _, _, _, rfl⟩
  obtain ⟨h0', h1'⟩ := manyPre_n hI.byte _ _ _ _ hr.out h0 h1
  by_cases hmore : p4 < b.length
  · obtain rfl : N = .err 6 p4 := by rw [← hN.out, HN.out]; rw [hr0.out]; dsimp only; rw [hr1.out]; dsimp only; rw [hr2.out]; dsimp only; rw [hr3.out]; dsimp only; rw [hr.out]; dsimp only; rw [if_pos hmore]
    (repeat (first | with_reducible refine xThenN ?_ | with_reducible refine xThenE ?_ | with_reducible refine xThenR ?_ | with_reducible refine xThenP ?_ | with_reducible refine xBlockEq ?_ | with_reducible refine xBlockNe rfl ?_ | with_reducible refine xBlockN ?_ | with_reducible refine xBlockR ?_ | with_reducible refine xBlockP ?_ | (go_at_call 38; (with_reducible refine (listpre_ok w _ b _ _ _ (by omega) (by omega) _ hI hR h0 h1 _ _ hr).mono ?_); rintro e w1 ⟨a7, n7, c7, ts, rfl, hT, hPT, hg1, hR1⟩; replace HO := keep_at hg1 HO (fun e => by injection e with e; omega); replace HE := keep_at hg1 HE (fun e => by injection e with e; omega); replace HA := keep_at hg1 HA (fun e => by injection e with e; omega); replace HG := grown_row HG hg1 (fun g hg => by injection hg with hg; omega); replace hI := hI.grown hg1; clear hR hg1; have hR := hR1; clear hR1) | (((with_reducible refine wl_id ?_); refine wl_store_cell (v := .slice _ _ _) rfl 23 _ _ rfl _ _ rfl _ 25 rfl HO (fun w hg => st23 _ _ _ _ _ _ _ (by simp) w hg) ?_; intro w2 HO2 hg2; (simp only [List.setIfInBounds_toArray, List.set_cons_succ, List.set_cons_zero] at HO2); replace hT := hT.same (fun k cur fr hk => hg2.block k (lt_of_block hk) (fun e => by injection e with e; subst e; rw [HO] at hk; simp at hk)); replace hPT := hPT.same (fun k cur T fr hTT hk => hg2.block k (lt_of_block hk) (fun e => by injection e with e; subst e; rw [HO] at hk; rcases hTT with rfl | rfl | rfl <;> simp at hk)); clear HO; have HO := HO2; clear HO2; replace HE := keep_at hg2 HE (fun e => by injection e with e; omega); replace HA := keep_at hg2 HA (fun e => by injection e with e; omega); replace HG := grown_own HG hg2 (Nat.le_refl _); replace hI := hI.own hg2 (Nat.le_refl _); replace hR := hR.keep hg2 (Ne.symm hg0); clear hg2; (try simp only [Act.put, List.setIfInBounds_toArray, List.set_cons_succ, List.set_cons_zero])); obtain ⟨d0, d1, d2⟩ := cells2 hR) | ((with_reducible refine wl_id ?_); refine wpList_load_row rfl 25 _ rfl _ rfl 25 _ (0, 0) _ HO Try.underlying25 rfl size25 ?_; (try simp only [Act.put, List.setIfInBounds_toArray, List.set_cons_succ, List.set_cons_zero])) | ((with_reducible refine wl_id ?_); refine wl_store_row rfl 25 _ _ rfl _ rfl _ _ 25 rfl HO size25 rfl (by simp [Value.oneCell']) ?_; intro w3 HO2 hg2; replace hT := hT.same (fun k cur fr hk => hg2.block k (lt_of_block hk) (fun e => by injection e with e; subst e; rw [HO] at hk; simp at hk)); replace hPT := hPT.same (fun k cur T fr hTT hk => hg2.block k (lt_of_block hk) (fun e => by injection e with e; subst e; rw [HO] at hk; rcases hTT with rfl | rfl | rfl <;> simp at hk)); clear HO; have HO := HO2; clear HO2; replace HE := keep_at hg2 HE (fun e => by injection e with e; omega); replace HA := keep_at hg2 HA (fun e => by injection e with e; omega); replace HG := grown_own HG hg2 (Nat.le_refl _); clear hg2; (try simp only [Act.put, List.setIfInBounds_toArray, List.set_cons_succ, List.set_cons_zero])) | ((with_reducible refine wl_id ?_); refine wl_store_cell (v := .int .i64 _) rfl 22 _ _ rfl _ _ rfl _ 22 rfl HE (fun w hg => st22 _ _ _ _ _ (by simp) w hg) ?_; intro w4 HE2 hg2; (simp only [List.setIfInBounds_toArray, List.set_cons_succ, List.set_cons_zero] at HE2); replace hT := hT.same (fun k cur fr hk => hg2.block k (lt_of_block hk) (fun e => by injection e with e; subst e; rw [HE] at hk; simp at hk)); replace hPT := hPT.same (fun k cur T fr hTT hk => hg2.block k (lt_of_block hk) (fun e => by injection e with e; subst e; rw [HE] at hk; rcases hTT with rfl | rfl | rfl <;> simp at hk)); clear HE; have HE := HE2; clear HE2; replace HO := keep_at hg2 HO (fun e => by injection e with e; omega); replace HA := keep_at hg2 HA (fun e => by injection e with e; omega); replace HG := grown_own HG hg2 (Nat.le_succ _); clear hg2; (try simp only [Act.put, List.setIfInBounds_toArray, List.set_cons_succ, List.set_cons_zero])) | ((with_reducible refine wl_id ?_); refine wl_store_cell (v := .int .i64 _) rfl 3 _ _ rfl _ _ rfl _ 3 rfl HA (fun w hg => st3 _ _ _ _ _ (by simp) w hg) ?_; intro w5 HA2 hg2; (simp only [List.setIfInBounds_toArray, List.set_cons_succ, List.set_cons_zero] at HA2); replace hT := hT.same (fun k cur fr hk => same_at hg2 HA HA2 k (lt_of_block hk)); replace hPT := hPT.same (fun k cur T fr hTT hk => same_at hg2 HA HA2 k (lt_of_block hk)); clear HA; have HA := HA2; clear HA2; replace HO := keep_at hg2 HO (fun e => by injection e with e; omega); replace HE := keep_at hg2 HE (fun e => by injection e with e; omega); replace HG := grown_own HG hg2 (by omega); clear hg2; (try simp only [Act.put, List.setIfInBounds_toArray, List.set_cons_succ, List.set_cons_zero])) | go_values | go_skip | go_guarded | go_step | go_upon | go_back | (dsimp only)))
    exact door_panic18 rfl rfl rfl HO rfl HE HA fun w2 hb2 => ⟨(below_of_grown HG).trans hb2, _, _, _, _, _, _, rfl⟩
  · obtain rfl : N = .ok ⟨v, e, a, ps⟩ p4 := by rw [← hN.out, HN.out]; rw [hr0.out]; dsimp only; rw [hr1.out]; dsimp only; rw [hr2.out]; dsimp only; rw [hr3.out]; dsimp only; rw [hr.out]; dsimp only; rw [if_neg hmore]
    (repeat (first | with_reducible refine xThenN ?_ | with_reducible refine xThenE ?_ | with_reducible refine xThenR ?_ | with_reducible refine xThenP ?_ | with_reducible refine xBlockEq ?_ | with_reducible refine xBlockNe rfl ?_ | with_reducible refine xBlockN ?_ | with_reducible refine xBlockR ?_ | with_reducible refine xBlockP ?_ | (go_at_call 38; (with_reducible refine (listpre_ok w _ b _ _ _ (by omega) (by omega) _ hI hR h0 h1 _ _ hr).mono ?_); rintro e w1 ⟨a7, n7, c7, ts, rfl, hT, hPT, hg1, hR1⟩; replace HO := keep_at hg1 HO (fun e => by injection e with e; omega); replace HE := keep_at hg1 HE (fun e => by injection e with e; omega); replace HA := keep_at hg1 HA (fun e => by injection e with e; omega); replace HG := grown_row HG hg1 (fun g hg => by injection hg with hg; omega); replace hI := hI.grown hg1; clear hR hg1; have hR := hR1; clear hR1) | (((with_reducible refine wl_id ?_); refine wl_store_cell (v := .slice _ _ _) rfl 23 _ _ rfl _ _ rfl _ 25 rfl HO (fun w hg => st23 _ _ _ _ _ _ _ (by simp) w hg) ?_; intro w2 HO2 hg2; (simp only [List.setIfInBounds_toArray, List.set_cons_succ, List.set_cons_zero] at HO2); replace hT := hT.same (fun k cur fr hk => hg2.block k (lt_of_block hk) (fun e => by injection e with e; subst e; rw [HO] at hk; simp at hk)); replace hPT := hPT.same (fun k cur T fr hTT hk => hg2.block k (lt_of_block hk) (fun e => by injection e with e; subst e; rw [HO] at hk; rcases hTT with rfl | rfl | rfl <;> simp at hk)); clear HO; have HO := HO2; clear HO2; replace HE := keep_at hg2 HE (fun e => by injection e with e; omega); replace HA := keep_at hg2 HA (fun e => by injection e with e; omega); replace HG := grown_own HG hg2 (Nat.le_refl _); replace hI := hI.own hg2 (Nat.le_refl _); replace hR := hR.keep hg2 (Ne.symm hg0); clear hg2; (try simp only [Act.put, List.setIfInBounds_toArray, List.set_cons_succ, List.set_cons_zero])); obtain ⟨d0, d1, d2⟩ := cells2 hR) | ((with_reducible refine wl_id ?_); refine wpList_load_row rfl 25 _ rfl _ rfl 25 _ (0, 0) _ HO Try.underlying25 rfl size25 ?_; (try simp only [Act.put, List.setIfInBounds_toArray, List.set_cons_succ, List.set_cons_zero])) | ((with_reducible refine wl_id ?_); refine wl_store_row rfl 25 _ _ rfl _ rfl _ _ 25 rfl HO size25 rfl (by simp [Value.oneCell']) ?_; intro w3 HO2 hg2; replace hT := hT.same (fun k cur fr hk => hg2.block k (lt_of_block hk) (fun e => by injection e with e; subst e; rw [HO] at hk; simp at hk)); replace hPT := hPT.same (fun k cur T fr hTT hk => hg2.block k (lt_of_block hk) (fun e => by injection e with e; subst e; rw [HO] at hk; rcases hTT with rfl | rfl | rfl <;> simp at hk)); clear HO; have HO := HO2; clear HO2; replace HE := keep_at hg2 HE (fun e => by injection e with e; omega); replace HA := keep_at hg2 HA (fun e => by injection e with e; omega); replace HG := grown_own HG hg2 (Nat.le_refl _); clear hg2; (try simp only [Act.put, List.setIfInBounds_toArray, List.set_cons_succ, List.set_cons_zero])) | ((with_reducible refine wl_id ?_); refine wl_store_cell (v := .int .i64 _) rfl 22 _ _ rfl _ _ rfl _ 22 rfl HE (fun w hg => st22 _ _ _ _ _ (by simp) w hg) ?_; intro w4 HE2 hg2; (simp only [List.setIfInBounds_toArray, List.set_cons_succ, List.set_cons_zero] at HE2); replace hT := hT.same (fun k cur fr hk => hg2.block k (lt_of_block hk) (fun e => by injection e with e; subst e; rw [HE] at hk; simp at hk)); replace hPT := hPT.same (fun k cur T fr hTT hk => hg2.block k (lt_of_block hk) (fun e => by injection e with e; subst e; rw [HE] at hk; rcases hTT with rfl | rfl | rfl <;> simp at hk)); clear HE; have HE := HE2; clear HE2; replace HO := keep_at hg2 HO (fun e => by injection e with e; omega); replace HA := keep_at hg2 HA (fun e => by injection e with e; omega); replace HG := grown_own HG hg2 (Nat.le_succ _); clear hg2; (try simp only [Act.put, List.setIfInBounds_toArray, List.set_cons_succ, List.set_cons_zero])) | ((with_reducible refine wl_id ?_); refine wl_store_cell (v := .int .i64 _) rfl 3 _ _ rfl _ _ rfl _ 3 rfl HA (fun w hg => st3 _ _ _ _ _ (by simp) w hg) ?_; intro w5 HA2 hg2; (simp only [List.setIfInBounds_toArray, List.set_cons_succ, List.set_cons_zero] at HA2); replace hT := hT.same (fun k cur fr hk => same_at hg2 HA HA2 k (lt_of_block hk)); replace hPT := hPT.same (fun k cur T fr hTT hk => same_at hg2 HA HA2 k (lt_of_block hk)); clear HA; have HA := HA2; clear HA2; replace HO := keep_at hg2 HO (fun e => by injection e with e; omega); replace HE := keep_at hg2 HE (fun e => by injection e with e; omega); replace HG := grown_own HG hg2 (by omega); clear hg2; (try simp only [Act.put, List.setIfInBounds_toArray, List.set_cons_succ, List.set_cons_zero])) | go_values | go_skip | go_guarded | go_step | go_upon | go_back | (dsimp only)))
    exact door_ret18 rfl rfl rfl HO rfl HE HA ⟨below_of_grown HG, _, rfl, ts, hT, hPT⟩

theorem quest_nz {ls : List Nd} : quest ls ≠ 0 → True := fun _ => trivial
theorem numP_nz {b : List Int} {p n lo hi E q : Int} (h : numP b p n lo hi = .err E q) : E ≠ 0 := by
  rcases numP_err h with ⟨h, _⟩ | ⟨h, _⟩ <;> omega
theorem manyP_nz {α : Type} {one : Int → PR α} (h1 : ∀ p E q, one p = .err E q → E ≠ 0) : ∀ (n : Nat) (p E q : Int), manyP one n p = .err E q → E ≠ 0 := by
  intro n
  induction n with
  | zero => intro p E q h; simp only [manyP] at h; cases h
  | succ n ih =>
    intro p E q h
    simp only [manyP] at h
    split at h
    · rename_i e1; injection h with h2 h3; subst h2; exact h1 _ _ _ e1
    · split at h
      · rename_i e2; injection h with h2 h3; subst h2; exact ih _ _ _ e2
      · cases h
theorem nodeP_nz {b : List Int} {p E q : Int} (h : nodeP b p = .err E q) : E ≠ 0 := by
  unfold nodeP at h
  split at h
  · rename_i e; injection h with h2 h3; subst h2; exact numP_nz e
  split at h
  · rename_i e; injection h with h2 h3; subst h2; exact numP_nz e
  split at h
  · rename_i e; injection h with h2 h3; subst h2; exact numP_nz e
  split at h
  · rename_i e; injection h with h2 h3; subst h2; exact numP_nz e
  split at h
  · rename_i e; injection h with h2 h3; subst h2; exact numP_nz e
  split at h
  · rename_i e; injection h with h2 h3; subst h2; exact numP_nz e
  cases h
theorem preP_nz {b : List Int} {p E q : Int} (h : preP b p = .err E q) : E ≠ 0 := by
  unfold preP at h
  split at h
  · rename_i e; injection h with h2 h3; subst h2; exact numP_nz e
  split at h
  · rename_i e; injection h with h2 h3; subst h2; exact manyP_nz (fun p E q h => numP_nz h) _ _ _ _ e
  split at h
  · rename_i e; injection h with h2 h3; subst h2; exact numP_nz e
  split at h
  · rename_i e; injection h with h2 h3; subst h2; exact manyP_nz (fun p E q h => nodeP_nz h) _ _ _ _ e
  split at h
  · rename_i e; injection h with h2 h3; subst h2; exact e
  split at h
  · rename_i e; injection h with h2 h3; subst h2; exact numP_nz e
  split at h
  · injection h with h2 h3; subst h2; decide
  cases h
theorem readP_nz {b : List Int} {E q : Int} (h : readP b = .err E q) : E ≠ 0 := by
  unfold readP at h
  split at h
  · injection h with h2 h3; subst h2; decide
  split at h
  · injection h with h2 h3; subst h2; decide
  split at h
  · rename_i e; injection h with h2 h3; subst h2; exact numP_nz e
  split at h
  · rename_i e; injection h with h2 h3; subst h2; exact numP_nz e
  split at h
  · rename_i e; injection h with h2 h3; subst h2; exact numP_nz e
  split at h
  · rename_i e; injection h with h2 h3; subst h2; exact numP_nz e
  split at h
  · rename_i e; injection h with h2 h3; subst h2; exact manyP_nz (fun p E q h => preP_nz h) _ _ _ _ e
  split at h
  · injection h with h2 h3; subst h2; decide
  cases h

theorem read_ok (vb : Value) (b : List Int) (w : World) (hS : SlIs 1 u8c w vb b) (hby : ByteL b) (hl : (b.length : Int) ≤ 1000000000) (rv re ra : Int) (ps : List Pr) (p : Int) (hr : Hid (readP b = .ok ⟨rv, re, ra, ps⟩ p)) :
    Calls Try.prog 18 #[vb] w fun e w' => ∃ a n c, e = .returned (.tuple #[.agg #[.int .i64 rv, .int .i64 re, .int .i64 ra, .slice a n c], .int .i64 0, .int .i64 0]) ∧ (∃ ts, SlT 43 3 tripc w' (.slice a n c) ts ∧ PresT w' ts ps) ∧ Below w.heap.size w w' := by
  have := read_any vb b w hS hby hl
  rw [hr.out] at this
  refine this.mono ?_
  rintro e w' ⟨hb, v, rfl, vs, h1, h2⟩
  obtain ⟨a, c, rfl⟩ := h1.sl.shape
  exact ⟨a, _, c, rfl, ⟨vs, h1, h2⟩, hb⟩
theorem read_err (vb : Value) (b : List Int) (w : World) (hS : SlIs 1 u8c w vb b) (hby : ByteL b) (hl : (b.length : Int) ≤ 1000000000) (E p : Int) (hr : Hid (readP b = .err E p)) :
    Calls Try.prog 18 #[vb] w fun e w' => ∃ x y z a n c, e = .returned (.tuple #[.agg #[.int .i64 x, .int .i64 y, .int .i64 z, .slice a n c], .int .i64 E, .int .i64 p]) ∧ Below w.heap.size w w' := by
  have := read_any vb b w hS hby hl
  rw [hr.out] at this
  refine this.mono ?_
  rintro e w' ⟨hb, x, y, z, a, n, c, rfl⟩
  exact ⟨x, y, z, a, n, c, rfl, hb⟩

/-- what Decode answers -/
def Decoded (w : World) (r : PR Rp) (e : Ending) (w' : World) : Prop :=
  Below w.heap.size w w' ∧ match r with
    | .ok x _ => ∃ v, e = .returned (.tuple #[.agg #[.int .i64 x.v, .int .i64 x.e, .int .i64 x.a, v], .int .i64 0, .int .i64 0]) ∧ PresIn w' v x.pres
    | .err E p => e = .returned (.tuple #[.agg #[.int .i64 0, .int .i64 0, .int .i64 0, .slice none 0 0], .int .i64 E, .int .i64 p])

theorem res11 (tmps : Array Value) (w : World) (g : Nat) (cs : Array Value) (x y : Value) (h2 : tmps.getD 2 undef = .pointer (some ⟨g, 0, none⟩)) (h3 : tmps.getD 3 undef = x) (h4 : tmps.getD 4 undef = y)
    (HO : w.heap[g]? = some (.cells cs 25 (0, 0))) (hs : cs.size = 4) : (results Try.f11 tmps).run Try.prog w = .ok (.tuple #[.agg cs, x, y]) w := by
  have h2' : tmps[2]?.getD undef = .pointer (some ⟨g, 0, none⟩) := by simpa using h2
  have h3' : tmps[3]?.getD undef = x := by simpa using h3
  have h4' : tmps[4]?.getD undef = y := by simpa using h4
  have r1 := run_loadVar_row (P := Try.prog) w g 25 25 cs (0, 0) _ HO Try.underlying25 rfl (by rw [hs]; exact size25)
  simp [results, Try.results11, h2', h3', h4', asAddr, r1]

set_option maxRecDepth 100000 in
set_option maxHeartbeats 1000000 in
theorem decode_any (vb : Value) (b : List Int) (w : World) (hS : SlIs 1 u8c w vb b) (hby : ByteL b) (hl : (b.length : Int) ≤ 1000000000) :
    Calls Try.prog 11 #[vb] w (Decoded w (readP b)) := by
  have HO : (w.alloc (.cells #[.int .i64 0, .int .i64 0, .int .i64 0, .slice none 0 0] 25)).heap[w.heap.size]? = _ := heap_alloc_new w _
  have HS := Lib.hid hS
  have Hby := Lib.hid hby
  obtain ⟨r, hr⟩ : ∃ r, Hid (readP b = r) := ⟨_, Lib.hid rfl⟩
  rw [hr.out]
  rcases r with ⟨⟨rv, re, ra, ps⟩, p⟩ | ⟨E, p⟩
  · go_enter Try.func11, Try.ntmps11
    (repeat (first | with_reducible refine xThenN ?_ | with_reducible refine xThenE ?_ | with_reducible refine xThenR ?_ | with_reducible refine xThenP ?_ | with_reducible refine xBlockEq ?_ | with_reducible refine xBlockNe rfl ?_ | with_reducible refine xBlockN ?_ | with_reducible refine xBlockR ?_ | with_reducible refine xBlockP ?_ | (go_at_call 18; (with_reducible refine (read_ok _ b _ (HS.out.below (by (repeat (first | with_reducible exact Below.refl _ _ | assumption | with_reducible refine below_drewN ?_ _ | with_reducible refine Below.drew ?_ | with_reducible refine Below.setRow ?_ ?_ _ | with_reducible refine Below.alloc ?_ ?_ _ | with_reducible refine Below.setCell ?_ ?_ _ | with_reducible exact Nat.le_refl _ | (focus (simp; done)) | (focus (simp; omega)) | omega)))) Hby.out hl _ _ _ _ _ hr).mono ?_); rintro e w1 ⟨a, n, c, rfl, ⟨ts, hT, hPT⟩, hb⟩; replace HO := (hb.block _ (by simp)).trans HO) | ((with_reducible refine wl_id ?_); refine wl_store_row rfl 25 _ _ rfl _ rfl _ _ 25 rfl ((Below.heap_alloc w1 _ _ (lt_of_block HO)).trans HO) size25 rfl (by simp [Value.oneCell']) ?_; intro w3 HO2 hg2; (try simp only [Act.put, List.setIfInBounds_toArray, List.set_cons_succ, List.set_cons_zero])) | go_values | go_skip | go_guarded | go_step | go_upon | go_back | (dsimp only)))
    refine bodyPost_ret (res11 _ _ _ _ _ _ rfl rfl rfl HO2 rfl) rfl ⟨?_, _, rfl, ts, ?_⟩
    · exact Below.grown (Below.alloc (Below.trans (Below.alloc (Below.refl _ _) (Nat.le_refl _) _) (hb.mono (by simp))) (by have := hb.size; simp at this; omega) _) hg2 (by have := hb.size; simp at this ⊢; omega) (fun k hk => by injection hk with hk; omega)
    · have hk : ∀ (k : Nat) (cur : Array Value) (T : TypeId) (fr : Nat × Nat), T ≠ 25 → w1.heap[k]? = some (Obj.cells cur T fr) → w3.heap[k]? = w1.heap[k]? := fun k cur T fr hT hh =>
        (hg2.block k (by have := lt_of_block hh; simp; omega) (fun e => by injection e with e; subst e; rw [HO] at hh; simp at hh; exact hT hh.2.1.symm)).trans (Below.heap_alloc w1 _ k (lt_of_block hh))
      have hT2 := hT.same (w' := w3) (fun k cur fr hh => hk k cur 43 fr (by decide) hh)
      have hP2 := hPT.same (w' := w3) (fun k cur T fr hTT hh => hk k cur T fr (by rcases hTT with rfl | rfl | rfl <;> decide) hh)
      exact ⟨hT2.sl, hP2.1, fun i t p h1 h2 => (hP2.2 i t p h1 h2).inn⟩
  · have hz := Lib.hid (readP_nz hr.out)
    have fz : (E != 0) = true := by simpa using hz.out
    go_enter Try.func11, Try.ntmps11
    (repeat (first | with_reducible refine xThenN ?_ | with_reducible refine xThenE ?_ | with_reducible refine xThenR ?_ | with_reducible refine xThenP ?_ | with_reducible refine xBlockEq ?_ | with_reducible refine xBlockNe rfl ?_ | with_reducible refine xBlockN ?_ | with_reducible refine xBlockR ?_ | with_reducible refine xBlockP ?_ | (go_at_call 18; (with_reducible refine (read_err _ b _ (HS.out.below (by (repeat (first | with_reducible exact Below.refl _ _ | assumption | with_reducible refine below_drewN ?_ _ | with_reducible refine Below.drew ?_ | with_reducible refine Below.setRow ?_ ?_ _ | with_reducible refine Below.alloc ?_ ?_ _ | with_reducible refine Below.setCell ?_ ?_ _ | with_reducible exact Nat.le_refl _ | (focus (simp; done)) | (focus (simp; omega)) | omega)))) Hby.out hl _ _ hr).mono ?_); rintro e w1 ⟨x, y, z, a, n, c, rfl, hb⟩; replace HO := (hb.block _ (by simp)).trans HO) | ((with_reducible refine wl_id ?_); refine wl_store_row rfl 25 _ _ rfl _ rfl _ _ 25 rfl ((Below.heap_alloc w1 _ _ (lt_of_block HO)).trans HO) size25 rfl (by simp [Value.oneCell']) ?_; intro w3 HO2 hg2; (try simp only [Act.put, List.setIfInBounds_toArray, List.set_cons_succ, List.set_cons_zero])) | go_values | go_skip | go_guarded | go_step | go_upon | go_back | (dsimp only)))
    refine bodyPost_ret (res11 _ _ _ _ _ _ rfl rfl rfl HO2 rfl) rfl ⟨?_, rfl⟩
    exact Below.grown (Below.alloc (Below.trans (Below.alloc (Below.refl _ _) (Nat.le_refl _) _) (hb.mono (by simp))) (by have := hb.size; simp at this; omega) _) hg2 (by have := hb.size; simp at this ⊢; omega) (fun k hk => by injection hk with hk; omega)

end Go.Proofs.Ytcffgbmgjdhkjaa
