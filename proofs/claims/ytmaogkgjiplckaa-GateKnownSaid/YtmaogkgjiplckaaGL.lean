import Derived.Test.YtmaogkgjiplckaaGK
set_option linter.unusedSimpArgs false
set_option linter.unusedVariables false
namespace Go.Proofs.Ytmaogkgjiplckaa
open Go.RowKit

/-- a word as it may be handed in -/
def wordB (n m : Nat) (l : List Int) : Bool := decide (1 ≤ l.length ∧ l.length ≤ 64 ∧ l.length = m) && allL n l
theorem st_bool {b : Bool} : (b == true) = b := by cases b <;> rfl

set_option maxRecDepth 100000 in
set_option maxHeartbeats 1000000 in
theorem words_any {X : Nat → Prop} {base gb : Nat} {g : G} (w : World) (hG : GR X base w gb g) (bq m : Nat) (vs : List Value) (ls : List (List Int)) (l0 : List Int) (hq : w.heap[bq]? = some (.cells vs.toArray 26 (0, 0))) (hm : vs.length = m) (hS : SlsX (fun _ => True) w vs ls) (h0 : ls[0]? = some l0) (hll : ∀ l ∈ ls, l.length ≤ 1000000) (hm1 : m ≤ 1000) (r : Bool) (hr : Hid (ls.all (wordB g.n l0.length) = r)) :
    Calls Try.prog 38 #[.pointer (some ⟨gb, 0, none⟩), .slice (some ⟨bq, 0, none⟩) m m] w fun e w' => e = .returned (.bool r) ∧ GR X base w' gb g ∧ Below w.heap.size w w' := by
  have hmb : (m : Int) ≤ 1000 := by omega
  have hcell : ∀ (u : World), Below w.heap.size w u → ∀ (j : Nat) (x : Value), vs[j]? = some x → u.cell? ⟨bq, j, none⟩ = some x := by
    intro u hb j x hj
    have : u.heap[bq]? = some (.cells vs.toArray 26 (0, 0)) := (hb.block _ (lt_of_block hq)).trans hq
    simp [World.cell?, this, hj]
  have HC := Lib.hid hcell
  have HS := Lib.hid hS
  have HLL := Lib.hid hll
  have HM := Lib.hid hm
  have H0 := Lib.hid h0
  have hlen : ls.length = m := by rw [← hm]; exact hS.1.symm
  have HLen := Lib.hid hlen
  clear hq hcell hS hll hm h0 hm1 hlen
  go_enter Try.func38, Try.ntmps38
  (repeat (first | (with_reducible first | refine xA ?_ | refine xB ?_ | refine xC ?_ | refine xD ?_ | refine xH ?_ | refine xI rfl ?_ | refine xE ?_ | refine xF ?_ | refine xG ?_) | go_values | go_skip | go_guarded | go_step | go_upon | go_back | ((with_reducible show Oper.upon _ _ _ _ _ _); go_simp) | (dsimp only)))
  go_loopw [9] (fun i wr => ∃ k : Nat, k ≤ m ∧ i = .int .i64 k ∧ Hid (∀ j l, j < k → ls[j]? = some l → wordB g.n l0.length l = true) ∧ GR X base wr gb g ∧ Below w.heap.size w wr) (fun i _ => m - (intOf i).toNat)
  case atStart => exact ⟨0, Nat.zero_le _, rfl, Lib.hid (fun j l h => by omega), hG, Below.refl _ _⟩
  case round =>
    clear hG
    obtain ⟨k, hk, rfl, hgood, hG, hB⟩ := hrel
    rcases Nat.lt_or_ge k m with hlt | hge
    · obtain ⟨l, hl⟩ : ∃ l, ls[k]? = some l := ⟨_, List.getElem?_eq_getElem (by have := HLen.out; omega)⟩
      obtain ⟨v, hv⟩ : ∃ v, vs[k]? = some v := ⟨_, List.getElem?_eq_getElem (by have := HM.out; omega)⟩
      obtain ⟨v0, hv0⟩ : ∃ v, vs[0]? = some v := ⟨_, List.getElem?_eq_getElem (by have := HM.out; omega)⟩
      have hSl := (HS.out.2 k v l hv hl).kept (Kept.below hB fun k hk _ => hk)
      have hS0 := (HS.out.2 0 v0 l0 hv0 H0.out)
      have hc1 := HC.out _ hB k v hv
      have hc0 := HC.out _ hB 0 v0 hv0
      obtain ⟨a1, c1, rfl⟩ := hSl.shape
      obtain ⟨a0, c0, rfl⟩ := hS0.shape
      have hll := HLL.out l (List.mem_of_getElem? hl)
      have Hl := Lib.hid hl
      obtain ⟨q, hq⟩ : ∃ q, Hid (allL g.n l = q) := ⟨_, Lib.hid rfl⟩
      clear hS0 hv hv0 hl
      have hbad : wordB g.n l0.length l = false → Hid (r = false) := fun h => Lib.hid (by
        rw [← hr.out, List.all_eq_false]
        exact ⟨l, List.mem_of_getElem? Hl.out, by rw [h]; simp⟩)
      have Hbad := Lib.hid hbad
      clear hbad
      by_cases t1 : l.length < 1
      · have hR := Hbad.out (by unfold wordB; rw [decide_eq_false (by omega)]; rfl)
        have t1' : (l.length : Int) < 1 := by omega
        clear t1
        (repeat (first | (with_reducible first | refine xA ?_ | refine xB ?_ | refine xC ?_ | refine xD ?_ | refine xH ?_ | refine xI rfl ?_ | refine xE ?_ | refine xF ?_ | refine xG ?_) | go_skip | go_guarded | (go_at_call 37; (with_reducible refine (is_any _ _ _ hG hSl hll _ hq).mono ?_); rintro _ w1 ⟨rfl, hG1, hb1⟩) | go_values | go_skip | go_guarded | go_step | go_upon | go_back | ((with_reducible show Oper.upon _ _ _ _ _ _); go_simp) | (dsimp only)))
        go_ret
        exact ⟨ret_bool hR.out.symm, hG, hB⟩
      have t1' : ¬ (l.length : Int) < 1 := by omega
      by_cases t2 : 64 < l.length
      · have hR := Hbad.out (by unfold wordB; rw [decide_eq_false (by omega)]; rfl)
        have t2' : (64 : Int) < l.length := by omega
        clear t1 t2
        (repeat (first | (with_reducible first | refine xA ?_ | refine xB ?_ | refine xC ?_ | refine xD ?_ | refine xH ?_ | refine xI rfl ?_ | refine xE ?_ | refine xF ?_ | refine xG ?_) | go_skip | go_guarded | (go_at_call 37; (with_reducible refine (is_any _ _ _ hG hSl hll _ hq).mono ?_); rintro _ w1 ⟨rfl, hG1, hb1⟩) | go_values | go_skip | go_guarded | go_step | go_upon | go_back | ((with_reducible show Oper.upon _ _ _ _ _ _); go_simp) | (dsimp only)))
        go_ret
        exact ⟨ret_bool hR.out.symm, hG, hB⟩
      have t2' : ¬ (64 : Int) < l.length := by omega
      by_cases t3 : l.length = l0.length
      rotate_left
      · have hR := Hbad.out (by unfold wordB; rw [decide_eq_false (by omega)]; rfl)
        have t3' : ((l.length : Int) != (l0.length : Int)) = true := by simp; omega
        clear t1 t2 t3
        (repeat (first | (with_reducible first | refine xA ?_ | refine xB ?_ | refine xC ?_ | refine xD ?_ | refine xH ?_ | refine xI rfl ?_ | refine xE ?_ | refine xF ?_ | refine xG ?_) | go_skip | go_guarded | (go_at_call 37; (with_reducible refine (is_any _ _ _ hG hSl hll _ hq).mono ?_); rintro _ w1 ⟨rfl, hG1, hb1⟩) | go_values | go_skip | go_guarded | go_step | go_upon | go_back | ((with_reducible show Oper.upon _ _ _ _ _ _); go_simp) | (dsimp only)))
        go_ret
        exact ⟨ret_bool hR.out.symm, hG, hB⟩
      have t3' : ((l.length : Int) != (l0.length : Int)) = false := by simp; omega
      have HT := Lib.hid (show 1 ≤ l.length ∧ l.length ≤ 64 ∧ l.length = l0.length from ⟨by omega, by omega, t3⟩)
      clear t1 t2 t3
      cases q
      · have hR := Hbad.out (by unfold wordB; rw [hq.out]; simp)
        (repeat (first | (with_reducible first | refine xA ?_ | refine xB ?_ | refine xC ?_ | refine xD ?_ | refine xH ?_ | refine xI rfl ?_ | refine xE ?_ | refine xF ?_ | refine xG ?_) | go_skip | go_guarded | (go_at_call 37; (with_reducible refine (is_any _ _ _ hG hSl hll _ hq).mono ?_); rintro _ w1 ⟨rfl, hG1, hb1⟩) | go_values | go_skip | go_guarded | go_step | go_upon | go_back | ((with_reducible show Oper.upon _ _ _ _ _ _); go_simp) | (dsimp only)))
        go_ret
        exact ⟨ret_bool hR.out.symm, hG1, hB.trans (hb1.mono hB.size)⟩
      · (repeat (first | (with_reducible first | refine xA ?_ | refine xB ?_ | refine xC ?_ | refine xD ?_ | refine xH ?_ | refine xI rfl ?_ | refine xE ?_ | refine xF ?_ | refine xG ?_) | go_skip | go_guarded | (go_at_call 37; (with_reducible refine (is_any _ _ _ hG hSl hll _ hq).mono ?_); rintro _ w1 ⟨rfl, hG1, hb1⟩) | go_values | go_skip | go_guarded | go_step | go_upon | go_back | ((with_reducible show Oper.upon _ _ _ _ _ _); go_simp) | (dsimp only)))
        refine ⟨⟨k + 1, by omega, by go_num, Lib.hid (fun j l' hj hl' => ?_), hG1, hB.trans (hb1.mono hB.size)⟩, by simp [intOf]; omega⟩
        rcases Nat.lt_or_ge j k with h | h
        · exact hgood.out j l' h hl'
        · have : j = k := by omega
          subst this
          rw [Hl.out] at hl'
          cases hl'
          unfold wordB
          rw [decide_eq_true HT.out, hq.out]; rfl
    · obtain rfl : k = m := by omega
      have hR : Hid (r = true) := Lib.hid (by
        rw [← hr.out, List.all_eq_true]
        intro l hl
        obtain ⟨j, hj⟩ := List.mem_iff_getElem?.1 hl
        exact hgood.out j l (by have := HLen.out; have := (List.getElem?_eq_some_iff.1 hj).1; omega) hj)
      (repeat (first | (with_reducible first | refine xA ?_ | refine xB ?_ | refine xC ?_ | refine xD ?_ | refine xH ?_ | refine xI rfl ?_ | refine xE ?_ | refine xF ?_ | refine xG ?_) | go_values | go_skip | go_guarded | go_step | go_upon | go_back | ((with_reducible show Oper.upon _ _ _ _ _ _); go_simp) | (dsimp only)))
      go_ret
      exact ⟨ret_bool hR.out.symm, hG, hB⟩

end Go.Proofs.Ytmaogkgjiplckaa
