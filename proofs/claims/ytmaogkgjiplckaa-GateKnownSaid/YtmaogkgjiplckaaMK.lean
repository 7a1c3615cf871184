import Derived.Test.YtmaogkgjiplckaaMH
import Derived.Test.YtmaogkgjiplckaaMJ
import Derived.Test.YtmaogkgjiplckaaSH
import Derived.Test.YtmaogkgjiplckaaMB
set_option linter.unusedSimpArgs false
set_option linter.unusedVariables false
namespace Go.Proofs.Ytmaogkgjiplckaa
open Go.RowKit
theorem notL_upto {l : List Int} {k : Nat} {x : Int} (h : l[k]? = some x) : notL (l.take (k + 1)) = notL (l.take k) ++ [-x] := by
  rw [list_upto h]; simp [notL]
set_option maxRecDepth 100000 in
set_option maxHeartbeats 1000000 in
theorem turned_any {X : Nat → Prop} (w : World) (v : Value) (l : List Int) (hl : SlX X w v l) (hll : l.length ≤ 1000000) (hb : ∀ x ∈ l, -1048576 ≤ x ∧ x ≤ 1048576) :
    Calls Try.prog 46 #[v] w fun e w' => e = .returned (.slice (some ⟨w.heap.size, 0, none⟩) l.length l.length) ∧ OwnI w' w.heap.size l.length (notL l) ∧ Below w.heap.size w w' := by
  obtain ⟨a, c, rfl⟩ := hl.shape
  have HL := Lib.hid hl
  have HB := Lib.hid hb
  have hlI : (l.length : Int) ≤ 1000000 := by omega
  clear hl hb
  go_enter Try.func46, Try.ntmps46
  (repeat (first | (with_reducible first | refine xA ?_ | refine xB ?_ | refine xC ?_ | refine xD ?_ | refine xH ?_ | refine xI rfl ?_ | refine xE ?_ | refine xF ?_ | refine xG ?_) | go_skip | go_guarded | ((with_reducible refine wl_id ?_); refine wl_make_own rfl _ _ rfl l.length rfl rfl hll ?_; intro w1 hO hg; (try simp only [Act.put, List.setIfInBounds_toArray, List.set_cons_succ, List.set_cons_zero])) | go_values | go_skip | go_guarded | go_step | go_upon | go_back | ((with_reducible show Oper.upon _ _ _ _ _ _); go_simp) | (dsimp only)))
  have hb1 : Below w.heap.size w w1 := ⟨hg.os, hg.tape, hg.output, hg.size, fun k hk => hg.block k hk (by simp)⟩
  go_loopw [10] (fun i wr => ∃ k : Nat, k ≤ l.length ∧ i = .int .i64 k ∧ Hid (OwnI wr w.heap.size l.length (filled (notL (l.take k)) l.length)) ∧ Below w.heap.size w wr) (fun i _ => l.length - (intOf i).toNat)
  case atStart => exact ⟨0, Nat.zero_le _, rfl, Lib.hid (by simpa [filled, notL] using hO), hb1⟩
  case round =>
    clear hO hg hb1
    obtain ⟨k, hk, rfl, HO, hB⟩ := hrel
    rcases Nat.lt_or_ge k l.length with hlt | hge
    · obtain ⟨b, o, rfl, _, _, _, hR⟩ := HL.out.row (by omega)
      obtain ⟨x, hx⟩ : ∃ y, l[k]? = some y := ⟨_, List.getElem?_eq_getElem hlt⟩
      have hcx := cell_keep hB (hR k x hx)
      have hxb := HB.out x (List.mem_of_getElem? hx)
      have HU := Lib.hid (notL_upto hx)
      have i0 : (0 : Int) ≤ (k : Int) := by omega
      have i1 : (k : Int) < (l.length : Int) := by omega
      clear hR hx
      (repeat (first | (with_reducible first | refine xA ?_ | refine xB ?_ | refine xC ?_ | refine xD ?_ | refine xH ?_ | refine xI rfl ?_ | refine xE ?_ | refine xF ?_ | refine xG ?_) | go_skip | go_guarded | ((with_reducible refine wl_id ?_); refine wl_store_own rfl _ _ rfl w.heap.size l.length _ k rfl (-x) rfl HO.out hlt ?_; intro w3 hO3 hg3; (try simp only [Act.put, List.setIfInBounds_toArray, List.set_cons_succ, List.set_cons_zero])) | go_values | go_skip | go_guarded | go_step | go_upon | go_back | ((with_reducible show Oper.upon _ _ _ _ _ _); go_simp) | (dsimp only)))
      have hlk : (notL (l.take k)).length = k := by rw [notL_len, List.length_take]; omega
      have e := filled_set (outs := notL (l.take k)) (n := l.length) (by rw [hlk]; exact hlt) (-x)
      rw [hlk] at e
      rw [e] at hO3
      exact ⟨⟨k + 1, by omega, by go_num, Lib.hid (by rw [HU.out]; exact hO3), Below.grown hB hg3 hB.size (fun q e => by injection e with e; omega)⟩, by simp [intOf]; omega⟩
    · obtain rfl : k = l.length := by omega
      (repeat (first | (with_reducible first | refine xA ?_ | refine xB ?_ | refine xC ?_ | refine xD ?_ | refine xH ?_ | refine xI rfl ?_ | refine xE ?_ | refine xF ?_ | refine xG ?_) | go_values | go_skip | go_guarded | go_step | go_upon | go_back | ((with_reducible show Oper.upon _ _ _ _ _ _); go_simp) | (dsimp only)))
      go_ret
      have h := HO.out
      rw [List.take_of_length_le (Nat.le_refl _), filled_full (notL_len _)] at h
      exact ⟨rfl, h, hB⟩

end Go.Proofs.Ytmaogkgjiplckaa

set_option linter.unusedSimpArgs false
set_option linter.unusedVariables false
namespace Go.Proofs.Ytmaogkgjiplckaa
open Go.RowKit
theorem upL_get {l : List Int} {j : Nat} {i : Int} {k : Nat} (hk : k < l.length) : (upL l j i)[k]? = if k < j then some i else l[k - j]? := by
  unfold upL
  rw [List.getElem?_take, if_pos hk, List.getElem?_append, List.length_replicate]
  split
  · rename_i h; rw [List.getElem?_replicate, if_pos h]
  · rfl
theorem filled_two {outs : List Int} {n k : Nat} (h : outs.length = k) (hk : k < n) (a b : Int) : (filled (outs ++ [a]) n).set k b = filled (outs ++ [b]) n := by
  subst h
  unfold filled
  rw [List.append_assoc, List.set_append_right _ _ (Nat.le_refl _), Nat.sub_self]
  simp
set_option maxRecDepth 100000 in
set_option maxHeartbeats 1000000 in
theorem upG_any {X : Nat → Prop} (w : World) (v : Value) (l : List Int) (hl : SlX X w v l) (hll : l.length ≤ 1000000) (j : Nat) (hj : j ≤ 1000000) (i : Int) :
    Calls Try.prog 107 #[v, .int .i64 j, .int .i64 i] w fun e w' => e = .returned (.slice (some ⟨w.heap.size, 0, none⟩) l.length l.length) ∧ OwnI w' w.heap.size l.length (upL l j i) ∧ Below w.heap.size w w' := by
  obtain ⟨a, c, rfl⟩ := hl.shape
  have HL := Lib.hid hl
  have hlI : (l.length : Int) ≤ 1000000 := by omega
  have hjI : (j : Int) ≤ 1000000 := by omega
  clear hl
  go_enter Try.func107, Try.ntmps107
  (repeat (first | (with_reducible first | refine xA ?_ | refine xB ?_ | refine xC ?_ | refine xD ?_ | refine xH ?_ | refine xI rfl ?_ | refine xE ?_ | refine xF ?_ | refine xG ?_) | go_skip | go_guarded | ((with_reducible refine wl_id ?_); refine wl_make_own rfl _ _ rfl l.length rfl rfl hll ?_; intro w1 hO hg; (try simp only [Act.put, List.setIfInBounds_toArray, List.set_cons_succ, List.set_cons_zero])) | go_values | go_skip | go_guarded | go_step | go_upon | go_back | ((with_reducible show Oper.upon _ _ _ _ _ _); go_simp) | (dsimp only)))
  have hb1 : Below w.heap.size w w1 := ⟨hg.os, hg.tape, hg.output, hg.size, fun k hk => hg.block k hk (by simp)⟩
  go_loopw [14] (fun u wr => ∃ k : Nat, k ≤ l.length ∧ u = .int .i64 k ∧ Hid (OwnI wr w.heap.size l.length (filled ((upL l j i).take k) l.length)) ∧ Below w.heap.size w wr) (fun u _ => l.length - (intOf u).toNat)
  case atStart => exact ⟨0, Nat.zero_le _, rfl, Lib.hid (by simpa [filled] using hO), hb1⟩
  case round =>
    clear hO hg hb1
    obtain ⟨k, hk, rfl, HO, hB⟩ := hrel
    rcases Nat.lt_or_ge k l.length with hlt | hge
    · have i0 : (0 : Int) ≤ (k : Int) := by omega
      have i1 : (k : Int) < (l.length : Int) := by omega
      have hlk : ((upL l j i).take k).length = k := by rw [List.length_take, upL_len]; omega
      have E1 := Lib.hid (by have h := filled_set (outs := (upL l j i).take k) (n := l.length) (by rw [hlk]; exact hlt) i; rw [hlk] at h; exact h)
      rcases Nat.lt_or_ge k j with hkj | hkj
      · have HU := Lib.hid (show (upL l j i).take (k + 1) = (upL l j i).take k ++ [i] from list_upto (by rw [upL_get hlt, if_pos hkj]))
        have f1 : ¬ (k : Int) ≥ (j : Int) := by omega
        have HCX : Hid (∀ w3 : World, wr.grownBy w3 (some w.heap.size) → True) := Lib.hid fun _ _ => trivial
        clear hlk
        (repeat (first | (with_reducible first | refine xA ?_ | refine xB ?_ | refine xC ?_ | refine xD ?_ | refine xH ?_ | refine xI rfl ?_ | refine xE ?_ | refine xF ?_ | refine xG ?_) | go_skip | go_guarded | ((with_reducible refine wl_id ?_); refine wl_store_own rfl _ _ rfl w.heap.size l.length _ k rfl i rfl HO.out hlt ?_; intro w3 hO3 hg3; have HO3 := Lib.hid hO3; have HG3 := Lib.hid hg3; have hcx3 := HCX.out w3 hg3; clear hO3 hg3; (try simp only [Act.put, List.setIfInBounds_toArray, List.set_cons_succ, List.set_cons_zero])) | go_values | go_skip | go_guarded | go_step | go_upon | go_back | ((with_reducible show Oper.upon _ _ _ _ _ _); go_simp) | (dsimp only)))
        have h3 := HO3.out
        rw [E1.out] at h3
        exact ⟨⟨k + 1, by omega, by go_num, Lib.hid (by rw [HU.out]; exact h3), Below.grown hB HG3.out hB.size (fun q e => by injection e with e; omega)⟩, by simp [intOf]; omega⟩
      · obtain ⟨b, o, rfl, _, _, _, hR⟩ := HL.out.row (by omega)
        obtain ⟨x, hx⟩ : ∃ y, l[k - j]? = some y := ⟨_, List.getElem?_eq_getElem (by omega)⟩
        have hcx := hR (k - j) x hx
        have hbl : b < w.heap.size := World.block_lt_of_cell? w _ hcx
        have HCX : Hid (∀ w3 : World, wr.grownBy w3 (some w.heap.size) → w3.cell? ⟨b, o + (k - j), none⟩ = some (.int .i64 x)) := Lib.hid fun w3 hg => cell_keep (Below.grown hB hg hB.size (fun q e => by injection e with e; omega)) hcx
        have HU := Lib.hid (show (upL l j i).take (k + 1) = (upL l j i).take k ++ [x] from list_upto (by rw [upL_get hlt, if_neg (by omega)]; exact hx))
        have E2 := Lib.hid (filled_two hlk hlt i x)
        have f1 : (k : Int) ≥ (j : Int) := by omega
        have f2 : (0 : Int) ≤ (k : Int) - (j : Int) := by omega
        have f3 : (k : Int) - (j : Int) < (l.length : Int) := by omega
        have f4 : ((k : Int) - (j : Int)).toNat = k - j := by omega
        clear hR hx hcx hbl hlk
        (repeat (first | (with_reducible first | refine xA ?_ | refine xB ?_ | refine xC ?_ | refine xD ?_ | refine xH ?_ | refine xI rfl ?_ | refine xE ?_ | refine xF ?_ | refine xG ?_) | go_skip | go_guarded | ((with_reducible refine wl_id ?_); refine wl_store_own rfl _ _ rfl w.heap.size l.length _ k rfl x rfl HO3.out hlt ?_; intro w4 hO4 hg4; (try simp only [Act.put, List.setIfInBounds_toArray, List.set_cons_succ, List.set_cons_zero])) | ((with_reducible refine wl_id ?_); refine wl_store_own rfl _ _ rfl w.heap.size l.length _ k rfl i rfl HO.out hlt ?_; intro w3 hO3 hg3; have HO3 := Lib.hid hO3; have HG3 := Lib.hid hg3; have hcx3 := HCX.out w3 hg3; clear hO3 hg3; (try simp only [Act.put, List.setIfInBounds_toArray, List.set_cons_succ, List.set_cons_zero])) | go_values | go_skip | go_guarded | go_step | go_upon | go_back | ((with_reducible show Oper.upon _ _ _ _ _ _); go_simp) | (dsimp only)))
        rw [E1.out, E2.out] at hO4
        have hB3 := Below.grown hB HG3.out hB.size (fun q e => by injection e with e; omega)
        exact ⟨⟨k + 1, by omega, by go_num, Lib.hid (by rw [HU.out]; exact hO4), Below.grown hB3 hg4 hB3.size (fun q e => by injection e with e; omega)⟩, by simp [intOf]; omega⟩
    · obtain rfl : k = l.length := by omega
      (repeat (first | (with_reducible first | refine xA ?_ | refine xB ?_ | refine xC ?_ | refine xD ?_ | refine xH ?_ | refine xI rfl ?_ | refine xE ?_ | refine xF ?_ | refine xG ?_) | go_values | go_skip | go_guarded | go_step | go_upon | go_back | ((with_reducible show Oper.upon _ _ _ _ _ _); go_simp) | (dsimp only)))
      go_ret
      have h := HO.out
      rw [List.take_of_length_le (by rw [upL_len]; exact Nat.le_refl _), filled_full (upL_len _ _ _)] at h
      exact ⟨rfl, h, hB⟩

end Go.Proofs.Ytmaogkgjiplckaa

set_option linter.unusedSimpArgs false
set_option linter.unusedVariables false
namespace Go.Proofs.Ytmaogkgjiplckaa
open Go.RowKit
open Go.Shelf Go.RowKit Go.Lib Go.Sort
theorem back_row {w : World} {B : Nat} {v : Value} {l : List Int} (hO : w.ownsRow B 3 1 v l.length (l.map (Value.int .i64))) (hp : 0 < l.length) (hll : l.length ≤ 1000000) : ∃ (g cap : Nat) (cur : Array Value), v = .slice (some ⟨g, 0, none⟩) l.length cap ∧
    (Calls Try.prog 108 #[.slice (some ⟨g, 0, none⟩) l.length cap] w fun e w' => e = .returned (.tuple #[]) ∧ ∃ n, w' = putRow (Value.int .i64) (Sort.ahead w n) g 0 l.reverse.toArray) ∧
    ∀ w' n, w' = putRow (Value.int .i64) (Sort.ahead w n) g 0 l.reverse.toArray → w'.ownsRow B 3 1 (.slice (some ⟨g, 0, none⟩) l.length cap) l.length (l.reverse.map (Value.int .i64)) ∧ w.grownBy w' (some g) := by
  rcases hO.2 with ⟨_, h0⟩ | ⟨g, cap, cur, rfl, hb, hh, hnc, hcm, hcs, htk⟩
  · omega
  · refine ⟨g, cap, cur, rfl, Try.slices_Reverse_int g 0 cap l w (holds_of_blockI hh (by simpa using htk)) (by omega), fun w' n e => ?_⟩
    subst e
    have h1 := ownsRow_sortedI (n := n) (os := #[]) (ts := l.reverse) (ss := l) (by simp) hb hh hnc hcm hcs
    have h2 := grownBy_sortedI (w := w) (g := g) (n := n) (os := #[]) l.reverse.toArray
    rw [grow_empty] at h1 h2
    exact ⟨h1, h2⟩
set_option maxRecDepth 100000 in
set_option maxHeartbeats 1000000 in
theorem back_any {X : Nat → Prop} (w : World) (v : Value) (l : List Int) (hl : SlX X w v l) (hne : l ≠ []) (hll : l.length ≤ 1000000) :
    Calls Try.prog 85 #[v] w fun e w' => ∃ v', e = .returned v' ∧ w'.ownsRow w.heap.size 3 1 v' l.length (l.reverse.map (Value.int .i64)) ∧ Below w.heap.size w w' := by
  have HC := Lib.hid (clone_any v l w hl hne hll)
  have HP := Lib.hid (List.length_pos_iff.2 hne)
  have HL := Lib.hid hll
  obtain ⟨a, c, rfl⟩ := hl.shape
  clear hl hne hll
  go_enter Try.func85, Try.ntmps85
  (repeat (first | (with_reducible first | refine xA ?_ | refine xB ?_ | refine xC ?_ | refine xD ?_ | refine xH ?_ | refine xI rfl ?_ | refine xE ?_ | refine xF ?_ | refine xG ?_) | go_skip | go_guarded | (go_at_call 57; (with_reducible refine (HC.out).mono ?_); rintro _ w1 ⟨v1, rfl, hO1, hb1⟩; obtain ⟨g, cap, cur, hv1, hRV, hfin⟩ := back_row hO1 HP.out HL.out; subst hv1) | (go_at_call 108; (with_reducible refine (hRV).mono ?_); rintro _ w2 ⟨rfl, n, hw2⟩; obtain ⟨h3, h4⟩ := hfin w2 n hw2; clear hfin hRV) | go_values | go_skip | go_guarded | go_step | go_upon | go_back | ((with_reducible show Oper.upon _ _ _ _ _ _); go_simp) | (dsimp only)))
  go_ret
  exact ⟨_, rfl, h3, Below.grown hb1 h4 hb1.size (fun q e => by injection e with e; subst e; exact (hO1.lt _ rfl).1)⟩

end Go.Proofs.Ytmaogkgjiplckaa

set_option linter.unusedSimpArgs false
set_option linter.unusedVariables false
namespace Go.Proofs.Ytmaogkgjiplckaa
open Go.RowKit
set_option maxRecDepth 100000 in
set_option maxHeartbeats 1000000 in
theorem signs_any {X : Nat → Prop} (w : World) (v : Value) (l : List Int) (hl : SlX X w v l) (n : Nat) (hn : l.length = n + 1) (x : Int) (hx : l[n]? = some x) (hxb : -1048576 ≤ x ∧ x ≤ 1048576) (hll : l.length ≤ 1000000) :
    Calls Try.prog 88 #[v] w fun e w' => ∃ v', e = .returned v' ∧ w'.ownsRow w.heap.size 3 1 v' l.length ((l.set n (-x)).map (Value.int .i64)) ∧ Below w.heap.size w w' := by
  have hne : l ≠ [] := by rintro rfl; simp at hn
  have HC := Lib.hid (clone_any v l w hl hne hll)
  have hnI : ((l.length : Nat) : Int) - 1 = n := by omega
  have hnb : (n : Int) ≤ 1000000 := by omega
  have hni : (n : Int) < (l.length : Int) := by omega
  have hn0 : (0 : Int) ≤ n := by omega
  obtain ⟨a, c, rfl⟩ := hl.shape
  have HX := Lib.hid hx
  have HN := Lib.hid hn
  clear hl hne hll hx hn
  go_enter Try.func88, Try.ntmps88
  (repeat (first | (with_reducible first | refine xA ?_ | refine xB ?_ | refine xC ?_ | refine xD ?_ | refine xH ?_ | refine xI rfl ?_ | refine xE ?_ | refine xF ?_ | refine xG ?_) | go_skip | go_guarded | (go_at_call 57; (with_reducible refine (HC.out).mono ?_); rintro _ w1 ⟨v1, rfl, hO1, hb1⟩; obtain ⟨g, cap, hv1⟩ : ∃ g cap, v1 = .slice (some ⟨g, 0, none⟩) l.length cap := (by rcases hO1.2 with ⟨_, h0⟩ | ⟨g, cap, cur, e, _⟩; (· have := HN.out; omega); (· exact ⟨g, cap, e⟩)); subst hv1; have hcx := (RowI.ofOwns hO1) n x HX.out; (rw [Nat.zero_add] at hcx)) | ((with_reducible refine wl_id ?_); refine wl_store_rowI rfl _ _ rfl w.heap.size g l.length cap l n rfl (-x) rfl hO1 (by have := HN.out; omega) ?_; intro w3 hO3 hg3; (try simp only [Act.put, List.setIfInBounds_toArray, List.set_cons_succ, List.set_cons_zero])) | go_values | go_skip | go_guarded | go_step | go_upon | go_back | ((with_reducible show Oper.upon _ _ _ _ _ _); go_simp) | (dsimp only)))
  go_ret
  exact ⟨_, rfl, hO3, Below.grown hb1 hg3 hb1.size (fun q e => by injection e with e; subst e; exact (hO1.lt _ rfl).1)⟩

end Go.Proofs.Ytmaogkgjiplckaa

