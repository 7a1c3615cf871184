import Derived.Test.YtmaogkgjiplckaaMC
import Derived.Test.YtmaogkgjiplckaaMD
set_option linter.unusedSimpArgs false
set_option linter.unusedVariables false
namespace Go.Proofs.Ytmaogkgjiplckaa
open Go.RowKit
theorem mayT {n : Nat} {x : Int} (h : isL n x) : (!badL n x) = true := by rw [bad_no.2 h]; rfl
theorem mayF {n : Nat} {x : Int} (h : ¬ isL n x) : (!badL n x) = false := by
  cases hb : badL n x
  · exact absurd (bad_no.1 hb) h
  · rfl
set_option maxRecDepth 100000 in
theorem may_any {X : Nat → Prop} {base gb : Nat} {g : G} (w : World) (hG : GR X base w gb g) (x : Int) (hx0 : -9223372036854775808 ≤ x ∧ x ≤ 9223372036854775807) (r : Bool) (hr : Hid ((!badL g.n x) = r)) :
    Calls Try.prog 20 #[.pointer (some ⟨gb, 0, none⟩), .int .i64 x] w fun e w' => e = .returned (.bool r) ∧ w' = w := by
  have hn := hG.n1
  have HG := Lib.hid hG
  obtain ⟨n, hnn⟩ : ∃ n : Int, (g.n : Int) = n := ⟨_, rfl⟩
  have hnb : 0 ≤ n ∧ n ≤ 1048576 := by omega
  have HV := Lib.hid (Vars_any w hG)
  rw [hnn] at HV
  clear hG hn
  have hiff : (isL g.n x) ↔ (x ≠ 0 ∧ x ≤ n ∧ -n ≤ x) := by unfold isL; omega
  by_cases h0 : x = 0
  · have e : r = false := by rw [← hr.out]; exact mayF (fun h => h.1 h0)
    subst e
    have h0' : (x != 0) = false := by simpa using h0
    go_enter Try.func20, Try.ntmps20
    (repeat (first | (with_reducible first | refine xA ?_ | refine xB ?_ | refine xC ?_ | refine xD ?_ | refine xH ?_ | refine xI rfl ?_ | refine xE ?_ | refine xF ?_ | refine xG ?_) | go_skip | go_guarded | (go_at_call 18; (with_reducible refine (HV.out).mono ?_); rintro _ w1 ⟨rfl, rfl⟩) | go_values | go_skip | go_guarded | go_step | go_upon | go_back | ((with_reducible show Oper.upon _ _ _ _ _ _); go_simp) | (dsimp only)))
    go_ret
    exact ⟨rfl, rfl⟩
  have h0' : (x != 0) = true := by simpa using h0
  by_cases h1 : x ≤ n
  · by_cases h2 : x ≥ -n
    · have e : r = true := by rw [← hr.out]; exact mayT (hiff.2 ⟨h0, h1, h2⟩)
      subst e
      clear hiff h0 hr hnn
      go_enter Try.func20, Try.ntmps20
      (repeat (first | (with_reducible first | refine xA ?_ | refine xB ?_ | refine xC ?_ | refine xD ?_ | refine xH ?_ | refine xI rfl ?_ | refine xE ?_ | refine xF ?_ | refine xG ?_) | go_skip | go_guarded | (go_at_call 18; (with_reducible refine (HV.out).mono ?_); rintro _ w1 ⟨rfl, rfl⟩) | go_values | go_skip | go_guarded | go_step | go_upon | go_back | ((with_reducible show Oper.upon _ _ _ _ _ _); go_simp) | (dsimp only)))
      go_ret
      exact ⟨rfl, rfl⟩
    · have e : r = false := by rw [← hr.out]; exact mayF (fun h => h2 (hiff.1 h).2.2)
      subst e
      clear hiff h0 hr hnn
      go_enter Try.func20, Try.ntmps20
      (repeat (first | (with_reducible first | refine xA ?_ | refine xB ?_ | refine xC ?_ | refine xD ?_ | refine xH ?_ | refine xI rfl ?_ | refine xE ?_ | refine xF ?_ | refine xG ?_) | go_skip | go_guarded | (go_at_call 18; (with_reducible refine (HV.out).mono ?_); rintro _ w1 ⟨rfl, rfl⟩) | go_values | go_skip | go_guarded | go_step | go_upon | go_back | ((with_reducible show Oper.upon _ _ _ _ _ _); go_simp) | (dsimp only)))
      go_ret
      exact ⟨rfl, rfl⟩
  · have e : r = false := by rw [← hr.out]; exact mayF (fun h => h1 (hiff.1 h).2.1)
    subst e
    clear hiff h0 hr hnn
    go_enter Try.func20, Try.ntmps20
    (repeat (first | (with_reducible first | refine xA ?_ | refine xB ?_ | refine xC ?_ | refine xD ?_ | refine xH ?_ | refine xI rfl ?_ | refine xE ?_ | refine xF ?_ | refine xG ?_) | go_skip | go_guarded | (go_at_call 18; (with_reducible refine (HV.out).mono ?_); rintro _ w1 ⟨rfl, rfl⟩) | go_values | go_skip | go_guarded | go_step | go_upon | go_back | ((with_reducible show Oper.upon _ _ _ _ _ _); go_simp) | (dsimp only)))
    go_ret
    exact ⟨rfl, rfl⟩

theorem words_one {X : Nat → Prop} {base gb : Nat} {g : G} (w : World) (hG : GR X base w gb g) (vx : Value) (xs : List Int) (hX : SlX X w vx xs) (hxl : xs.length ≤ 1000000) (r : Bool) (hr : Hid (wordB g.n xs.length xs = r)) :
    Calls Try.prog 38 #[.pointer (some ⟨gb, 0, none⟩), .slice (some ⟨w.heap.size, 0, none⟩) 1 1] (w.alloc (.cells #[vx] 26)) fun e w' => e = .returned (.bool r) ∧ GR X base w' gb g ∧ Below w.heap.size w w' := by
  have kx := hX.kept ((Kept.refl X w).alloc (.cells #[vx] 26))
  refine (words_any _ (hG.alloc _) w.heap.size 1 [vx] [xs] xs (heap_alloc_new w _) rfl ⟨rfl, ?_⟩ rfl ?_ (by omega) r (Lib.hid (by rw [List.all_cons, List.all_nil, Bool.and_true]; exact hr.out))).mono ?_
  · intro i x l h1 h2
    rcases i with _ | i
    · simp at h1 h2; subst h1; subst h2; exact kx.mono fun _ _ _ => trivial
    · simp at h1
  · intro l hl
    simp at hl
    rcases hl with rfl; assumption
  · rintro e w' ⟨h1, h2, h3⟩
    exact ⟨h1, h2, (Kept.toBelow (((Kept.refl (fun _ => True) w).alloc _).trans (Kept.mono (Kept.ofBelow (X := fun _ => True) h3) fun _ _ _ => trivial)) (Nat.le_refl _) fun _ _ => trivial)⟩

/-- a call that is refused -/
def ApplyNo (g : G) (op : Int) (xs ys : List Int) : Prop := op < 5 ∨ op > 21 ∨ op = 6 ∨ op = 7 ∨ wordB g.n xs.length xs = false ∨ (op ≠ 5 ∧ [xs, ys].all (wordB g.n xs.length) = false)
set_option maxRecDepth 100000 in
set_option maxHeartbeats 1000000 in
theorem Apply_no {X : Nat → Prop} {base gb : Nat} {g : G} (w : World) (hG : GR X base w gb g) (op : Int) (vx vy : Value) (xs ys : List Int) (hX : SlX X w vx xs) (hY : SlX X w vy ys) (hxl : xs.length ≤ 1000000) (hyl : ys.length ≤ 1000000) (hno : ApplyNo g op xs ys) :
    Calls Try.prog 24 #[.pointer (some ⟨gb, 0, none⟩), .int .i64 op, vx, vy] w fun e w' => e = .returned (.slice none 0 0) ∧ GR X base w' gb g ∧ Kept X w w' := by
  obtain ⟨ax, cx, rfl⟩ := hX.shape
  obtain ⟨ay, cy, rfl⟩ := hY.shape
  have hB := box4_new w gb op (.slice ax xs.length cx) (.slice ay ys.length cy) 24 3 26 26
  have hG4 := (((hG.alloc (.cells #[.pointer (some ⟨gb, 0, none⟩)] 24)).alloc (.cells #[.int .i64 op] 3)).alloc (.cells #[.slice ax xs.length cx] 26)).alloc (.cells #[.slice ay ys.length cy] 26)
  have HG4 := Lib.hid hG4
  have HK4 := Lib.hid (show Kept X w ((((w.alloc (.cells #[.pointer (some ⟨gb, 0, none⟩)] 24)).alloc (.cells #[.int .i64 op] 3)).alloc (.cells #[.slice ax xs.length cx] 26)).alloc (.cells #[.slice ay ys.length cy] 26)) from ((((Kept.refl X w).alloc _).alloc _).alloc _).alloc _)
  have hs4 : (((((w.alloc (.cells #[.pointer (some ⟨gb, 0, none⟩)] 24)).alloc (.cells #[.int .i64 op] 3)).alloc (.cells #[.slice ax xs.length cx] 26)).alloc (.cells #[.slice ay ys.length cy] 26))).heap.size = w.heap.size + 1 + 1 + 1 + 1 := by simp
  obtain ⟨q1, hq1⟩ : ∃ q, Hid (wordB g.n xs.length xs = q) := ⟨_, Lib.hid rfl⟩
  obtain ⟨q2, hq2⟩ : ∃ q, Hid ([xs, ys].all (wordB g.n xs.length) = q) := ⟨_, Lib.hid rfl⟩
  have hi := words_one ((((w.alloc (.cells #[.pointer (some ⟨gb, 0, none⟩)] 24)).alloc (.cells #[.int .i64 op] 3)).alloc (.cells #[.slice ax xs.length cx] 26)).alloc (.cells #[.slice ay ys.length cy] 26)) hG4 (.slice ax xs.length cx) xs (hX.kept HK4.out) hxl q1 hq1
  rw [hs4] at hi
  have HS4 := Lib.hid hs4
  have HI := Lib.hid hi
  have hB4 := hB
  obtain ⟨c0, c1, c2, c3⟩ := hB
  have HX := Lib.hid hX
  have HY := Lib.hid hY
  have Hxl := Lib.hid hxl
  have Hyl := Lib.hid hyl
  clear hX hY hxl hyl hi hG hG4 hs4
  by_cases o1 : op < 5
  · clear hno
    go_enter Try.func24, Try.ntmps24
    (repeat (first | (with_reducible first | refine xA ?_ | refine xB ?_ | refine xC ?_ | refine xD ?_ | refine xH ?_ | refine xI rfl ?_ | refine xE ?_ | refine xF ?_ | refine xG ?_) | go_values | go_skip | go_guarded | go_step | go_upon | go_back | ((with_reducible show Oper.upon _ _ _ _ _ _); go_simp) | (dsimp only)))
    go_ret; exact ⟨rfl, HG4.out, HK4.out⟩
  by_cases o2 : op > 21
  · clear hno
    go_enter Try.func24, Try.ntmps24
    (repeat (first | (with_reducible first | refine xA ?_ | refine xB ?_ | refine xC ?_ | refine xD ?_ | refine xH ?_ | refine xI rfl ?_ | refine xE ?_ | refine xF ?_ | refine xG ?_) | go_values | go_skip | go_guarded | go_step | go_upon | go_back | ((with_reducible show Oper.upon _ _ _ _ _ _); go_simp) | (dsimp only)))
    go_ret; exact ⟨rfl, HG4.out, HK4.out⟩
  by_cases o3 : op = 6
  · have o3' : (op == 6) = true := by simpa using o3
    clear hno o3
    go_enter Try.func24, Try.ntmps24
    (repeat (first | (with_reducible first | refine xA ?_ | refine xB ?_ | refine xC ?_ | refine xD ?_ | refine xH ?_ | refine xI rfl ?_ | refine xE ?_ | refine xF ?_ | refine xG ?_) | go_values | go_skip | go_guarded | go_step | go_upon | go_back | ((with_reducible show Oper.upon _ _ _ _ _ _); go_simp) | (dsimp only)))
    go_ret; exact ⟨rfl, HG4.out, HK4.out⟩
  have o3' : (op == 6) = false := by simpa using o3
  by_cases o4 : op = 7
  · have o4' : (op == 7) = true := by simpa using o4
    clear hno o4 o3
    go_enter Try.func24, Try.ntmps24
    (repeat (first | (with_reducible first | refine xA ?_ | refine xB ?_ | refine xC ?_ | refine xD ?_ | refine xH ?_ | refine xI rfl ?_ | refine xE ?_ | refine xF ?_ | refine xG ?_) | go_values | go_skip | go_guarded | go_step | go_upon | go_back | ((with_reducible show Oper.upon _ _ _ _ _ _); go_simp) | (dsimp only)))
    go_ret; exact ⟨rfl, HG4.out, HK4.out⟩
  have o4' : (op == 7) = false := by simpa using o4
  cases q1
  · clear hno o3 o4
    go_enter Try.func24, Try.ntmps24
    (repeat (first | (with_reducible first | refine xA ?_ | refine xB ?_ | refine xC ?_ | refine xD ?_ | refine xH ?_ | refine xI rfl ?_ | refine xE ?_ | refine xF ?_ | refine xG ?_) | go_skip | go_guarded | (go_at_call 38; (with_reducible refine (HI.out).mono ?_); rintro _ w1 ⟨rfl, hG1, hb0⟩; have hb1 : Below (((((w.alloc (.cells #[.pointer (some ⟨gb, 0, none⟩)] 24)).alloc (.cells #[.int .i64 op] 3)).alloc (.cells #[.slice ax xs.length cx] 26)).alloc (.cells #[.slice ay ys.length cy] 26))).heap.size ((((w.alloc (.cells #[.pointer (some ⟨gb, 0, none⟩)] 24)).alloc (.cells #[.int .i64 op] 3)).alloc (.cells #[.slice ax xs.length cx] 26)).alloc (.cells #[.slice ay ys.length cy] 26)) w1 := (by (rw [HS4.out]); exact hb0); clear hb0; have hB1 := hB4.kept hb1; obtain ⟨d0, d1, d2, d3⟩ := hB1; have hK1 := HK4.out.trans (Kept.ofBelow hb1); clear c0 c1 c2 c3 hb1; have hX1 := HX.out.kept hK1; have hY1 := HY.out.kept hK1) | go_values | go_skip | go_guarded | go_step | go_upon | go_back | ((with_reducible show Oper.upon _ _ _ _ _ _); go_simp) | (dsimp only)))
    go_ret
    exact ⟨rfl, hG1, hK1⟩
  · have hno2 : op ≠ 5 ∧ q2 = false := by
      unfold ApplyNo at hno
      rw [hq1.out, hq2.out] at hno
      rcases hno with h | h | h | h | h | h
      · exact absurd h o1
      · exact absurd h o2
      · exact absurd h o3
      · exact absurd h o4
      · cases h
      · exact h
    obtain ⟨h5, rfl⟩ := hno2
    have o5 : (op == 5) = false := by simpa using h5
    clear hno o3 o4 h5
    go_enter Try.func24, Try.ntmps24
    (repeat (first | (with_reducible first | refine xA ?_ | refine xB ?_ | refine xC ?_ | refine xD ?_ | refine xH ?_ | refine xI rfl ?_ | refine xE ?_ | refine xF ?_ | refine xG ?_) | go_skip | go_guarded | (go_at_call 38; (with_reducible refine (HI.out).mono ?_); rintro _ w1 ⟨rfl, hG1, hb0⟩; have hb1 : Below (((((w.alloc (.cells #[.pointer (some ⟨gb, 0, none⟩)] 24)).alloc (.cells #[.int .i64 op] 3)).alloc (.cells #[.slice ax xs.length cx] 26)).alloc (.cells #[.slice ay ys.length cy] 26))).heap.size ((((w.alloc (.cells #[.pointer (some ⟨gb, 0, none⟩)] 24)).alloc (.cells #[.int .i64 op] 3)).alloc (.cells #[.slice ax xs.length cx] 26)).alloc (.cells #[.slice ay ys.length cy] 26)) w1 := (by (rw [HS4.out]); exact hb0); clear hb0; have hB1 := hB4.kept hb1; obtain ⟨d0, d1, d2, d3⟩ := hB1; have hK1 := HK4.out.trans (Kept.ofBelow hb1); clear c0 c1 c2 c3 hb1; have hX1 := HX.out.kept hK1; have hY1 := HY.out.kept hK1) | (go_at_call 38; (with_reducible refine (words_two w1 hG1 _ _ xs ys hX1 hY1 Hxl.out Hyl.out _ hq2).mono ?_); rintro _ w2 ⟨rfl, hG2, hb2⟩) | go_values | go_skip | go_guarded | go_step | go_upon | go_back | ((with_reducible show Oper.upon _ _ _ _ _ _); go_simp) | (dsimp only)))
    go_ret
    exact ⟨rfl, hG2, hK1.trans (Kept.ofBelow hb2)⟩


end Go.Proofs.Ytmaogkgjiplckaa

set_option linter.unusedSimpArgs false
set_option linter.unusedVariables false
namespace Go.Proofs.Ytmaogkgjiplckaa
open Go.RowKit
/-- a constant's literals -/
def constL (n x : Nat) : List Int := (List.range n).map fun i => if x.testBit i then 1 else -1
theorem constL_succ (n x : Nat) : constL (n + 1) x = constL n x ++ [if x.testBit n then 1 else -1] := by simp [constL, List.range_succ]
theorem constL_len (n x : Nat) : (constL n x).length = n := by simp [constL]
theorem constL_isL {n x m : Nat} (hm : 1 ≤ m) : ∀ a ∈ constL n x, isL m a := by
  intro a ha
  obtain ⟨i, _, rfl⟩ := List.mem_map.1 ha
  split <;> exact ⟨by decide, by omega, by omega⟩
theorem constL_lit {s : Nat → Bool} (h : s 1 = true) (n x : Nat) : (constL n x).map (lit s) = (List.range n).map x.testBit := by
  unfold constL
  rw [List.map_map]
  refine List.map_congr_left fun i _ => ?_
  show lit s (if x.testBit i then 1 else -1) = _
  cases x.testBit i <;> simp [lit, h]
theorem bit_one {x : Int} (h0 : 0 ≤ x) (h1 : x < 18446744073709551616) (k : Nat) : (bits BinOp.and IntKind.u64 (x / 2 ^ min k 64) 1 == 1) = x.toNat.testBit k := by
  have h := bit_at h0 h1 k
  obtain ⟨n, rfl⟩ := Int.eq_ofNat_of_zero_le h0
  have hp := Nat.pow_pos (n := min k 64) (show 0 < 2 by omega)
  have e : ((n : Int) / 2 ^ min k 64) = ((n / 2 ^ min k 64 : Nat) : Int) := by rw [Int.natCast_ediv]; simp
  have e2 : bits BinOp.and IntKind.u64 ((n : Int) / 2 ^ min k 64) 1 = ((n / 2 ^ min k 64 &&& 1 : Nat) : Int) := by
    rw [e, show (1 : Int) = ((1 : Nat) : Int) from rfl, bits_and_u64_nat _ _ (Nat.lt_of_le_of_lt (Nat.div_le_self _ _) (by omega)) (by decide)]
  rw [e2] at h ⊢
  rw [Nat.and_one_is_mod] at h ⊢
  rcases Nat.mod_two_eq_zero_or_one (n / 2 ^ min k 64) with hz | hz <;> rw [hz] at h ⊢ <;> simp at h ⊢ <;> simp [h]

set_option maxRecDepth 100000 in
set_option maxHeartbeats 1000000 in
theorem WordC_any (w : World) (gb : Nat) (W x : Int) (hx0 : 0 ≤ x) (hx1 : x < 18446744073709551616) (N : Nat) (hN : max 1 (min W 64) = (N : Int)) :
    Calls Try.prog 26 #[.pointer (some ⟨gb, 0, none⟩), .int .i64 W, .int .u64 x] w fun e w' => e = .returned (.slice (some ⟨w.heap.size, 0, none⟩) N N) ∧ OwnI w' w.heap.size N (constL N x.toNat) ∧ Below w.heap.size w w' := by
  have hNb : 1 ≤ N ∧ N ≤ 64 := by omega
  go_enter Try.func26, Try.ntmps26
  (repeat (first | (with_reducible first | refine xA ?_ | refine xB ?_ | refine xC ?_ | refine xD ?_ | refine xH ?_ | refine xI rfl ?_ | refine xE ?_ | refine xF ?_ | refine xG ?_) | go_skip | go_guarded | ((with_reducible refine wl_id ?_); refine wl_make_own rfl _ _ rfl N (by first | rfl | exact congrArg (Value.int .i64) hN) (by first | rfl | exact congrArg (Value.int .i64) hN) (by omega) ?_; intro w1 hO hg; (try simp only [Act.put, List.setIfInBounds_toArray, List.set_cons_succ, List.set_cons_zero])) | go_values | go_skip | go_guarded | go_step | go_upon | go_back | ((with_reducible show Oper.upon _ _ _ _ _ _); go_simp) | (dsimp only)))
  have hb1 : Below w.heap.size w w1 := ⟨hg.os, hg.tape, hg.output, hg.size, fun k hk => hg.block k hk (by simp)⟩
  go_loopw [15] (fun i wr => ∃ k : Nat, k ≤ N ∧ i = .int .i64 k ∧ Hid (OwnI wr w.heap.size N (filled (constL k x.toNat) N)) ∧ Below w.heap.size w wr) (fun i _ => N - (intOf i).toNat)
  case atStart => exact ⟨0, Nat.zero_le _, rfl, Lib.hid (by simpa [filled, constL] using hO), hb1⟩
  case round =>
    clear hO hg hb1
    obtain ⟨k, hk, rfl, HO, hB⟩ := hrel
    rcases Nat.lt_or_ge k N with hlt | hge
    · have hbt := bit_one hx0 hx1 k
      rw [Nat.min_eq_left (by omega)] at hbt
      have i0 : (0 : Int) ≤ (k : Int) := by omega
      have i1 : (k : Int) < (N : Int) := by omega
      clear hN
      have e1 : ((filled (constL k x.toNat) N).set k (-1)) = filled (constL k x.toNat ++ [-1]) N := by
        have := filled_set (outs := constL k x.toNat) (n := N) (by rw [constL_len]; exact hlt) (-1)
        rwa [constL_len] at this
      have e2 : ((filled (constL k x.toNat ++ [-1]) N).set k 1) = filled (constL k x.toNat ++ [1]) N := by
        unfold filled
        rw [List.append_assoc, List.set_append_right _ _ (by rw [constL_len]; exact Nat.le_refl _), constL_len, Nat.sub_self]
        simp [constL_len]
      have E1 := Lib.hid e1
      have E2 := Lib.hid e2
      have ES := Lib.hid (constL_succ k x.toNat)
      clear e1 e2
      rcases hb : x.toNat.testBit k with _ | _
      all_goals rw [hb] at hbt ES
      · (repeat (first | (with_reducible first | refine xA ?_ | refine xB ?_ | refine xC ?_ | refine xD ?_ | refine xH ?_ | refine xI rfl ?_ | refine xE ?_ | refine xF ?_ | refine xG ?_) | go_skip | go_guarded | ((with_reducible refine wl_id ?_); refine wl_store_own rfl _ _ rfl w.heap.size N _ k rfl (-1) rfl HO.out (by omega) ?_; intro w3 hO3 hg3; have HO3 := Lib.hid hO3; have HG3 := Lib.hid hg3; clear hO3 hg3; (try simp only [Act.put, List.setIfInBounds_toArray, List.set_cons_succ, List.set_cons_zero])) | go_values | go_skip | go_guarded | go_step | go_upon | go_back | ((with_reducible show Oper.upon _ _ _ _ _ _); go_simp) | (dsimp only)))
        have h3 := HO3.out
        rw [E1.out] at h3
        exact ⟨⟨k + 1, by omega, by go_num, Lib.hid (by rw [ES.out]; exact h3), Below.grown hB HG3.out hB.size (fun q e => by injection e with e; omega)⟩, by simp [intOf]; omega⟩
      · (repeat (first | (with_reducible first | refine xA ?_ | refine xB ?_ | refine xC ?_ | refine xD ?_ | refine xH ?_ | refine xI rfl ?_ | refine xE ?_ | refine xF ?_ | refine xG ?_) | go_skip | go_guarded | ((with_reducible refine wl_id ?_); refine wl_store_own rfl _ _ rfl w.heap.size N _ k rfl 1 rfl HO3.out (by omega) ?_; intro w4 hO4 hg4; (try simp only [Act.put, List.setIfInBounds_toArray, List.set_cons_succ, List.set_cons_zero])) | ((with_reducible refine wl_id ?_); refine wl_store_own rfl _ _ rfl w.heap.size N _ k rfl (-1) rfl HO.out (by omega) ?_; intro w3 hO3 hg3; have HO3 := Lib.hid hO3; have HG3 := Lib.hid hg3; clear hO3 hg3; (try simp only [Act.put, List.setIfInBounds_toArray, List.set_cons_succ, List.set_cons_zero])) | go_values | go_skip | go_guarded | go_step | go_upon | go_back | ((with_reducible show Oper.upon _ _ _ _ _ _); go_simp) | (dsimp only)))
        rw [E1.out, E2.out] at hO4
        have hB3 := Below.grown hB HG3.out hB.size (fun q e => by injection e with e; omega)
        exact ⟨⟨k + 1, by omega, by go_num, Lib.hid (by rw [ES.out]; exact hO4), Below.grown hB3 hg4 hB3.size (fun q e => by injection e with e; omega)⟩, by simp [intOf]; omega⟩
    · obtain rfl : k = N := by omega
      (repeat (first | (with_reducible first | refine xA ?_ | refine xB ?_ | refine xC ?_ | refine xD ?_ | refine xH ?_ | refine xI rfl ?_ | refine xE ?_ | refine xF ?_ | refine xG ?_) | go_values | go_skip | go_guarded | go_step | go_upon | go_back | ((with_reducible show Oper.upon _ _ _ _ _ _); go_simp) | (dsimp only)))
      go_ret
      have h := HO.out
      rw [filled_full (constL_len _ _)] at h
      exact ⟨rfl, h, hB⟩

end Go.Proofs.Ytmaogkgjiplckaa

set_option linter.unusedSimpArgs false
set_option linter.unusedVariables false
namespace Go.Proofs.Ytmaogkgjiplckaa
open Go.RowKit
section
variable {ops : Array Oper} {rest : List Oper} {o : Oper} {a : Act} {w : World} {Q : Exit → Act → World → Prop}
theorem wl_store_rowI (hgd : o.guard = none) (x y : Operand) (ho : o.op = .store 3 x y) (B q n c : Nat) (l : List Int) (j : Nat) (hx : a.eval x = .pointer (some ⟨q, j, none⟩)) (u : Int) (hy : a.eval y = .int .i64 u) (hO : w.ownsRow B 3 1 (.slice (some ⟨q, 0, none⟩) n c) n (l.map (Value.int .i64))) (hj : j < n)
    (h : ∀ w', w'.ownsRow B 3 1 (.slice (some ⟨q, 0, none⟩) n c) n ((l.set j u).map (Value.int .i64)) → w.grownBy w' (some q) → wpList Try.prog ops Q rest (a.put o.dst undef) w') : wpList Try.prog ops Q (o :: rest) a w :=
  wpList_plain hgd fun _ hK => by
    have hl : l.length = n := by simpa using hO.1
    have hc := hO.cellAt j (by omega)
    have hlt : j < l.length := by omega
    rw [List.getElem?_map, List.getElem?_eq_getElem hlt] at hc
    have hf := hO.frozenAt j
    have hst : (Instr.storeAt 3 (.pointer (some ⟨q, j, none⟩)) (.int .i64 u)).run Try.prog w = .ok () (w.setCell ⟨q, j, none⟩ (.int .i64 u)) := by
      simp only [Option.map_some] at hc
      go_simp
    obtain ⟨s1, s2⟩ := hO.stored j (.int .i64 u)
    unfold Oper.wp execOp
    simp only [ho, hx, hy, Sem.run_bind, hst, Result.andThen_ok]
    exact hK _ _ (h _ (by rw [List.map_set]; exact s1) s2)
end
theorem choose_no {X : Nat → Prop} {base gb : Nat} {g : G} {fr : List Int} {s : Nat → Bool} (w : World) (hG : GR X base w gb g) (hba : base ≤ w.heap.size) (c : Int) (vx vy : Value) (xs ys : List Int) (hX : SlX X w vx xs) (hY : SlX X w vy ys) (hxl : xs.length ≤ 1000000) (hyl : ys.length ≤ 1000000) (hn : g.n + 192 ≤ 1048576) (hI : GI g fr s) (hr : ChooseR g c xs ys = none) :
    Calls Try.prog 13 #[.pointer (some ⟨gb, 0, none⟩), .int .i64 c, vx, vy] w fun e w' => e = .returned (.slice none 0 0) ∧ GR X base w' gb g ∧ Kept X w w' := Choose_any w hG hba c vx vy xs ys hX hY hxl hyl hn hI none (Lib.hid hr)

/-! what is refused -/
theorem all_no {n m v : Nat} {xs ys : List Int} (hx : xs.length = m) (hy : ys.length = v) (h : ¬ (m = v ∧ m ≤ 64)) : [xs, ys].all (wordB n xs.length) = false := by
  rw [List.all_cons, List.all_cons, List.all_nil, Bool.and_true]
  by_cases hm : m = v
  · have : wordB n xs.length xs = false := by unfold wordB; rw [decide_eq_false (by omega)]; rfl
    rw [this]; rfl
  · have : wordB n xs.length ys = false := by unfold wordB; rw [decide_eq_false (by omega)]; rfl
    rw [this]; simp
theorem choose_no_two {g : G} {m v : Nat} {c : Int} {xs ys : List Int} (hx : xs.length = m) (hy : ys.length = v) (h : ¬ (m = v ∧ m ≤ 64)) : ChooseR g c xs ys = none := by
  unfold ChooseR; rw [all_no hx hy h]; simp
theorem apply_no_two {g : G} {m v : Nat} {op : Int} {xs ys : List Int} (hx : xs.length = m) (hy : ys.length = v) (h : ¬ (m = v ∧ m ≤ 64)) (hl : ¬ (op = 5 ∧ m ≤ 64)) : ApplyNo g op xs ys := by
  unfold ApplyNo
  by_cases h5 : op = 5
  · refine .inr (.inr (.inr (.inr (.inl ?_))))
    unfold wordB; rw [decide_eq_false (by omega)]; rfl
  · exact .inr (.inr (.inr (.inr (.inr ⟨h5, all_no hx hy h⟩))))
theorem word_bad {n m : Nat} {l : List Int} {b : Int} (hb : b ∈ l) (h : ¬ isL n b) : wordB n m l = false := by
  unfold wordB
  have : allL n l = false := by
    cases ha : allL n l
    · rfl
    · exact absurd (allL_iff.1 ha b hb) h
  rw [this]; simp
theorem apply_no_bad {g : G} {op b : Int} {xs ys : List Int} (hb : b ∈ xs) (h : ¬ isL g.n b) : ApplyNo g op xs ys := .inr (.inr (.inr (.inr (.inl (word_bad hb h)))))
theorem choose_no_bad {g : G} {c b : Int} {xs ys : List Int} (hb : b ∈ xs) (h : ¬ isL g.n b) : ChooseR g c xs ys = none := by
  unfold ChooseR; rw [List.all_cons, word_bad hb h]; simp
theorem choose_no_lit {g : G} {b : Int} {xs ys : List Int} (h : ¬ isL g.n b) : ChooseR g b xs ys = none := by
  unfold ChooseR
  have : allL g.n [b] = false := by
    cases ha : allL g.n [b]
    · rfl
    · exact absurd (allL_iff.1 ha b (by simp)) h
  rw [this]; rfl

end Go.Proofs.Ytmaogkgjiplckaa

