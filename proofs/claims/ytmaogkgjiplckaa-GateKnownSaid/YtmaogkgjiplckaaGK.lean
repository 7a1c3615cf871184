import Derived.Test.YtmaogkgjiplckaaGJ
set_option linter.unusedSimpArgs false
set_option linter.unusedVariables false
namespace Go.Proofs.Ytmaogkgjiplckaa
open Go.RowKit

/-! are these literals? -/
def badL (n x : Int) : Bool := x == 0 || decide (n < x) || decide (x < -n)
theorem bad_no {n : Nat} {x : Int} : badL n x = false ↔ isL n x := by
  unfold badL isL
  simp only [Bool.or_eq_false_iff, beq_eq_false_iff_ne, ne_eq, decide_eq_false_iff_not]
  omega

theorem isc_any (gb bx : Nat) (N x : Int) (w : World) (hb : w.cell? ⟨bx, 0, none⟩ = some (.pointer (some ⟨gb, 0, none⟩))) (hg : w.cell? ⟨gb, 0, none⟩ = some (.int .i64 N)) (hN : 0 ≤ N ∧ N ≤ 1048576) (r : Bool) (hr : Hid (badL N x = r)) :
    Calls Try.prog 73 #[.int .i64 x, .pointer (some ⟨bx, 0, none⟩)] w fun e w' => e = .returned (.bool r) ∧ w = w' := by
  by_cases h0 : x = 0
  · subst h0
    go_enter Try.func73, Try.ntmps73
    (repeat (first | (with_reducible first | refine xA ?_ | refine xB ?_ | refine xC ?_ | refine xD ?_ | refine xH ?_ | refine xI rfl ?_ | refine xE ?_ | refine xF ?_ | refine xG ?_) | go_values | go_skip | go_guarded | go_step | go_upon | go_back | ((with_reducible show Oper.upon _ _ _ _ _ _); go_simp) | (dsimp only)))
    go_ret
    exact ⟨ret_bool (by rw [← hr.out]; simp [badL]), rfl⟩
  have f0 : (x == 0) = false := by simpa using h0
  by_cases h1 : N < x
  · have d1 : decide (N < x) = true := by simpa using h1
    clear h0
    go_enter Try.func73, Try.ntmps73
    (repeat (first | (with_reducible first | refine xA ?_ | refine xB ?_ | refine xC ?_ | refine xD ?_ | refine xH ?_ | refine xI rfl ?_ | refine xE ?_ | refine xF ?_ | refine xG ?_) | go_values | go_skip | go_guarded | go_step | go_upon | go_back | ((with_reducible show Oper.upon _ _ _ _ _ _); go_simp) | (dsimp only)))
    go_ret
    exact ⟨ret_bool (by rw [← hr.out]; simp [badL, h1]), rfl⟩
  have d1 : decide (N < x) = false := by simpa using h1
  by_cases h2 : x < -N
  · clear h0
    go_enter Try.func73, Try.ntmps73
    (repeat (first | (with_reducible first | refine xA ?_ | refine xB ?_ | refine xC ?_ | refine xD ?_ | refine xH ?_ | refine xI rfl ?_ | refine xE ?_ | refine xF ?_ | refine xG ?_) | go_values | go_skip | go_guarded | go_step | go_upon | go_back | ((with_reducible show Oper.upon _ _ _ _ _ _); go_simp) | (dsimp only)))
    go_ret
    exact ⟨ret_bool (by rw [← hr.out]; simp [badL, h2]), rfl⟩
  · clear h0
    go_enter Try.func73, Try.ntmps73
    (repeat (first | (with_reducible first | refine xA ?_ | refine xB ?_ | refine xC ?_ | refine xD ?_ | refine xH ?_ | refine xI rfl ?_ | refine xE ?_ | refine xF ?_ | refine xG ?_) | go_values | go_skip | go_guarded | go_step | go_upon | go_back | ((with_reducible show Oper.upon _ _ _ _ _ _); go_simp) | (dsimp only)))
    go_ret
    exact ⟨ret_bool (by rw [← hr.out]; simp [badL, f0, d1, h2]), rfl⟩

set_option maxRecDepth 100000 in
theorem index_any {X : Nat → Prop} (gb bx : Nat) (N : Int) (v : Value) (l : List Int) (w : World) (hl : SlX X w v l) (hll : l.length ≤ 1000000) (hb : w.cell? ⟨bx, 0, none⟩ = some (.pointer (some ⟨gb, 0, none⟩))) (hg : w.cell? ⟨gb, 0, none⟩ = some (.int .i64 N)) (hN : 0 ≤ N ∧ N ≤ 1048576) :
    Calls Try.prog 106 #[v, .func (Fn.func 73) #[] #[.pointer (some ⟨bx, 0, none⟩)]] w fun e w' => (∃ r : Int, e = .returned (.int .i64 r) ∧ decide (0 ≤ r) = l.any (badL N) ∧ -1 ≤ r ∧ r ≤ 1000000) ∧ w = w' := by
  obtain ⟨ao, c, rfl⟩ := hl.shape
  have HL := Lib.hid hl
  have hlb : (l.length : Int) ≤ 1000000 := by omega
  clear hl hll
  go_enter Try.func106, Try.ntmps106
  (repeat (first | (with_reducible first | refine xA ?_ | refine xB ?_ | refine xC ?_ | refine xD ?_ | refine xH ?_ | refine xI rfl ?_ | refine xE ?_ | refine xF ?_ | refine xG ?_) | go_values | go_skip | go_guarded | go_step | go_upon | go_back | ((with_reducible show Oper.upon _ _ _ _ _ _); go_simp) | (dsimp only)))
  go_loop [8] (fun i => ∃ k : Nat, k ≤ l.length ∧ i = .int .i64 k ∧ Hid (∀ j x, j < k → l[j]? = some x → badL N x = false)) (fun i => l.length - (intOf i).toNat)
  case atStart => exact ⟨0, Nat.zero_le _, rfl, Lib.hid (fun j x h => by omega)⟩
  case round =>
    obtain ⟨k, hk, rfl, hgood⟩ := hrel
    rcases Nat.lt_or_ge k l.length with hlt | hge
    · obtain ⟨b, o, rfl, xb, lb, cb, HR⟩ := HL.out.row (by omega)
      obtain ⟨x, hx⟩ : ∃ x, l[k]? = some x := ⟨_, List.getElem?_eq_getElem hlt⟩
      have hcx := HR k x hx
      have Hx := Lib.hid hx
      obtain ⟨r, hr⟩ : ∃ r, Hid (badL N x = r) := ⟨_, Lib.hid rfl⟩
      clear HR hx
      cases r
      · (repeat (first | (with_reducible first | refine xA ?_ | refine xB ?_ | refine xC ?_ | refine xD ?_ | refine xH ?_ | refine xI rfl ?_ | refine xE ?_ | refine xF ?_ | refine xG ?_) | go_skip | go_guarded | (go_at_call 73; (with_reducible refine (isc_any gb bx N x _ hb hg hN _ hr).mono ?_); rintro _ _ ⟨rfl, rfl⟩) | go_values | go_skip | go_guarded | go_step | go_upon | go_back | ((with_reducible show Oper.upon _ _ _ _ _ _); go_simp) | (dsimp only)))
        refine ⟨⟨k + 1, by omega, by go_num, Lib.hid (fun j y hj hy => ?_)⟩, by simp [intOf]; omega⟩
        rcases Nat.lt_or_ge j k with h | h
        · exact hgood.out j y h hy
        · have : j = k := by omega
          subst this
          rw [Hx.out] at hy
          cases hy
          exact hr.out
      · (repeat (first | (with_reducible first | refine xA ?_ | refine xB ?_ | refine xC ?_ | refine xD ?_ | refine xH ?_ | refine xI rfl ?_ | refine xE ?_ | refine xF ?_ | refine xG ?_) | go_skip | go_guarded | (go_at_call 73; (with_reducible refine (isc_any gb bx N x _ hb hg hN _ hr).mono ?_); rintro _ _ ⟨rfl, rfl⟩) | go_values | go_skip | go_guarded | go_step | go_upon | go_back | ((with_reducible show Oper.upon _ _ _ _ _ _); go_simp) | (dsimp only)))
        go_ret
        refine ⟨⟨_, rfl, ?_, by omega, by omega⟩, rfl⟩
        rw [decide_eq_true (by omega)]
        symm
        rw [List.any_eq_true]
        exact ⟨x, List.mem_of_getElem? Hx.out, hr.out⟩
    · obtain rfl : k = l.length := by omega
      (repeat (first | (with_reducible first | refine xA ?_ | refine xB ?_ | refine xC ?_ | refine xD ?_ | refine xH ?_ | refine xI rfl ?_ | refine xE ?_ | refine xF ?_ | refine xG ?_) | go_values | go_skip | go_guarded | go_step | go_upon | go_back | ((with_reducible show Oper.upon _ _ _ _ _ _); go_simp) | (dsimp only)))
      go_ret
      refine ⟨⟨_, rfl, ?_, by decide, by decide⟩, rfl⟩
      rw [decide_eq_false (by decide)]
      symm
      rw [List.any_eq_false]
      intro x hx
      obtain ⟨j, hj⟩ := List.mem_iff_getElem?.1 hx
      rw [hgood.out j x (List.getElem?_eq_some_iff.1 hj).1 hj]
      simp

set_option maxRecDepth 100000 in
theorem contains_any {X : Nat → Prop} (gb bx : Nat) (N : Int) (v : Value) (l : List Int) (w : World) (hl : SlX X w v l) (hll : l.length ≤ 1000000) (hb : w.cell? ⟨bx, 0, none⟩ = some (.pointer (some ⟨gb, 0, none⟩))) (hg : w.cell? ⟨gb, 0, none⟩ = some (.int .i64 N)) (hN : 0 ≤ N ∧ N ≤ 1048576) (r : Bool) (hr : Hid (l.any (badL N) = r)) :
    Calls Try.prog 72 #[v, .func (Fn.func 73) #[] #[.pointer (some ⟨bx, 0, none⟩)]] w fun e w' => e = .returned (.bool r) ∧ w = w' := by
  have HL := Lib.hid hl
  have Hll := Lib.hid hll
  clear hl hll
  go_enter Try.func72, Try.ntmps72
  (repeat (first | (with_reducible first | refine xA ?_ | refine xB ?_ | refine xC ?_ | refine xD ?_ | refine xH ?_ | refine xI rfl ?_ | refine xE ?_ | refine xF ?_ | refine xG ?_) | go_skip | go_guarded | (go_at_call 106; (with_reducible refine (index_any gb bx N v l _ HL.out Hll.out hb hg hN).mono ?_); rintro _ _ ⟨⟨q, rfl, hq, b1, b2⟩, rfl⟩; rw [hr.out] at hq) | go_values | go_skip | go_guarded | go_step | go_upon | go_back | ((with_reducible show Oper.upon _ _ _ _ _ _); go_simp) | (dsimp only)))
  go_ret
  exact ⟨rfl, rfl⟩

/-- all of them are literals -/
def allL (n : Nat) (l : List Int) : Bool := !l.any (badL n)
theorem allL_iff {n : Nat} {l : List Int} : allL n l = true ↔ ∀ x ∈ l, isL n x := by
  unfold allL
  rw [Bool.not_eq_true', List.any_eq_false]
  constructor
  · intro h x hx
    exact bad_no.1 (by simpa using h x hx)
  · intro h x hx
    rw [bad_no.2 (h x hx)]; simp
theorem GR.alloc {X : Nat → Prop} {base gb : Nat} {w : World} {g : G} (h : GR X base w gb g) (o : Obj) : GR X base (w.alloc o) gb g := by
  obtain ⟨v, ma, mx, xs, h⟩ := h; exact ⟨v, ma, mx, xs, h.alloc o⟩
theorem GR.cell0 {X : Nat → Prop} {base gb : Nat} {w : World} {g : G} (h : GR X base w gb g) : w.cell? ⟨gb, 0, none⟩ = some (.int .i64 (g.n : Int)) := by
  obtain ⟨v, ma, mx, xs, h⟩ := h; exact (box4g h.box).1
set_option maxRecDepth 100000 in
theorem is_any {X Y : Nat → Prop} {base gb : Nat} {g : G} (v : Value) (l : List Int) (w : World) (hG : GR X base w gb g) (hl : SlX Y w v l) (hll : l.length ≤ 1000000) (r : Bool) (hr : Hid (allL g.n l = r)) :
    Calls Try.prog 37 #[.pointer (some ⟨gb, 0, none⟩), v] w fun e w' => e = .returned (.bool r) ∧ GR X base w' gb g ∧ Below w.heap.size w w' := by
  have hG1 := hG.alloc (.cells #[.pointer (some ⟨gb, 0, none⟩)] 24)
  have hl1 := hl.kept ((Kept.refl Y w).alloc (.cells #[.pointer (some ⟨gb, 0, none⟩)] 24))
  have hbx : (w.alloc (.cells #[.pointer (some ⟨gb, 0, none⟩)] 24)).cell? ⟨w.heap.size, 0, none⟩ = some (.pointer (some ⟨gb, 0, none⟩)) := by rw [World.cell?_alloc_new]; rfl
  have hc := hG1.cell0
  have hN : (0 : Int) ≤ g.n ∧ (g.n : Int) ≤ 1048576 := by have := hG.n1; omega
  obtain ⟨N, hNe⟩ : ∃ N : Int, (g.n : Int) = N := ⟨_, rfl⟩
  obtain ⟨q, hq⟩ : ∃ q, Hid (l.any (badL N) = q) := ⟨_, Lib.hid rfl⟩
  have hrq : Hid (r = !q) := Lib.hid (by rw [← hr.out, ← hq.out, ← hNe]; rfl)
  rw [hNe] at hc hN
  have HL := Lib.hid hl1
  have HG1 := Lib.hid hG1
  have Hll := Lib.hid hll
  have HNe := Lib.hid hNe
  clear hG hl hl1 hG1 hll hNe hr
  go_enter Try.func37, Try.ntmps37
  (repeat (first | (with_reducible first | refine xA ?_ | refine xB ?_ | refine xC ?_ | refine xD ?_ | refine xH ?_ | refine xI rfl ?_ | refine xE ?_ | refine xF ?_ | refine xG ?_) | go_skip | go_guarded | (go_at_call 72; (with_reducible refine (contains_any gb w.heap.size N v l _ HL.out Hll.out hbx hc hN q hq).mono ?_); rintro _ _ ⟨rfl, rfl⟩) | go_values | go_skip | go_guarded | go_step | go_upon | go_back | ((with_reducible show Oper.upon _ _ _ _ _ _); go_simp) | (dsimp only)))
  go_ret
  exact ⟨ret_bool hrq.out.symm, HG1.out, Below.alloc (Below.refl _ _) (Nat.le_refl _) _⟩

end Go.Proofs.Ytmaogkgjiplckaa
