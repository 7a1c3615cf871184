import Derived.Test.YtmaogkgjiplckaaWK
import Derived.Deep.WholeRow
set_option linter.unusedSimpArgs false
set_option linter.unusedVariables false
namespace Go.Proofs.Ytmaogkgjiplckaa
open Go.RowKit

/-- 64 bits, as the cells of an array of bools -/
def bw (n : Nat) : Array Value := Array.ofFn (n := 64) fun i => Value.bool (n.testBit i)
theorem bw_size (n : Nat) : (bw n).size = 64 := by simp [bw]
theorem bw_get (n i : Nat) (h : i < 64) : (bw n)[i]? = some (.bool (n.testBit i)) := by simp [bw, h]
theorem bw_one (n : Nat) : (bw n).all (·.oneCell') = true := by
  rw [Array.all_eq_true]; intro i h; simp [bw, Value.oneCell']

def setb (n i : Nat) (v : Bool) : Nat := if n.testBit i = v then n else n ^^^ 2 ^ i
theorem setb_test (n i j : Nat) (v : Bool) : (setb n i v).testBit j = if i = j then v else n.testBit j := by
  unfold setb
  split
  · split
    · subst_vars; rfl
    · rfl
  · rename_i h
    rw [Nat.testBit_xor, Nat.testBit_two_pow]
    by_cases e : i = j
    · subst e; simp; cases v <;> cases hh : n.testBit i <;> simp_all
    · simp [e]
theorem bw_set (n i : Nat) (v : Bool) : (bw n).setIfInBounds i (.bool v) = bw (setb n i v) := by
  apply Array.ext_getElem?
  intro j
  by_cases hj : j < 64
  · rw [bw_get _ _ hj, setb_test]
    by_cases e : i = j
    · subst e; simp [bw_size, hj]
    · rw [Array.getElem?_setIfInBounds_ne e, bw_get _ _ hj]; simp [e]
  · rw [Array.getElem?_eq_none (by simp [bw_size]; omega), Array.getElem?_eq_none (by simp [bw_size]; omega)]

theorem zero29 : (Try.prog.info? 80).map (fun i => (i.zero, i.size)) = some (some (.agg (bw 0)), 64) := by kernel_rfl

theorem heap_row (w : World) (b n : Nat) (h : w.heap[b]? = some (.cells (bw n) 80 (0, 0))) (i : Nat) (hi : i < 64) : w.cell? ⟨b, i, none⟩ = some (.bool (n.testBit i)) := by
  rw [cell_of_row _ _ _ _ _ _ h, bw_get _ _ hi]

theorem load29 (w : World) (b n : Nat) (h : w.heap[b]? = some (.cells (bw n) 80 (0, 0))) : (Instr.loadAt 80 (.pointer (some ⟨b, 0, none⟩))).run Try.prog w = .ok (.agg (bw n)) w := by
  simp only [Instr.loadAt, Instr.sureAddr, Sem.run_bind, Sem.run_pure, Result.andThen_ok]
  exact run_loadVar_row w b 80 80 (bw n) (0, 0) _ h Try.underlying80 rfl (by rw [bw_size]; exact (zero_of_info zero29).2)

theorem store29 (w : World) (b n m : Nat) (h : w.heap[b]? = some (.cells (bw n) 80 (0, 0))) : (Instr.storeAt 80 (.pointer (some ⟨b, 0, none⟩)) (.agg (bw m))).run Try.prog w = .ok () (w.setRow b (bw m)) := by
  simp only [Instr.storeAt, Instr.sureAddr, Sem.run_bind, Sem.run_pure, Result.andThen_ok]
  exact run_storeVar_row w b 80 80 (bw n) (bw m) h (by rw [bw_size]; exact (zero_of_info zero29).2) (by rw [bw_size, bw_size]) (bw_one m)

theorem res29 {fn : Func} {p : Tmp} (h : fn.results = #[.cell p 80]) (tmps : Array Value) (w : World) (b n : Nat) (hp : tmps.getD p undef = .pointer (some ⟨b, 0, none⟩))
    (hg : w.heap[b]? = some (.cells (bw n) 80 (0, 0))) : (results fn tmps).run Try.prog w = .ok (.agg (bw n)) w :=
  results_cell_row h tmps w b 80 (bw n) (0, 0) _ hp hg Try.underlying80 rfl (by rw [bw_size]; exact (zero_of_info zero29).2)

section
variable {ops : Array Oper} {rest : List Oper} {o : Oper} {a : Act} {w : World} {Q : Exit → Act → World → Prop}
theorem wl_load29 (hgd : o.guard = none) (x : Operand) (ho : o.op = .load 80 x)
    (h : ∃ b n, a.eval x = .pointer (some ⟨b, 0, none⟩) ∧ w.heap[b]? = some (.cells (bw n) 80 (0, 0)) ∧ wpList Try.prog ops Q rest (a.put o.dst (.agg (bw n))) w) : wpList Try.prog ops Q (o :: rest) a w :=
  wpList_plain hgd fun _ hK => by
    obtain ⟨b, n, hx, hb, h⟩ := h
    unfold Oper.wp execOp
    simp only [ho, hx, Sem.run_bind, load29 w b n hb, Result.andThen_ok]
    exact hK _ _ h
theorem wl_store29 (hgd : o.guard = none) (x y : Operand) (ho : o.op = .store 80 x y)
    (h : ∃ b n m, a.eval x = .pointer (some ⟨b, 0, none⟩) ∧ a.eval y = .agg (bw m) ∧ w.heap[b]? = some (.cells (bw n) 80 (0, 0)) ∧ wpList Try.prog ops Q rest (a.put o.dst undef) (w.setRow b (bw m))) : wpList Try.prog ops Q (o :: rest) a w :=
  wpList_plain hgd fun _ hK => by
    obtain ⟨b, n, m, hx, hy, hb, h⟩ := h
    unfold Oper.wp execOp
    simp only [ho, hx, hy, Sem.run_bind, store29 w b n m hb, Result.andThen_ok]
    exact hK _ _ h
end

theorem heap_al (w : World) (o : Obj) (i : Nat) : (w.alloc o).heap[i]? = if i = w.heap.size then some o else w.heap[i]? := by
  show (w.heap.push o)[i]? = _
  rw [Array.getElem?_push]

theorem heap_new (w : World) (o : Obj) (i : Nat) (h : i = w.heap.size) : (w.alloc o).heap[i]? = some o := by rw [heap_al, if_pos h]
theorem heap_old (w : World) (o : Obj) (i : Nat) (h : ¬ i = w.heap.size) : (w.alloc o).heap[i]? = w.heap[i]? := by rw [heap_al, if_neg h]

theorem row_same {w : World} {b n : Nat} (h : w.heap[b]? = some (.cells (bw n) 80 (0, 0))) (m : Nat) : (w.setRow b (bw m)).heap[b]? = some (.cells (bw m) 80 (0, 0)) := setRow_heap w b _ _ 80 _ h
theorem row_other {w : World} {b c n : Nat} (h : w.heap[c]? = some (.cells (bw n) 80 (0, 0))) (m : Nat) (hne : c ≠ b) : (w.setRow b (bw m)).heap[c]? = some (.cells (bw n) 80 (0, 0)) := (setRow_other w b c _ hne).trans h
theorem Below.setRow {B : Nat} {a w : World} (h : Below B a w) {b : Nat} (hb : B ≤ b) (c : Array Value) : Below B a (w.setRow b c) :=
  h.trans ⟨rfl, rfl, rfl, by simp, fun k hk => setRow_other w b k c (by omega)⟩

theorem setb_lt {m k : Nat} (h : m < 2 ^ k) (v : Bool) : setb m k v = m + (if v then 2 ^ k else 0) := by
  have ht : m.testBit k = false := Nat.testBit_lt_two_pow h
  unfold setb
  rw [ht]
  cases v
  · simp
  · simp [xor_top_lt h]

theorem mod_succ (n k : Nat) : n % 2 ^ (k + 1) = n % 2 ^ k + (if n.testBit k then 2 ^ k else 0) := by
  rw [Nat.mod_pow_succ, Nat.testBit_eq_decide_div_mod_eq]
  rcases Nat.mod_two_eq_zero_or_one (n / 2 ^ k) with h | h <;> simp [h]

theorem not_step (n k : Nat) : setb (2 ^ k - 1 - n % 2 ^ k) k (!n.testBit k) = 2 ^ (k + 1) - 1 - n % 2 ^ (k + 1) := by
  have hp := Nat.pow_pos (n := k) (show 0 < 2 by omega)
  have h1 := Nat.mod_lt n hp
  rw [setb_lt (by omega), mod_succ, Nat.pow_succ]
  cases h : n.testBit k <;> simp <;> omega

set_option maxRecDepth 100000 in
set_option maxHeartbeats 400000 in
theorem not_any (W n : Nat) (w : World) (hW : W ≤ 64) :
    Calls Try.prog 43 #[.int .i64 W, .agg (bw n)] w fun e w' => e = .returned (.agg (bw (2 ^ W - 1 - n % 2 ^ W))) ∧ Below w.heap.size w w' := by
  have hz := (zero_of_info zero29).1
  go_enter Try.func43, Try.ntmps43
  (repeat (first | (with_reducible first | refine xA ?_ | refine xB ?_ | refine xC ?_ | refine xD ?_ | refine xH ?_ | refine xI rfl ?_ | refine xE ?_ | refine xF ?_ | refine xG ?_) | go_values | go_skip | go_guarded | go_step | go_upon | go_back | (dsimp only)))
  go_loopw [6] (fun i wr => ∃ k : Nat, k ≤ W ∧ i = .int .i64 k ∧ wr = (((w.alloc (.cells (bw n) 80)).alloc (.cells (bw 0) 80)).alloc (.cells (bw (2 ^ k - 1 - n % 2 ^ k)) 80))) (fun i _ => W - (intOf i).toNat)
  case atStart => exact ⟨0, by omega, rfl, by simp⟩
  case round =>
    obtain ⟨k, hk, rfl, rfl⟩ := hrel
    by_cases hlt : k < W
    · have hr := bw_get n k (by omega)
      have hs := bw_set (2 ^ k - 1 - n % 2 ^ k) k
      have hr2 := bw_get (2 ^ k - 1 - n % 2 ^ k) k (by omega)
      have b0 : (0 : Int) ≤ k := by omega
      have b1 : (k : Int) < 64 := by omega
      (repeat (first | (with_reducible first | refine xA ?_ | refine xB ?_ | refine xC ?_ | refine xD ?_ | refine xH ?_ | refine xI rfl ?_ | refine xE ?_ | refine xF ?_ | refine xG ?_) | go_values | go_skip | go_guarded | go_step | go_upon | go_back | (dsimp only)))
      exact ⟨⟨k + 1, by omega, by go_num, by rw [not_step]⟩, by simp [intOf]; omega⟩
    · obtain rfl : k = W := by omega
      (repeat (first | (with_reducible first | refine xA ?_ | refine xB ?_ | refine xC ?_ | refine xD ?_ | refine xH ?_ | refine xI rfl ?_ | refine xE ?_ | refine xF ?_ | refine xG ?_) | go_skip | go_guarded | ((with_reducible refine wl_load29 rfl _ rfl ?_); apply Exists.intro; apply Exists.intro; refine ⟨rfl, ?_, ?_⟩; (· (repeat (first | (with_reducible assumption) | ((with_reducible refine heap_new _ _ _ ?_); (simp; done)) | ((with_reducible refine (heap_old _ _ _ ?_).trans ?_); (· (simp; done))) | (with_reducible refine row_same ?_ _) | ((with_reducible refine row_other ?_ _ ?_); rotate_left; (· (simp; done)))))); simp only [Act.put, List.setIfInBounds_toArray, List.set_cons_succ, List.set_cons_zero]) | ((with_reducible refine wl_store29 rfl _ _ rfl ?_); apply Exists.intro; apply Exists.intro; apply Exists.intro; refine ⟨rfl, rfl, ?_, ?_⟩; (· (repeat (first | (with_reducible assumption) | ((with_reducible refine heap_new _ _ _ ?_); (simp; done)) | ((with_reducible refine (heap_old _ _ _ ?_).trans ?_); (· (simp; done))) | (with_reducible refine row_same ?_ _) | ((with_reducible refine row_other ?_ _ ?_); rotate_left; (· (simp; done)))))); simp only [Act.put, List.setIfInBounds_toArray, List.set_cons_succ, List.set_cons_zero]) | go_values | go_skip | go_guarded | go_step | go_upon | go_back | (dsimp only)))
      refine bodyPost_ret (res29 rfl _ _ _ _ rfl (row_same (n := 0) (by (repeat (first | (with_reducible assumption) | ((with_reducible refine heap_new _ _ _ ?_); (simp; done)) | ((with_reducible refine (heap_old _ _ _ ?_).trans ?_); (· (simp; done))) | (with_reducible refine row_same ?_ _) | ((with_reducible refine row_other ?_ _ ?_); rotate_left; (· (simp; done)))))) _)) rfl ⟨rfl, ?_⟩
      refine Below.setRow ?_ (by omega) _
      (repeat (first | with_reducible exact Below.refl _ _ | assumption | with_reducible refine below_drewN ?_ _ | with_reducible refine Below.drew ?_ | with_reducible refine Below.setRow ?_ ?_ _ | with_reducible refine Below.alloc ?_ ?_ _ | with_reducible refine Below.setCell ?_ ?_ _ | with_reducible exact Nat.le_refl _ | (focus (simp; done)) | (focus (simp; omega)) | omega))


end Go.Proofs.Ytmaogkgjiplckaa
