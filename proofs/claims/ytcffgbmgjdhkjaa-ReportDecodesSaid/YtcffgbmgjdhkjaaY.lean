import Derived.Test.YtcffgbmgjdhkjaaX
import Derived.Laws.Tables
import Derived.Deep.WholeRow
set_option linter.unusedSimpArgs false
set_option linter.unusedVariables false
namespace Go.Proofs.Ytcffgbmgjdhkjaa
open Go.RowKit

theorem grown_own {a b c : World} {r : Option Nat} {g : Nat} (h : a.grownBy b r) (k : b.grownBy c (some g)) (hg : a.heap.size ≤ g) : a.grownBy c r :=
  ⟨k.os.trans h.os, k.tape.trans h.tape, k.output.trans h.output, Nat.le_trans h.size k.size, fun i hi hn => (k.block i (Nat.lt_of_lt_of_le hi h.size) (fun e => by injection e with e; omega)).trans (h.block i hi hn)⟩
theorem grown_alloc {a b : World} {r : Option Nat} (h : a.grownBy b r) (o : Obj) : a.grownBy (b.alloc o) r :=
  grown_trans h ⟨rfl, rfl, rfl, by simp, fun k hk _ => Below.heap_alloc b o k hk⟩
theorem grown_refl (a : World) (r : Option Nat) : a.grownBy a r := ⟨rfl, rfl, rfl, Nat.le_refl _, fun _ _ _ => rfl⟩
theorem keep_at {w w' : World} {r : Option Nat} {k : Nat} {o : Obj} (hg : w.grownBy w' r) (h : w.heap[k]? = some o) (hne : some k ≠ r) : w'.heap[k]? = some o := (hg.block k (lt_of_block h) hne).trans h
theorem RD.keep {w w' : World} {Rb : Nat} {vb : Value} {p : Int} {g : Nat} (h : RD w Rb vb p) (hg : w.grownBy w' (some g)) (hne : Rb ≠ g) : RD w' Rb vb p := keep_at hg h (fun e => hne (by injection e))
theorem RD.alloc {w : World} {Rb : Nat} {vb : Value} {p : Int} (h : RD w Rb vb p) (o : Obj) : RD (w.alloc o) Rb vb p := (Below.heap_alloc w o _ (lt_of_block h)).trans h
theorem RIn.alloc {w0 : World} {vb : Value} {b : List Int} {Rb : Nat} {w : World} (h : RIn w0 vb b Rb w) (o : Obj) : RIn w0 vb b Rb (w.alloc o) := h.grown (grown_alloc (grown_refl _ _) o)
theorem RIn.own {w0 : World} {vb : Value} {b : List Int} {Rb : Nat} {w w' : World} {g : Nat} (h : RIn w0 vb b Rb w) (hg : w.grownBy w' (some g)) (hr : w0.heap.size ≤ g) : RIn w0 vb b Rb w' :=
  ⟨h.sl, h.rb, Below.grown h.below hg h.below.size (fun k hk => by injection hk with hk; omega), h.byte, h.pos, h.len⟩

section
variable {P : Program} {ops : Array Oper} {rest : List Oper} {o : Oper} {a : Act} {w : World} {Q : Exit → Act → World → Prop}
/-- a whole struct, stored into a block that is known whole -/
theorem wl_store_row (hgd : o.guard = none) (ty : TypeId) (x y : Operand) (ho : o.op = .store ty x y) (g : Nat) (hx : a.eval x = .pointer (some ⟨g, 0, none⟩)) (cs ds : Array Value) (t : TypeId) (hy : a.eval y = .agg ds)
    (hg : w.heap[g]? = some (.cells cs t (0, 0))) (hi : (P.info? ty).map (·.size) = some ds.size) (hs : ds.size = cs.size) (h1 : ds.all (·.oneCell') = true)
    (h : ∀ w', w'.heap[g]? = some (.cells ds t (0, 0)) → w.grownBy w' (some g) → wpList P ops Q rest (a.put o.dst undef) w') : wpList P ops Q (o :: rest) a w :=
  wpList_plain hgd fun _ hK => by
    have hr := run_storeVar_row (P := P) w g t ty cs ds hg hi hs.symm h1
    unfold Oper.wp execOp
    simp only [ho, hx, hy, Instr.storeAt, Instr.sureAddr, Sem.run_bind, Sem.run_pure, Result.andThen_ok, hr]
    exact hK _ _ (h _ (setRow_heap w g cs ds t _ hg) ⟨rfl, rfl, rfl, by simp, fun k hk hn => setRow_other w g k ds (fun e => hn (by rw [e]))⟩)
/-- one cell, stored into a block that is known whole -/
theorem wl_store_cell (hgd : o.guard = none) (ty : TypeId) (x y : Operand) (ho : o.op = .store ty x y) (g i : Nat) (hx : a.eval x = .pointer (some ⟨g, i, none⟩)) (cs : Array Value) (v : Value) (t : TypeId) (hy : a.eval y = v)
    (hg : w.heap[g]? = some (.cells cs t (0, 0))) (hst : ∀ w : World, w.heap[g]? = some (.cells cs t (0, 0)) → (Instr.storeAt ty (.pointer (some ⟨g, i, none⟩)) v).run P w = .ok () (w.setCell ⟨g, i, none⟩ v))
    (h : ∀ w', w'.heap[g]? = some (.cells (cs.setIfInBounds i v) t (0, 0)) → w.grownBy w' (some g) → wpList P ops Q rest (a.put o.dst undef) w') : wpList P ops Q (o :: rest) a w :=
  wpList_plain hgd fun _ hK => by
    unfold Oper.wp execOp
    simp only [ho, hx, hy, Sem.run_bind, hst w hg, Result.andThen_ok]
    exact hK _ _ (h _ (heap_setCell_same w g i cs t v hg) ⟨rfl, rfl, rfl, by simp, fun k hk hn => heap_setCell_other w _ k v (fun e => hn (by rw [e]))⟩)
end

theorem size49 : (Try.prog.info? 49).map (·.size) = some 6 := by kernel_rfl
theorem size43 : (Try.prog.info? 43).map (·.size) = some 3 := by kernel_rfl
theorem size25 : (Try.prog.info? 25).map (·.size) = some 4 := by kernel_rfl
theorem st3 (g i : Nat) (cs : Array Value) (t : TypeId) (n : Int) (hi : i < cs.size) (w : World) (hg : w.heap[g]? = some (.cells cs t (0, 0))) :
    (Instr.storeAt 3 (.pointer (some ⟨g, i, none⟩)) (.int .i64 n)).run Try.prog w = .ok () (w.setCell ⟨g, i, none⟩ (.int .i64 n)) := by
  have hc : w.cell? ⟨g, i, none⟩ = some cs[i] := by rw [cell_of_row w g i cs t _ hg]; simp [hi]
  have hf := frozen_of_row w g i cs t hg
  go_simp

def nodeP (b : List Int) (at' : Int) : PR Nd :=
  match numP b at' 1 0 255 with
  | .err E p => .err E p
  | .ok x0 p0 => match numP b p0 1 0 255 with
    | .err E p => .err E p
    | .ok x1 p1 => match numP b p1 8 0 18446744073709551615 with
      | .err E p => .err E p
      | .ok x2 p2 => match numP b p2 3 0 16777215 with
        | .err E p => .err E p
        | .ok x3 p3 => match numP b p3 3 0 16777215 with
          | .err E p => .err E p
          | .ok x4 p4 => match numP b p4 3 0 16777215 with
            | .err E p => .err E p
            | .ok x5 p5 => .ok ⟨x0, x1, x2, x3, x4, x5⟩ p5


/-- how a call that parses ends -/
def NdDone (w : World) (Rb : Nat) (vb : Value) (r : PR Nd) (e : Ending) (w' : World) : Prop :=
  w.grownBy w' (some Rb) ∧ match r with
    | .ok d p => e = .returned (.agg d.cells.toArray) ∧ RD w' Rb vb p
    | .err E p => e = stopped E p

theorem numP_n {b : List Int} {p n lo hi x p' : Int} (hb : ByteL b) (h : numP b p n lo hi = .ok x p') (h0 : 0 ≤ p) (hn : 0 ≤ n) : 0 ≤ p' ∧ p' ≤ b.length ∧ lo ≤ x ∧ x ≤ hi ∧ 0 ≤ x := by
  have := numP_ok hb h h0 hn
  omega

set_option maxRecDepth 100000 in
set_option maxHeartbeats 2000000 in
theorem rnode_any (w0 : World) (vb : Value) (b : List Int) (Rb : Nat) (at' : Int) (w : World) (hI : RIn w0 vb b Rb w) (hR : RD w Rb vb at') (h0 : 0 ≤ at') (h1 : at' ≤ b.length) :
    Calls Try.prog 47 #[.pointer (some ⟨Rb, 0, none⟩)] w (NdDone w Rb vb (nodeP b at')) := by
  have hlt := lt_of_block hR
  have hne : w.heap.size ≠ Rb := by omega
  have HY : (w.alloc (.cells #[.int .i64 0, .int .i64 0, .int .u64 0, .int .i64 0, .int .i64 0, .int .i64 0] 49)).heap[w.heap.size]? = _ := heap_alloc_new w _
  have HG := grown_alloc (grown_refl w (some Rb)) (.cells #[.int .i64 0, .int .i64 0, .int .u64 0, .int .i64 0, .int .i64 0, .int .i64 0] 49)
  replace hI := hI.alloc (.cells #[.int .i64 0, .int .i64 0, .int .u64 0, .int .i64 0, .int .i64 0, .int .i64 0] 49)
  replace hR := hR.alloc (.cells #[.int .i64 0, .int .i64 0, .int .u64 0, .int .i64 0, .int .i64 0, .int .i64 0] 49)
  obtain ⟨N, hN⟩ : ∃ N, Hid (nodeP b at' = N) := ⟨_, Lib.hid rfl⟩
  rw [hN.out]
  go_enter Try.func47, Try.ntmps47
  (repeat (first | with_reducible refine xThenN ?_ | with_reducible refine xThenE ?_ | with_reducible refine xThenR ?_ | with_reducible refine xThenP ?_ | with_reducible refine xBlockEq ?_ | with_reducible refine xBlockNe rfl ?_ | with_reducible refine xBlockN ?_ | with_reducible refine xBlockR ?_ | with_reducible refine xBlockP ?_ | go_values | go_skip | go_guarded | go_step | go_upon | go_back | (dsimp only)))
  obtain ⟨r, hr⟩ : ∃ r, Hid (numP b at' 1 0 255 = r) := ⟨_, Lib.hid rfl⟩
  rcases r with ⟨x0, p0⟩ | ⟨E, q⟩
  rotate_left
  · obtain rfl : N = .err E q := by rw [← hN.out]; unfold nodeP; rw [hr.out]
    (repeat (first | with_reducible refine xThenN ?_ | with_reducible refine xThenE ?_ | with_reducible refine xThenR ?_ | with_reducible refine xThenP ?_ | with_reducible refine xBlockEq ?_ | with_reducible refine xBlockNe rfl ?_ | with_reducible refine xBlockN ?_ | with_reducible refine xBlockR ?_ | with_reducible refine xBlockP ?_ | (go_at_call 37; (with_reducible refine (rnum_err w0 vb b Rb _ _ _ _ _ hI hR h0 h1 (by omega) (by omega) _ _ hr).mono ?_); rintro e w1 ⟨rfl, hg1⟩) | go_values | go_skip | go_guarded | go_step | go_upon | go_back | (dsimp only)))
    exact bodyPost_panic rfl ⟨grown_trans HG hg1, rfl⟩
  obtain ⟨h0', h1', z0, z1, z2⟩ := numP_n hI.byte hr.out h0 (by decide)
  (repeat (first | with_reducible refine xThenN ?_ | with_reducible refine xThenE ?_ | with_reducible refine xThenR ?_ | with_reducible refine xThenP ?_ | with_reducible refine xBlockEq ?_ | with_reducible refine xBlockNe rfl ?_ | with_reducible refine xBlockN ?_ | with_reducible refine xBlockR ?_ | with_reducible refine xBlockP ?_ | (go_at_call 37; (with_reducible refine (rnum_ok w0 vb b Rb _ _ _ _ _ hI hR h0 h1 (by omega) (by omega) _ _ hr).mono ?_); rintro e w1 ⟨rfl, hg1, hR1⟩) | go_values | go_skip | go_guarded | go_step | go_upon | go_back | (dsimp only)))
  replace HG := grown_trans HG hg1
  replace HY := keep_at hg1 HY (fun e => hne (by injection e))
  replace hI := hI.grown hg1
  have hr0 := hr
  clear hr hR hg1 h0 h1
  have hR := hR1; have h0 := h0'; have h1 := h1'
  clear hR1 h0' h1'
  obtain ⟨r, hr⟩ : ∃ r, Hid (numP b p0 1 0 255 = r) := ⟨_, Lib.hid rfl⟩
  rcases r with ⟨x1, p1⟩ | ⟨E, q⟩
  rotate_left
  · obtain rfl : N = .err E q := by rw [← hN.out]; unfold nodeP; rw [hr0.out]; dsimp only; rw [hr.out]
    (repeat (first | with_reducible refine xThenN ?_ | with_reducible refine xThenE ?_ | with_reducible refine xThenR ?_ | with_reducible refine xThenP ?_ | with_reducible refine xBlockEq ?_ | with_reducible refine xBlockNe rfl ?_ | with_reducible refine xBlockN ?_ | with_reducible refine xBlockR ?_ | with_reducible refine xBlockP ?_ | (go_at_call 37; (with_reducible refine (rnum_err w0 vb b Rb _ _ _ _ _ hI hR h0 h1 (by omega) (by omega) _ _ hr).mono ?_); rintro e w1 ⟨rfl, hg1⟩) | go_values | go_skip | go_guarded | go_step | go_upon | go_back | (dsimp only)))
    exact bodyPost_panic rfl ⟨grown_trans HG hg1, rfl⟩
  obtain ⟨h0', h1', z3, z4, z5⟩ := numP_n hI.byte hr.out h0 (by decide)
  (repeat (first | with_reducible refine xThenN ?_ | with_reducible refine xThenE ?_ | with_reducible refine xThenR ?_ | with_reducible refine xThenP ?_ | with_reducible refine xBlockEq ?_ | with_reducible refine xBlockNe rfl ?_ | with_reducible refine xBlockN ?_ | with_reducible refine xBlockR ?_ | with_reducible refine xBlockP ?_ | (go_at_call 37; (with_reducible refine (rnum_ok w0 vb b Rb _ _ _ _ _ hI hR h0 h1 (by omega) (by omega) _ _ hr).mono ?_); rintro e w1 ⟨rfl, hg1, hR1⟩) | go_values | go_skip | go_guarded | go_step | go_upon | go_back | (dsimp only)))
  replace HG := grown_trans HG hg1
  replace HY := keep_at hg1 HY (fun e => hne (by injection e))
  replace hI := hI.grown hg1
  have hr1 := hr
  clear hr hR hg1 h0 h1
  have hR := hR1; have h0 := h0'; have h1 := h1'
  clear hR1 h0' h1'
  obtain ⟨r, hr⟩ : ∃ r, Hid (numP b p1 8 0 18446744073709551615 = r) := ⟨_, Lib.hid rfl⟩
  rcases r with ⟨x2, p2⟩ | ⟨E, q⟩
  rotate_left
  · obtain rfl : N = .err E q := by rw [← hN.out]; unfold nodeP; rw [hr0.out]; dsimp only; rw [hr1.out]; dsimp only; rw [hr.out]
    (repeat (first | with_reducible refine xThenN ?_ | with_reducible refine xThenE ?_ | with_reducible refine xThenR ?_ | with_reducible refine xThenP ?_ | with_reducible refine xBlockEq ?_ | with_reducible refine xBlockNe rfl ?_ | with_reducible refine xBlockN ?_ | with_reducible refine xBlockR ?_ | with_reducible refine xBlockP ?_ | (go_at_call 37; (with_reducible refine (rnum_err w0 vb b Rb _ _ _ _ _ hI hR h0 h1 (by omega) (by omega) _ _ hr).mono ?_); rintro e w1 ⟨rfl, hg1⟩) | go_values | go_skip | go_guarded | go_step | go_upon | go_back | (dsimp only)))
    exact bodyPost_panic rfl ⟨grown_trans HG hg1, rfl⟩
  obtain ⟨h0', h1', z6, z7, z8⟩ := numP_n hI.byte hr.out h0 (by decide)
  (repeat (first | with_reducible refine xThenN ?_ | with_reducible refine xThenE ?_ | with_reducible refine xThenR ?_ | with_reducible refine xThenP ?_ | with_reducible refine xBlockEq ?_ | with_reducible refine xBlockNe rfl ?_ | with_reducible refine xBlockN ?_ | with_reducible refine xBlockR ?_ | with_reducible refine xBlockP ?_ | (go_at_call 37; (with_reducible refine (rnum_ok w0 vb b Rb _ _ _ _ _ hI hR h0 h1 (by omega) (by omega) _ _ hr).mono ?_); rintro e w1 ⟨rfl, hg1, hR1⟩) | (with_reducible refine wp_loop_rounds 4 ?_) | rw [rounds_succ] | go_values | go_skip | go_guarded | go_step | go_upon | go_back | (dsimp only)))
  replace HG := grown_alloc (grown_trans HG hg1) (.cells #[.int .i64 x0, .int .i64 x1, .int .u64 x2, .int .i64 0, .int .i64 0, .int .i64 0] 49)
  have hylt := lt_of_block (keep_at hg1 HY (fun e => hne (by injection e)))
  replace HY := (Below.heap_alloc _ (.cells #[.int .i64 x0, .int .i64 x1, .int .u64 x2, .int .i64 0, .int .i64 0, .int .i64 0] 49) _ hylt).trans (keep_at hg1 HY (fun e => hne (by injection e)))
  replace hI := (hI.grown hg1).alloc (.cells #[.int .i64 x0, .int .i64 x1, .int .u64 x2, .int .i64 0, .int .i64 0, .int .i64 0] 49)
  have HZ : (w1.alloc (.cells #[.int .i64 x0, .int .i64 x1, .int .u64 x2, .int .i64 0, .int .i64 0, .int .i64 0] 49)).heap[w1.heap.size]? = _ := heap_alloc_new w1 _
  have hrlt := lt_of_block hR1
  have hr2 := hr
  clear hr hR hg1 h0 h1
  have hR := hR1.alloc (.cells #[.int .i64 x0, .int .i64 x1, .int .u64 x2, .int .i64 0, .int .i64 0, .int .i64 0] 49)
  have h0 := h0'; have h1 := h1'
  clear hR1 h0' h1'
  have hzy : w.heap.size ≠ w1.heap.size := by omega
  have hzr : Rb ≠ w1.heap.size := by omega
  have hzn : w1.heap.size ≠ Rb := by omega
  have hw0z : w0.heap.size ≤ w1.heap.size := by have := hI.rb; omega
  obtain ⟨r, hr⟩ : ∃ r, Hid (numP b p2 3 0 16777215 = r) := ⟨_, Lib.hid rfl⟩
  rcases r with ⟨x3, p3⟩ | ⟨E, q⟩
  rotate_left
  · obtain rfl : N = .err E q := by rw [← hN.out]; unfold nodeP; rw [hr0.out]; dsimp only; rw [hr1.out]; dsimp only; rw [hr2.out]; dsimp only; rw [hr.out]
    (repeat (first | with_reducible refine xThenN ?_ | with_reducible refine xThenE ?_ | with_reducible refine xThenR ?_ | with_reducible refine xThenP ?_ | with_reducible refine xBlockEq ?_ | with_reducible refine xBlockNe rfl ?_ | with_reducible refine xBlockN ?_ | with_reducible refine xBlockR ?_ | with_reducible refine xBlockP ?_ | (go_at_call 37; (with_reducible refine (rnum_err w0 vb b Rb _ _ _ _ _ hI hR h0 h1 (by omega) (by omega) _ _ hr).mono ?_); rintro e w1 ⟨rfl, hg1⟩) | go_values | go_skip | go_guarded | go_step | go_upon | go_back | (dsimp only)))
    exact bodyPost_panic rfl ⟨grown_trans HG hg1, rfl⟩
  obtain ⟨h0', h1', z3a, z3b, z3c⟩ := numP_n hI.byte hr.out h0 (by decide)
  (repeat (first | with_reducible refine xThenN ?_ | with_reducible refine xThenE ?_ | with_reducible refine xThenR ?_ | with_reducible refine xThenP ?_ | with_reducible refine xBlockEq ?_ | with_reducible refine xBlockNe rfl ?_ | with_reducible refine xBlockN ?_ | with_reducible refine xBlockR ?_ | with_reducible refine xBlockP ?_ | (go_at_call 37; (with_reducible refine (rnum_ok w0 vb b Rb _ _ _ _ _ hI hR h0 h1 (by omega) (by omega) _ _ hr).mono ?_); rintro e w2 ⟨rfl, hg1, hR1⟩; replace HG := grown_trans HG hg1; replace HY := keep_at hg1 HY (fun e => hne (by injection e)); replace HZ := keep_at hg1 HZ (fun e => hzn (by injection e)); replace hI := hI.grown hg1; clear hR hg1; have hR := hR1; clear hR1) | ((with_reducible refine wl_id ?_); refine wl_store_cell (v := .int .i64 _) rfl 3 _ _ rfl _ _ rfl _ 49 rfl HZ (fun w hg => st3 _ _ _ _ _ (by simp) w hg) ?_; intro w2 HZ2 hg2; (simp only [List.setIfInBounds_toArray, List.set_cons_succ, List.set_cons_zero] at HZ2); clear HZ; have HZ := HZ2; clear HZ2; replace HG := grown_own HG hg2 (by omega); replace HY := keep_at hg2 HY (fun e => hzy (by injection e)); replace hI := hI.own hg2 (by omega); replace hR := hR.keep hg2 hzr; clear hg2; (try simp only [Act.put, List.setIfInBounds_toArray, List.set_cons_succ, List.set_cons_zero])) | rw [rounds_succ] | go_values | go_skip | go_guarded | go_step | go_upon | go_back | (dsimp only)))
  have hr3 := hr
  clear hr h0 h1
  have h0 := h0'; have h1 := h1'
  clear h0' h1'
  obtain ⟨r, hr⟩ : ∃ r, Hid (numP b p3 3 0 16777215 = r) := ⟨_, Lib.hid rfl⟩
  rcases r with ⟨x4, p4⟩ | ⟨E, q⟩
  rotate_left
  · obtain rfl : N = .err E q := by rw [← hN.out]; unfold nodeP; rw [hr0.out]; dsimp only; rw [hr1.out]; dsimp only; rw [hr2.out]; dsimp only; rw [hr3.out]; dsimp only; rw [hr.out]
    (repeat (first | with_reducible refine xThenN ?_ | with_reducible refine xThenE ?_ | with_reducible refine xThenR ?_ | with_reducible refine xThenP ?_ | with_reducible refine xBlockEq ?_ | with_reducible refine xBlockNe rfl ?_ | with_reducible refine xBlockN ?_ | with_reducible refine xBlockR ?_ | with_reducible refine xBlockP ?_ | (go_at_call 37; (with_reducible refine (rnum_err w0 vb b Rb _ _ _ _ _ hI hR h0 h1 (by omega) (by omega) _ _ hr).mono ?_); rintro e w1 ⟨rfl, hg1⟩) | go_values | go_skip | go_guarded | go_step | go_upon | go_back | (dsimp only)))
    exact bodyPost_panic rfl ⟨grown_trans HG hg1, rfl⟩
  obtain ⟨h0', h1', z4a, z4b, z4c⟩ := numP_n hI.byte hr.out h0 (by decide)
  (repeat (first | with_reducible refine xThenN ?_ | with_reducible refine xThenE ?_ | with_reducible refine xThenR ?_ | with_reducible refine xThenP ?_ | with_reducible refine xBlockEq ?_ | with_reducible refine xBlockNe rfl ?_ | with_reducible refine xBlockN ?_ | with_reducible refine xBlockR ?_ | with_reducible refine xBlockP ?_ | (go_at_call 37; (with_reducible refine (rnum_ok w0 vb b Rb _ _ _ _ _ hI hR h0 h1 (by omega) (by omega) _ _ hr).mono ?_); rintro e w2 ⟨rfl, hg1, hR1⟩; replace HG := grown_trans HG hg1; replace HY := keep_at hg1 HY (fun e => hne (by injection e)); replace HZ := keep_at hg1 HZ (fun e => hzn (by injection e)); replace hI := hI.grown hg1; clear hR hg1; have hR := hR1; clear hR1) | ((with_reducible refine wl_id ?_); refine wl_store_cell (v := .int .i64 _) rfl 3 _ _ rfl _ _ rfl _ 49 rfl HZ (fun w hg => st3 _ _ _ _ _ (by simp) w hg) ?_; intro w2 HZ2 hg2; (simp only [List.setIfInBounds_toArray, List.set_cons_succ, List.set_cons_zero] at HZ2); clear HZ; have HZ := HZ2; clear HZ2; replace HG := grown_own HG hg2 (by omega); replace HY := keep_at hg2 HY (fun e => hzy (by injection e)); replace hI := hI.own hg2 (by omega); replace hR := hR.keep hg2 hzr; clear hg2; (try simp only [Act.put, List.setIfInBounds_toArray, List.set_cons_succ, List.set_cons_zero])) | rw [rounds_succ] | go_values | go_skip | go_guarded | go_step | go_upon | go_back | (dsimp only)))
  have hr4 := hr
  clear hr h0 h1
  have h0 := h0'; have h1 := h1'
  clear h0' h1'
  obtain ⟨r, hr⟩ : ∃ r, Hid (numP b p4 3 0 16777215 = r) := ⟨_, Lib.hid rfl⟩
  rcases r with ⟨x5, p5⟩ | ⟨E, q⟩
  rotate_left
  · obtain rfl : N = .err E q := by rw [← hN.out]; unfold nodeP; rw [hr0.out]; dsimp only; rw [hr1.out]; dsimp only; rw [hr2.out]; dsimp only; rw [hr3.out]; dsimp only; rw [hr4.out]; dsimp only; rw [hr.out]
    (repeat (first | with_reducible refine xThenN ?_ | with_reducible refine xThenE ?_ | with_reducible refine xThenR ?_ | with_reducible refine xThenP ?_ | with_reducible refine xBlockEq ?_ | with_reducible refine xBlockNe rfl ?_ | with_reducible refine xBlockN ?_ | with_reducible refine xBlockR ?_ | with_reducible refine xBlockP ?_ | (go_at_call 37; (with_reducible refine (rnum_err w0 vb b Rb _ _ _ _ _ hI hR h0 h1 (by omega) (by omega) _ _ hr).mono ?_); rintro e w1 ⟨rfl, hg1⟩) | go_values | go_skip | go_guarded | go_step | go_upon | go_back | (dsimp only)))
    exact bodyPost_panic rfl ⟨grown_trans HG hg1, rfl⟩
  obtain ⟨h0', h1', z5a, z5b, z5c⟩ := numP_n hI.byte hr.out h0 (by decide)
  obtain rfl : N = .ok ⟨x0, x1, x2, x3, x4, x5⟩ p5 := by rw [← hN.out]; unfold nodeP; rw [hr0.out]; dsimp only; rw [hr1.out]; dsimp only; rw [hr2.out]; dsimp only; rw [hr3.out]; dsimp only; rw [hr4.out]; dsimp only; rw [hr.out]
  (repeat (first | with_reducible refine xThenN ?_ | with_reducible refine xThenE ?_ | with_reducible refine xThenR ?_ | with_reducible refine xThenP ?_ | with_reducible refine xBlockEq ?_ | with_reducible refine xBlockNe rfl ?_ | with_reducible refine xBlockN ?_ | with_reducible refine xBlockR ?_ | with_reducible refine xBlockP ?_ | (go_at_call 37; (with_reducible refine (rnum_ok w0 vb b Rb _ _ _ _ _ hI hR h0 h1 (by omega) (by omega) _ _ hr).mono ?_); rintro e w2 ⟨rfl, hg1, hR1⟩; replace HG := grown_trans HG hg1; replace HY := keep_at hg1 HY (fun e => hne (by injection e)); replace HZ := keep_at hg1 HZ (fun e => hzn (by injection e)); replace hI := hI.grown hg1; clear hR hg1; have hR := hR1; clear hR1) | ((with_reducible refine wl_id ?_); refine wl_store_cell (v := .int .i64 _) rfl 3 _ _ rfl _ _ rfl _ 49 rfl HZ (fun w hg => st3 _ _ _ _ _ (by simp) w hg) ?_; intro w2 HZ2 hg2; (simp only [List.setIfInBounds_toArray, List.set_cons_succ, List.set_cons_zero] at HZ2); clear HZ; have HZ := HZ2; clear HZ2; replace HG := grown_own HG hg2 (by omega); replace HY := keep_at hg2 HY (fun e => hzy (by injection e)); replace hI := hI.own hg2 (by omega); replace hR := hR.keep hg2 hzr; clear hg2; (try simp only [Act.put, List.setIfInBounds_toArray, List.set_cons_succ, List.set_cons_zero])) | ((with_reducible refine wl_id ?_); refine wpList_load_row rfl 49 _ rfl _ rfl 49 _ (0, 0) _ HZ Try.underlying49 rfl size49 ?_; (try simp only [Act.put, List.setIfInBounds_toArray, List.set_cons_succ, List.set_cons_zero])) | ((with_reducible refine wl_id ?_); refine wl_store_row rfl 49 _ _ rfl _ rfl _ _ 49 rfl HY size49 rfl (by simp [Value.oneCell']) ?_; intro w2 HY2 hg2; replace HG := grown_own HG hg2 (by omega); replace hR := hR.keep hg2 (Ne.symm hne); (try simp only [Act.put, List.setIfInBounds_toArray, List.set_cons_succ, List.set_cons_zero])) | rw [rounds_succ] | go_values | go_skip | go_guarded | go_step | go_upon | go_back | (dsimp only)))
  exact bodyPost_ret (results_cell_row rfl _ w2 _ _ _ _ _ rfl HY2 Try.underlying49 rfl size49) rfl ⟨HG, rfl, hR⟩

end Go.Proofs.Ytcffgbmgjdhkjaa
