import Derived.Test.YtmaogkgjiplckaaGreatQW9
import Derived.Test.YtmaogkgjiplckaaGreatQW5
import Derived.Test.YtmaogkgjiplckaaGreatQW8
set_option linter.unusedVariables false
set_option linter.unusedSimpArgs false
namespace Go.Proofs.YtmaogkgjiplckaaGreat
open Go.RowKit
theorem sln_row {w : World} {vv : Value} {vs : List Nat} (hv : SlN w vv vs) (hp : 0 < vs.length) : ∃ b o cap, vv = .slice (some ⟨b, o, none⟩) vs.length cap ∧ b < w.heap.size ∧ ∀ a x : Nat, a < vs.length → vs.getD a 0 = x → w.cell? ⟨b, o + a, none⟩ = some (.int .u64 (x : Int)) := by
  obtain ⟨ao, cap, rfl, hrow⟩ := hv
  obtain ⟨b, o, rfl, HR⟩ := hrow (List.length_pos_iff.1 hp)
  refine ⟨b, o, cap, rfl, ?_, fun a x ha hx => HR a x ?_⟩
  · exact World.block_lt_of_cell? w _ (HR 0 _ (List.getElem?_eq_getElem hp))
  · rw [List.getD_eq_getElem?_getD, List.getElem?_eq_getElem ha] at hx
    rw [List.getElem?_eq_getElem ha]; exact congrArg some hx
section
variable {op W n k0 k1 k2 r0 r1 r2 r3 r4 r5 r6 r7 : Int} {vl vv vi vm : Value} {w : World}
set_option maxRecDepth 100000
set_option maxHeartbeats 2000000
theorem one_low (vs : List Nat) (hv : SlN w vv vs) (hvl : vs.length ≤ 1000000) (a : Nat) (ha : a < vs.length) (x : Nat) (hx : vs.getD a 0 = x) (hxb : x < 18446744073709551616) :
    Calls Tryz.prog 56 #[vl, vv, .agg #[vi, .int .u64 r0, .int .u64 r1, .int .u64 r2, .int .u64 r3, .int .u64 r4, .int .u64 r5, .int .u64 r6, .int .u64 r7, vm], .agg #[.int .i64 7, .int .i64 W, .int .u64 n, .int .i64 a, .int .i64 k1, .int .i64 k2]] w fun e w' => e = .returned (.int .u64 ((x % 256 : Nat) : Int)) ∧ Below w.heap.size w w' := by
  obtain ⟨b, o, cap, rfl, hlt, HR⟩ := sln_row hv (by omega)
  have hc := HR a x ha hx
  have h0 : (0 : Int) ≤ (a : Int) := by omega
  have h1 : (a : Int) < (vs.length : Int) := by omega
  have hxb' : (x : Int) < 18446744073709551616 := by omega
  clear HR hx hv hxb
  go_enter Tryz.func56, Tryz.ntmps56
  (repeat (first | (with_reducible first | refine xA ?_ | refine xB ?_ | refine xC ?_ | refine xD ?_ | refine xH ?_ | refine xI rfl ?_ | refine xE ?_ | refine xF ?_ | refine xG ?_) | go_values | go_skip | go_guarded | go_step | go_upon | go_back | ((with_reducible show Oper.upon _ _ _ _ _ _); go_simp) | (dsimp only)))
  go_ret
  exact ⟨ret_int (by omega), by (repeat (first | with_reducible exact Below.refl _ _ | assumption | with_reducible refine below_drewN ?_ _ | with_reducible refine Below.drew ?_ | with_reducible refine Below.setRow ?_ ?_ _ | with_reducible refine Below.alloc ?_ ?_ _ | with_reducible refine Below.setCell ?_ ?_ _ | with_reducible exact Nat.le_refl _ | (focus (simp; done)) | (focus (simp; omega)) | omega))⟩
theorem one_choice (vs : List Nat) (hv : SlN w vv vs) (hvl : vs.length ≤ 1000000) (a b c : Nat) (ha : a < vs.length) (hb : b < vs.length) (hc : c < vs.length) (r : Nat) (hr : Hid ((if vs.getD a 0 = 1 then vs.getD b 0 else vs.getD c 0) = r)) :
    Calls Tryz.prog 56 #[vl, vv, .agg #[vi, .int .u64 r0, .int .u64 r1, .int .u64 r2, .int .u64 r3, .int .u64 r4, .int .u64 r5, .int .u64 r6, .int .u64 r7, vm], .agg #[.int .i64 22, .int .i64 W, .int .u64 n, .int .i64 a, .int .i64 b, .int .i64 c]] w fun e w' => e = .returned (.int .u64 (r : Int)) ∧ Below w.heap.size w w' := by
  obtain ⟨q, o, cap, rfl, hlt, HR⟩ := sln_row hv (by omega)
  obtain ⟨x, hx⟩ : ∃ x, vs.getD a 0 = x := ⟨_, rfl⟩
  obtain ⟨y, hy⟩ : ∃ x, vs.getD b 0 = x := ⟨_, rfl⟩
  obtain ⟨z, hz⟩ : ∃ x, vs.getD c 0 = x := ⟨_, rfl⟩
  have ca := HR a x ha hx
  have cb := HR b y hb hy
  have cc := HR c z hc hz
  have hrr := hr.out
  rw [hx, hy, hz] at hrr
  have a0 : (0 : Int) ≤ (a : Int) := by omega
  have a1 : (a : Int) < (vs.length : Int) := by omega
  have b0 : (0 : Int) ≤ (b : Int) := by omega
  have b1 : (b : Int) < (vs.length : Int) := by omega
  have c0 : (0 : Int) ≤ (c : Int) := by omega
  have c1 : (c : Int) < (vs.length : Int) := by omega
  clear HR hx hy hz hv hr
  by_cases h1 : x = 1
  · rw [if_pos h1] at hrr
    subst hrr
    have f : (((x : Nat) : Int) == 1) = true := by simp; omega
    clear h1
    go_enter Tryz.func56, Tryz.ntmps56
    (repeat (first | (with_reducible first | refine xA ?_ | refine xB ?_ | refine xC ?_ | refine xD ?_ | refine xH ?_ | refine xI rfl ?_ | refine xE ?_ | refine xF ?_ | refine xG ?_) | go_values | go_skip | go_guarded | go_step | go_upon | go_back | ((with_reducible show Oper.upon _ _ _ _ _ _); go_simp) | (dsimp only)))
    go_ret
    exact ⟨rfl, by (repeat (first | with_reducible exact Below.refl _ _ | assumption | with_reducible refine below_drewN ?_ _ | with_reducible refine Below.drew ?_ | with_reducible refine Below.setRow ?_ ?_ _ | with_reducible refine Below.alloc ?_ ?_ _ | with_reducible refine Below.setCell ?_ ?_ _ | with_reducible exact Nat.le_refl _ | (focus (simp; done)) | (focus (simp; omega)) | omega))⟩
  · rw [if_neg h1] at hrr
    subst hrr
    have f : (((x : Nat) : Int) == 1) = false := by simp; omega
    clear h1
    go_enter Tryz.func56, Tryz.ntmps56
    (repeat (first | (with_reducible first | refine xA ?_ | refine xB ?_ | refine xC ?_ | refine xD ?_ | refine xH ?_ | refine xI rfl ?_ | refine xE ?_ | refine xF ?_ | refine xG ?_) | go_values | go_skip | go_guarded | go_step | go_upon | go_back | ((with_reducible show Oper.upon _ _ _ _ _ _); go_simp) | (dsimp only)))
    go_ret
    exact ⟨rfl, by (repeat (first | with_reducible exact Below.refl _ _ | assumption | with_reducible refine below_drewN ?_ _ | with_reducible refine Below.drew ?_ | with_reducible refine Below.setRow ?_ ?_ _ | with_reducible refine Below.alloc ?_ ?_ _ | with_reducible refine Below.setCell ?_ ?_ _ | with_reducible exact Nat.le_refl _ | (focus (simp; done)) | (focus (simp; omega)) | omega))⟩
theorem one_app (ls : List Nd) (hl : SlIs 6 Nd.cells w vl ls) (hll : ls.length ≤ 1000000) (vs : List Nat) (hv : SlN w vv vs) (hvl : vs.length ≤ ls.length) (a : Nat) (ha : a < vs.length) (b : Nat) (hb : b < vs.length) (x y : Nat) (hx : vs.getD a 0 = x) (hy : vs.getD b 0 = y) (hxb : x < 18446744073709551616) (hyb : y < 18446744073709551616)
    (f0 : (op == 0) = false) (f1 : (op == 1) = false) (f2 : (op == 2) = false) (f3 : (op == 3) = false) (f4 : (op == 4) = false) (f24 : (op == 24) = false) (f6 : (op == 6) = false) (f7 : (op == 7) = false) (f22 : (op == 22) = false) (f23 : (op == 23) = false) (r : Int) (hr : Hid (AP op (wAt ls a) x y = r)) :
    Calls Tryz.prog 56 #[vl, vv, .agg #[vi, .int .u64 r0, .int .u64 r1, .int .u64 r2, .int .u64 r3, .int .u64 r4, .int .u64 r5, .int .u64 r6, .int .u64 r7, vm], .agg #[.int .i64 op, .int .i64 W, .int .u64 n, .int .i64 a, .int .i64 b, .int .i64 k2]] w fun e w' => e = .returned (.int .u64 r) ∧ Below w.heap.size w w' := by
  obtain ⟨q, o, cap, rfl, hlt, HR⟩ := sln_row hv (by omega)
  have cx := HR a x ha hx
  have cy := HR b y hb hy
  obtain ⟨ao, lcap, rfl, hcap, -, hrow⟩ := hl
  obtain ⟨lb, lo, rfl, HL⟩ := hrow (List.length_pos_iff.1 (by omega))
  have hal : a < ls.length := by omega
  have cw := HL a _ (List.getElem?_eq_getElem hal) 1 _ rfl
  have ew : wAt ls a = ls[a].w := wAt_get (List.getElem?_eq_getElem hal)
  obtain ⟨V, hV⟩ : ∃ V, ls[a].w = V := ⟨_, rfl⟩
  rw [hV] at cw ew
  rw [ew] at hr
  have cw' : w.cell? ⟨lb, lo + 6 * a + 1, none⟩ = some (.int .i64 V) := by rw [← cw, Nat.add_assoc]
  have hltl := World.block_lt_of_cell? w _ cw'
  have HAP : Hid (∀ u : World, Calls Tryz.prog 72 #[.int .i64 op, .int .i64 V, .int .u64 (x : Int), .int .u64 (y : Int)] u fun e w' => e = .returned (.int .u64 r) ∧ Below u.heap.size u w') := Lib.hid (fun u => by rw [← hr.out]; exact rapply_any op V x y u (Lib.hid hxb) (Lib.hid hyb))
  have a0 : (0 : Int) ≤ (a : Int) := by omega
  have a1 : (a : Int) < (vs.length : Int) := by omega
  have a2 : (a : Int) < (ls.length : Int) := by omega
  have b0 : (0 : Int) ≤ (b : Int) := by omega
  have b1 : (b : Int) < (vs.length : Int) := by omega
  have hlI : (ls.length : Int) ≤ 1000000 := by omega
  have hvI : (vs.length : Int) ≤ 1000000 := by omega
  clear HR hx hy hxb hyb hr HL hrow cw hcap
  go_enter Tryz.func56, Tryz.ntmps56
  (repeat (first | (with_reducible first | refine xA ?_ | refine xB ?_ | refine xC ?_ | refine xD ?_ | refine xH ?_ | refine xI rfl ?_ | refine xE ?_ | refine xF ?_ | refine xG ?_) | go_values | go_skip | go_guarded | go_step | go_upon | go_back | ((with_reducible show Oper.upon _ _ _ _ _ _); go_simp) | (dsimp only)))
  refine wp_abs (fun u => Below w.heap.size w u ∧ u.heap[w.heap.size + 1]? = some (.cells #[.int .i64 op, .int .i64 W, .int .u64 n, .int .i64 a, .int .i64 b, .int .i64 k2] 49 (0, 0))) ⟨by (repeat (first | with_reducible exact Below.refl _ _ | assumption | with_reducible refine below_drewN ?_ _ | with_reducible refine Below.drew ?_ | with_reducible refine Below.setRow ?_ ?_ _ | with_reducible refine Below.alloc ?_ ?_ _ | with_reducible refine Below.setCell ?_ ?_ _ | with_reducible exact Nat.le_refl _ | (focus (simp; done)) | (focus (simp; omega)) | omega)), by simpa using heap_alloc_new (w.alloc (.cells #[vi, .int .u64 r0, .int .u64 r1, .int .u64 r2, .int .u64 r3, .int .u64 r4, .int .u64 r5, .int .u64 r6, .int .u64 r7, vm] 27)) (.cells #[.int .i64 op, .int .i64 W, .int .u64 n, .int .i64 a, .int .i64 b, .int .i64 k2] 49)⟩ ?_
  rintro u ⟨hb, hbx⟩
  have hS : (fun u => u.cell? ⟨w.heap.size + 1, 0, none⟩ = some (.int .i64 op) ∧ u.cell? ⟨w.heap.size + 1, 3, none⟩ = some (.int .i64 a) ∧ u.cell? ⟨w.heap.size + 1, 4, none⟩ = some (.int .i64 b) ∧ u.cell? ⟨lb, lo + 6 * a + 1, none⟩ = some (.int .i64 V) ∧ u.cell? ⟨q, o + a, none⟩ = some (.int .u64 (x : Int)) ∧ u.cell? ⟨q, o + b, none⟩ = some (.int .u64 (y : Int))) u := ⟨(cell_of_row u _ 0 _ _ _ hbx).trans rfl, (cell_of_row u _ 3 _ _ _ hbx).trans rfl, (cell_of_row u _ 4 _ _ _ hbx).trans rfl, cell_keep hb cw', cell_keep hb cx, cell_keep hb cy⟩
  have hbd := hb.trans ((⟨rfl, rfl, rfl, Nat.le_refl _, fun _ _ => rfl⟩ : Below u.heap.size u ({ u with drawn := u.drawn + 1 } : World)).mono hb.size)
  refine wp_region_held (S := fun u => u.cell? ⟨w.heap.size + 1, 0, none⟩ = some (.int .i64 op) ∧ u.cell? ⟨w.heap.size + 1, 3, none⟩ = some (.int .i64 a) ∧ u.cell? ⟨w.heap.size + 1, 4, none⟩ = some (.int .i64 b) ∧ u.cell? ⟨lb, lo + 6 * a + 1, none⟩ = some (.int .i64 V) ∧ u.cell? ⟨q, o + a, none⟩ = some (.int .u64 (x : Int)) ∧ u.cell? ⟨q, o + b, none⟩ = some (.int .u64 (y : Int))) (by kernel_rfl) ?_
  have HSC : (fun u => u.cell? ⟨w.heap.size + 1, 0, none⟩ = some (.int .i64 op) ∧ u.cell? ⟨w.heap.size + 1, 3, none⟩ = some (.int .i64 a) ∧ u.cell? ⟨w.heap.size + 1, 4, none⟩ = some (.int .i64 b) ∧ u.cell? ⟨lb, lo + 6 * a + 1, none⟩ = some (.int .i64 V) ∧ u.cell? ⟨q, o + a, none⟩ = some (.int .u64 (x : Int)) ∧ u.cell? ⟨q, o + b, none⟩ = some (.int .u64 (y : Int))) ({ u with drawn := u.drawn + 1 } : World) := hS
  clear hS hbx cw' cx cy hb
  generalize ({ u with drawn := u.drawn + 1 } : World) = u0 at *
  (refine wpAnyH_take (i := 0) (v := .pointer (some ⟨w.heap.size + 1, 0, none⟩)) rfl (by kernel_rfl) (by kernel_rfl) (by kernel_rfl) (fun _ _ _ h => h) (Or.inl ⟨rfl, fun w _ => by go_simp⟩) HSC ?_; simp only [Act.put, qz1, qz2, qz3, qz4, qz5, qz6])
  (refine wpAnyH_take (i := 1) (v := .int .i64 op) rfl (by kernel_rfl) (by kernel_rfl) (by kernel_rfl) (fun _ _ _ h => h) (Or.inl ⟨rfl, fun w hw => by have hx := hw.1; go_simp⟩) HSC ?_; simp only [Act.put, qz1, qz2, qz3, qz4, qz5, qz6])
  (refine wpAnyH_take (i := 2) (v := .slice (some ⟨lb, lo, none⟩) ls.length lcap) rfl (by kernel_rfl) (by kernel_rfl) (by kernel_rfl) (fun _ _ _ h => h) (Or.inl ⟨rfl, fun w _ => by go_simp⟩) HSC ?_; simp only [Act.put, qz1, qz2, qz3, qz4, qz5, qz6])
  (refine wpAnyH_take (i := 3) (v := .pointer (some ⟨w.heap.size + 1, 3, none⟩)) rfl (by kernel_rfl) (by kernel_rfl) (by kernel_rfl) (fun _ _ _ h => h) (Or.inl ⟨rfl, fun w _ => by go_simp⟩) HSC ?_; simp only [Act.put, qz1, qz2, qz3, qz4, qz5, qz6])
  (refine wpAnyH_take (i := 4) (v := .pointer (some ⟨w.heap.size + 1, 3, none⟩)) rfl (by kernel_rfl) (by kernel_rfl) (by kernel_rfl) (fun _ _ _ h => h) (Or.inl ⟨rfl, fun w _ => by go_simp⟩) HSC ?_; simp only [Act.put, qz1, qz2, qz3, qz4, qz5, qz6])
  (refine wpAnyH_take (i := 5) (v := .int .i64 a) rfl (by kernel_rfl) (by kernel_rfl) (by kernel_rfl) (fun _ _ _ h => h) (Or.inl ⟨rfl, fun w hw => by have hx := hw.2.1; go_simp⟩) HSC ?_; simp only [Act.put, qz1, qz2, qz3, qz4, qz5, qz6])
  (refine wpAnyH_take (i := 6) (v := .pointer (some ⟨lb, lo + 6 * a, none⟩)) rfl (by kernel_rfl) (by kernel_rfl) (by kernel_rfl) (fun _ _ _ h => h) (Or.inl ⟨rfl, fun w _ => by go_simp⟩) HSC ?_; simp only [Act.put, qz1, qz2, qz3, qz4, qz5, qz6])
  (refine wpAnyH_take (i := 7) (v := .pointer (some ⟨lb, lo + 6 * a + 1, none⟩)) rfl (by kernel_rfl) (by kernel_rfl) (by kernel_rfl) (fun _ _ _ h => h) (Or.inl ⟨rfl, fun w _ => by go_simp⟩) HSC ?_; simp only [Act.put, qz1, qz2, qz3, qz4, qz5, qz6])
  (refine wpAnyH_take (i := 8) (v := .int .i64 V) rfl (by kernel_rfl) (by kernel_rfl) (by kernel_rfl) (fun _ _ _ h => h) (Or.inl ⟨rfl, fun w hw => by have hx := hw.2.2.2.1; go_simp⟩) HSC ?_; simp only [Act.put, qz1, qz2, qz3, qz4, qz5, qz6])
  (refine wpAnyH_take (i := 9) (v := .slice (some ⟨q, o, none⟩) vs.length cap) rfl (by kernel_rfl) (by kernel_rfl) (by kernel_rfl) (fun _ _ _ h => h) (Or.inl ⟨rfl, fun w _ => by go_simp⟩) HSC ?_; simp only [Act.put, qz1, qz2, qz3, qz4, qz5, qz6])
  (refine wpAnyH_take (i := 10) (v := .pointer (some ⟨w.heap.size + 1, 3, none⟩)) rfl (by kernel_rfl) (by kernel_rfl) (by kernel_rfl) (fun _ _ _ h => h) (Or.inl ⟨rfl, fun w _ => by go_simp⟩) HSC ?_; simp only [Act.put, qz1, qz2, qz3, qz4, qz5, qz6])
  (refine wpAnyH_take (i := 11) (v := .pointer (some ⟨w.heap.size + 1, 3, none⟩)) rfl (by kernel_rfl) (by kernel_rfl) (by kernel_rfl) (fun _ _ _ h => h) (Or.inl ⟨rfl, fun w _ => by go_simp⟩) HSC ?_; simp only [Act.put, qz1, qz2, qz3, qz4, qz5, qz6])
  (refine wpAnyH_take (i := 12) (v := .int .i64 a) rfl (by kernel_rfl) (by kernel_rfl) (by kernel_rfl) (fun _ _ _ h => h) (Or.inl ⟨rfl, fun w hw => by have hx := hw.2.1; go_simp⟩) HSC ?_; simp only [Act.put, qz1, qz2, qz3, qz4, qz5, qz6])
  (refine wpAnyH_take (i := 13) (v := .pointer (some ⟨q, o + a, none⟩)) rfl (by kernel_rfl) (by kernel_rfl) (by kernel_rfl) (fun _ _ _ h => h) (Or.inl ⟨rfl, fun w _ => by go_simp⟩) HSC ?_; simp only [Act.put, qz1, qz2, qz3, qz4, qz5, qz6])
  (refine wpAnyH_take (i := 14) (v := .int .u64 (x : Int)) rfl (by kernel_rfl) (by kernel_rfl) (by kernel_rfl) (fun _ _ _ h => h) (Or.inl ⟨rfl, fun w hw => by have hx := hw.2.2.2.2.1; go_simp⟩) HSC ?_; simp only [Act.put, qz1, qz2, qz3, qz4, qz5, qz6])
  (refine wpAnyH_take (i := 15) (v := .slice (some ⟨q, o, none⟩) vs.length cap) rfl (by kernel_rfl) (by kernel_rfl) (by kernel_rfl) (fun _ _ _ h => h) (Or.inl ⟨rfl, fun w _ => by go_simp⟩) HSC ?_; simp only [Act.put, qz1, qz2, qz3, qz4, qz5, qz6])
  (refine wpAnyH_take (i := 16) (v := .pointer (some ⟨w.heap.size + 1, 3, none⟩)) rfl (by kernel_rfl) (by kernel_rfl) (by kernel_rfl) (fun _ _ _ h => h) (Or.inl ⟨rfl, fun w _ => by go_simp⟩) HSC ?_; simp only [Act.put, qz1, qz2, qz3, qz4, qz5, qz6])
  (refine wpAnyH_take (i := 17) (v := .pointer (some ⟨w.heap.size + 1, 4, none⟩)) rfl (by kernel_rfl) (by kernel_rfl) (by kernel_rfl) (fun _ _ _ h => h) (Or.inl ⟨rfl, fun w _ => by go_simp⟩) HSC ?_; simp only [Act.put, qz1, qz2, qz3, qz4, qz5, qz6])
  (refine wpAnyH_take (i := 18) (v := .int .i64 b) rfl (by kernel_rfl) (by kernel_rfl) (by kernel_rfl) (fun _ _ _ h => h) (Or.inl ⟨rfl, fun w hw => by have hx := hw.2.2.1; go_simp⟩) HSC ?_; simp only [Act.put, qz1, qz2, qz3, qz4, qz5, qz6])
  (refine wpAnyH_take (i := 19) (v := .pointer (some ⟨q, o + b, none⟩)) rfl (by kernel_rfl) (by kernel_rfl) (by kernel_rfl) (fun _ _ _ h => h) (Or.inl ⟨rfl, fun w _ => by go_simp⟩) HSC ?_; simp only [Act.put, qz1, qz2, qz3, qz4, qz5, qz6])
  (refine wpAnyH_take (i := 20) (v := .int .u64 (y : Int)) rfl (by kernel_rfl) (by kernel_rfl) (by kernel_rfl) (fun _ _ _ h => h) (Or.inl ⟨rfl, fun w hw => by have hx := hw.2.2.2.2.2; go_simp⟩) HSC ?_; simp only [Act.put, qz1, qz2, qz3, qz4, qz5, qz6])
  refine wpAnyH_all (rs := [21]) (by kernel_rfl) (by simp) (fun i hi => ?_)
  obtain rfl : i = 21 := by simpa using hi
  refine wpOp_one rfl ?_
  (repeat (first | (with_reducible first | refine xA ?_ | refine xB ?_ | refine xC ?_ | refine xD ?_ | refine xH ?_ | refine xI rfl ?_ | refine xE ?_ | refine xF ?_ | refine xG ?_) | go_skip | go_guarded | (go_at_call 72; (with_reducible refine (HAP.out _).mono ?_); rintro _ u2 ⟨rfl, hb2⟩) | go_values | go_skip | go_guarded | go_step | go_upon | go_back | ((with_reducible show Oper.upon _ _ _ _ _ _); go_simp) | (dsimp only)))
  have HS2 := And.intro (cell_keep hb2 HSC.1) (And.intro (cell_keep hb2 HSC.2.1) (And.intro (cell_keep hb2 HSC.2.2.1) (And.intro (cell_keep hb2 HSC.2.2.2.1) (And.intro (cell_keep hb2 HSC.2.2.2.2.1) (cell_keep hb2 HSC.2.2.2.2.2)))))
  have hb9 := hbd.trans (hb2.mono hbd.size)
  clear HSC
  have HSC := HS2
  refine ⟨HS2, ?_⟩
  (refine wpAnyH_take (i := 22) (v := .int .u64 r) rfl (by kernel_rfl) (by kernel_rfl) (by kernel_rfl) (fun _ _ _ h => h) (Or.inl ⟨rfl, fun w _ => by go_simp⟩) HSC ?_; simp only [Act.put, qz1, qz2, qz3, qz4, qz5, qz6])
  refine wpAnyH_done (by kernel_rfl) ?_ _
  clear HSC HS2 hb2 hbd
  (repeat (first | (with_reducible first | refine xA ?_ | refine xB ?_ | refine xC ?_ | refine xD ?_ | refine xH ?_ | refine xI rfl ?_ | refine xE ?_ | refine xF ?_ | refine xG ?_) | go_values | go_skip | go_guarded | go_step | go_upon | go_back | ((with_reducible show Oper.upon _ _ _ _ _ _); go_simp) | (dsimp only)))
  go_ret
  exact ⟨rfl, hb9⟩
end
def regL (r0 r1 r2 r3 r4 r5 r6 r7 : Int) : List Int := [r0, r1, r2, r3, r4, r5, r6, r7]
def inI (inp : List Int) (i : Nat) : Nat := (atB inp i).toNat
def rgR (rg : List Int) (i : Nat) : Nat := (rg.getD i 0).toNat
structure EnvWf (inp rg : List Int) : Prop where
  il : inp.length ≤ 100
  ib : ∀ x ∈ inp, 0 ≤ x ∧ x < 256
  rb : ∀ x ∈ rg, 0 ≤ x ∧ x < 18446744073709551616
theorem EnvWf.at {inp rg : List Int} (h : EnvWf inp rg) (k : Int) : 0 ≤ atB inp k ∧ atB inp k < 256 := by
  unfold atB
  rw [List.getD_eq_getElem?_getD]
  cases e : inp[k.toNat]? with
  | none => decide
  | some v => exact h.ib v (List.mem_of_getElem? e)
theorem EnvWf.reg {inp rg : List Int} (h : EnvWf inp rg) (k : Nat) : 0 ≤ rg.getD k 0 ∧ rg.getD k 0 < 18446744073709551616 := by
  rw [List.getD_eq_getElem?_getD]
  cases e : rg[k]? with
  | none => decide
  | some v => exact h.rb v (List.mem_of_getElem? e)
theorem EnvWf.I {inp rg : List Int} (h : EnvWf inp rg) (i : Nat) : inI inp i < 256 := by
  have := h.at i; unfold inI; omega
theorem EnvWf.R {inp rg : List Int} (h : EnvWf inp rg) (i : Nat) : rgR rg i < 18446744073709551616 := by
  have := h.reg i; unfold rgR; omega
theorem pow_wd {w : Int} (h : w = 1 ∨ w = 8 ∨ w = 64) {x : Nat} (hx : x < 2 ^ w.toNat) : x < 18446744073709551616 := by
  rcases h with rfl | rfl | rfl
  · have : x < 2 := hx; omega
  · have : x < 256 := hx; omega
  · exact hx
set_option maxRecDepth 100000 in
set_option maxHeartbeats 2000000 in
theorem one_any {r0 r1 r2 r3 r4 r5 r6 r7 : Int} {vl vv vi vm : Value} {w : World} (inp : List Int) (hE : EnvWf inp (regL r0 r1 r2 r3 r4 r5 r6 r7)) (hi : SlIs 1 u8c w vi inp) (ls : List Nd) (hl : SlIs 6 Nd.cells w vl ls) (hll : ls.length ≤ 1000000) (hT : TF ls) (j : Nat) (d : Nd) (hd : ls[j]? = some d)
    (hv : SlN w vv (vK (inI inp) (rgR (regL r0 r1 r2 r3 r4 r5 r6 r7)) ls j)) (r : Nat) (hr : Hid (valD (inI inp) (rgR (regL r0 r1 r2 r3 r4 r5 r6 r7)) ls (vK (inI inp) (rgR (regL r0 r1 r2 r3 r4 r5 r6 r7)) ls j) d = r)) :
    Calls Tryz.prog 56 #[vl, vv, .agg #[vi, .int .u64 r0, .int .u64 r1, .int .u64 r2, .int .u64 r3, .int .u64 r4, .int .u64 r5, .int .u64 r6, .int .u64 r7, vm], .agg #[.int .i64 d.op, .int .i64 d.w, .int .u64 d.n, .int .i64 d.k0, .int .i64 d.k1, .int .i64 d.k2]] w fun e w' => e = .returned (.int .u64 (r : Int)) ∧ Below w.heap.size w w' := by
  have hj : j < ls.length := (List.getElem?_eq_some_iff.1 hd).1
  have hvl := vK_len (I := inI inp) (R := rgR (regL r0 r1 r2 r3 r4 r5 r6 r7)) (ls := ls) j (by omega)
  have hlt := fun (a : Nat) (ha : a < j) => vK_lt (I := inI inp) (R := rgR (regL r0 r1 r2 r3 r4 r5 r6 r7)) hT hE.I hE.R (show j ≤ ls.length by omega) ha
  have hwd := fun (a : Nat) (ha : a < j) => hT.wd a (by omega)
  have hrr := hr.out
  generalize vK (inI inp) (rgR (regL r0 r1 r2 r3 r4 r5 r6 r7)) ls j = vs at *
  obtain ⟨op, W, n, k0, k1, k2⟩ := d
  have app : ∀ (a b : Nat), a < j → b < j → k0 = a → k1 = b → (8 ≤ op ∧ op ≤ 21 ∨ op = 5) → (op = 5 ∨ wAt ls b = wAt ls a) → Calls Tryz.prog 56 #[vl, vv, .agg #[vi, .int .u64 r0, .int .u64 r1, .int .u64 r2, .int .u64 r3, .int .u64 r4, .int .u64 r5, .int .u64 r6, .int .u64 r7, vm], .agg #[.int .i64 op, .int .i64 W, .int .u64 n, .int .i64 k0, .int .i64 k1, .int .i64 k2]] w fun e w' => e = .returned (.int .u64 (r : Int)) ∧ Below w.heap.size w w' := by
    rintro a b ha hb rfl rfl ho hw
    have hxa := hlt a ha
    have hxb := hlt b hb
    have hwa := hwd a ha
    refine one_app ls hl hll vs hv (by omega) a (by omega) b (by omega) _ _ rfl rfl (pow_wd hwa hxa) (pow_wd (hwd b hb) hxb) (by simp; omega) (by simp; omega) (by simp; omega) (by simp; omega) (by simp; omega) (by simp; omega) (by simp; omega) (by simp; omega) (by simp; omega) (by simp; omega) _ (Lib.hid ?_)
    obtain ⟨A, hA⟩ := Int.eq_ofNat_of_zero_le (show 0 ≤ wAt ls a by omega)
    rw [hA] at hxa hwa ⊢
    rw [Int.toNat_natCast] at hxa
    rw [ap_val (by omega) hxa (by
      rcases hw with h | h
      · exact .inl h
      · right; rw [h, hA, Int.toNat_natCast] at hxb; exact hxb)]
    rw [← hrr]
    unfold valD
    dsimp only
    rw [if_neg (by omega), if_neg (by omega), if_neg (by omega), if_neg (by omega), if_neg (by omega), if_neg (by omega), hA]
    simp only [Int.toNat_natCast]
  have hN := hT j _ hd
  cases hN with
  | const h hw hn hN z =>
    dsimp only at h hn
    subst h
    have e : n = (r : Int) := by
      rw [← hrr]
      show n = ((n.toNat : Nat) : Int)
      omega
    dsimp only
    rw [e]
    exact one_const
  | input h hw hn hN =>
    dsimp only at h hn hN
    subst h
    refine one_input inp hi (by have := hE.il; omega) ⟨hn, hN⟩ _ (Lib.hid ?_) (by have := hE.I n.toNat; have e : r = inI inp n.toNat := hrr.symm; omega)
    have e : r = inI inp n.toNat := hrr.symm
    rw [e]
    unfold inI
    rw [Int.toNat_of_nonneg hn]
    have := hE.at n
    omega
  | reg h hw hn hN =>
    dsimp only at h hn hN
    subst h
    refine one_reg ⟨hn, hN⟩ _ (Lib.hid ?_)
    have e : r = rgR (regL r0 r1 r2 r3 r4 r5 r6 r7) n.toNat := hrr.symm
    rw [e]
    unfold rgR
    have := hE.reg n.toNat
    show (regL r0 r1 r2 r3 r4 r5 r6 r7).getD n.toNat 0 = _
    omega
  | not h a ha haj hw h0 z =>
    dsimp only at h ha z
    exact app a 0 haj (by omega) ha z (by omega) (.inl h)
  | wide h a ha haj hw hx =>
    dsimp only at h ha
    subst h; subst ha
    exact one_wide vs hv (by omega) a (by omega) r hrr
  | low h a ha haj hw hx =>
    dsimp only at h ha
    subst h; subst ha
    have e : vs.getD a 0 % 256 = r := hrr
    rw [← e]
    exact one_low vs hv (by omega) a (by omega) _ rfl (pow_wd (hwd a haj) (hlt a haj))
  | two h a b ha hb haj hbj hx hy h0 =>
    dsimp only at h ha hb hx hy
    exact app a b haj hbj ha hb (by omega) (.inr (by rw [hx, hy]))
  | test h a b ha hb haj hbj hx h0 hw =>
    dsimp only at h ha hb
    exact app a b haj hbj ha hb (by omega) (.inr hx)
  | choice h a b c ha hb hc haj hbj hcj h1 hx hy h0 =>
    dsimp only at h ha hb hc
    subst h; subst ha; subst hb; subst hc
    exact one_choice vs hv (by omega) a b c (by omega) (by omega) (by omega) r (Lib.hid hrr)
end Go.Proofs.YtmaogkgjiplckaaGreat
namespace Go.Proofs.YtmaogkgjiplckaaGreat
open Go.RowKit
theorem take_ld {P : Program} {o : Oper} {ev : Operand → Value} {ty : TypeId} {x : Operand} {v p : Value} {w : World} (ho : o.op = .load ty x) (hx : ev x = p) (h : (Instr.loadAt ty p).run P w = .ok v w) : (execOp ev o).run P w = .ok (.value v) w := by
  unfold execOp
  simp only [ho, hx, Sem.run_bind, h, Result.andThen_ok]
  rfl
theorem sizeEnv : (Tryz.prog.info? 27).map (·.size) = some 10 := by kernel_rfl
theorem ldEnv {vi vm : Value} {r0 r1 r2 r3 r4 r5 r6 r7 : Int} (u : World) (b : Nat) (h : u.heap[b]? = some (.cells #[vi, .int .u64 r0, .int .u64 r1, .int .u64 r2, .int .u64 r3, .int .u64 r4, .int .u64 r5, .int .u64 r6, .int .u64 r7, vm] 27 (0, 0))) : (Instr.loadAt 27 (.pointer (some ⟨b, 0, none⟩))).run Tryz.prog u = .ok (.agg #[vi, .int .u64 r0, .int .u64 r1, .int .u64 r2, .int .u64 r3, .int .u64 r4, .int .u64 r5, .int .u64 r6, .int .u64 r7, vm]) u := by
  have e := run_loadVar_row u b 27 27 _ (0, 0) _ h Tryz.underlying27 rfl sizeEnv
  simp only [Instr.loadAt, Instr.sureAddr, Sem.run_bind, Sem.run_pure, Result.andThen_ok]
  exact e
theorem info_u64 : (Tryz.prog.info? 24).map (fun i => (i.zero, i.size, i.bytes)) = some (some (.int .u64 0), 1, 8) := by kernel_rfl
def n64s (l : List Nat) : List Value := l.map fun (x : Nat) => .int .u64 (x : Int)
section
variable {ops : Array Oper} {rest : List Oper} {o : Oper} {a : Act} {w : World} {Q : Exit → Act → World → Prop}
theorem wl_pushU (hgd : o.guard = none) (s x : Operand) (ho : o.op = .call { callee := .builtin .append, args := #[s, x], argTypes := #[88, 88] }) (base : Nat) (v : Value) (n : Nat) (l : List Nat) (hs : a.eval s = v) (hown : w.ownsRow base 24 1 v n (n64s l)) (b : Nat) (u : Nat) (hx : a.eval x = .slice (some ⟨b, 0, none⟩) 1 1) (hb : w.cell? ⟨b, 0, none⟩ = some (.int .u64 (u : Int))) (hn : n ≤ 1000000000) (hbase : base ≤ w.heap.size)
    (h : ∀ v' w', w'.ownsRow base 24 1 v' (n + 1) (n64s (l ++ [u])) → w.grownBy w' v.ownBlock → (v'.ownBlock = v.ownBlock ∨ v'.ownBlock = some w.heap.size) → wpList Tryz.prog ops Q rest (a.put o.dst v') w') : wpList Tryz.prog ops Q (o :: rest) a w := by
  obtain ⟨i0, hi0, hz0, hz1, hz2⟩ := info_parts info_u64
  refine wpList_append_own_at _ hgd s x 88 ho base 24 i0 (.int .u64 0) 1 8 Tryz.underlying88 hi0 hz0 hz1 hz2 rfl (by decide) v n _ hs hown ⟨b, 0, none⟩ 1 1 [.int .u64 (u : Int)] hx rfl ?_ (by simp [Value.oneCell']) (by simp only [maxLen]; omega) (by omega) hbase ?_
  · intro j y hj
    rcases j with _ | j
    · simp at hj; subst hj
      simpa [Addr.add] using hb
    · simp at hj
  · intro v' w' h1 h2 _ h4
    exact h v' w' (by unfold n64s; rw [List.map_append]; exact h1) h2 h4
end
theorem own_sln {w : World} {B n : Nat} {v : Value} {l : List Nat} (h : w.ownsRow B 24 1 v n (n64s l)) : SlN w v l := by
  have hl : l.length = n := by simpa [n64s] using h.1
  subst hl
  rcases h.2 with ⟨rfl, hn⟩ | ⟨g, cap, cur, rfl, hb, hh, hnc, _⟩
  · exact ⟨none, 0, by rw [hn], fun hne => absurd (List.length_eq_zero_iff.1 hn) hne⟩
  · refine ⟨_, cap, rfl, fun _ => ⟨g, 0, rfl, fun i x hi => ?_⟩⟩
    have := h.cells (g := g) rfl i (.int .u64 (x : Int)) (by simp [n64s, hi])
    rcases i with _ | i
    · simpa [Addr.add] using this
    · simpa [Addr.add] using this
set_option maxRecDepth 100000 in
set_option maxHeartbeats 4000000 in
theorem values_any {r0 r1 r2 r3 r4 r5 r6 r7 : Int} {vl vi vm : Value} {w : World} (inp : List Int) (hE : EnvWf inp (regL r0 r1 r2 r3 r4 r5 r6 r7)) (hi : SlIs 1 u8c w vi inp) (ls : List Nd) (hl : SlIs 6 Nd.cells w vl ls) (hll : ls.length ≤ 1000000) (hT : TF ls) (I R : Nat → Nat) (hI : I = inI inp) (hR : R = rgR (regL r0 r1 r2 r3 r4 r5 r6 r7)) :
    Calls Tryz.prog 36 #[vl, .agg #[vi, .int .u64 r0, .int .u64 r1, .int .u64 r2, .int .u64 r3, .int .u64 r4, .int .u64 r5, .int .u64 r6, .int .u64 r7, vm]] w fun e w' => (∃ v, e = .returned v ∧ w'.ownsRow (w.heap.size + 1) 24 1 v ls.length (n64s (vK I R ls ls.length))) ∧ Below w.heap.size w w' := by
  have HEW := Lib.hid hE
  have HI := Lib.hid hi
  have HL := Lib.hid hl
  have HT := Lib.hid hT
  obtain ⟨ao, cap, rfl, hcap, hnil, hrow⟩ := hl
  have HROW := Lib.hid hrow
  have hlI : (ls.length : Int) ≤ 1000000 := by omega
  have HIe := Lib.hid hI
  have HRe := Lib.hid hR
  clear hE hi hT hrow hnil hI hR hll
  go_enter Tryz.func36, Tryz.ntmps36
  (repeat (first | (with_reducible first | refine xA ?_ | refine xB ?_ | refine xC ?_ | refine xD ?_ | refine xH ?_ | refine xI rfl ?_ | refine xE ?_ | refine xF ?_ | refine xG ?_) | go_values | go_skip | go_guarded | go_step | go_upon | go_back | ((with_reducible show Oper.upon _ _ _ _ _ _); go_simp) | (dsimp only)))
  refine wp_abs (fun u => Below w.heap.size w u ∧ u.heap[w.heap.size]? = some (.cells #[vi, .int .u64 r0, .int .u64 r1, .int .u64 r2, .int .u64 r3, .int .u64 r4, .int .u64 r5, .int .u64 r6, .int .u64 r7, vm] 27 (0, 0))) ⟨by (repeat (first | with_reducible exact Below.refl _ _ | assumption | with_reducible refine below_drewN ?_ _ | with_reducible refine Below.drew ?_ | with_reducible refine Below.setRow ?_ ?_ _ | with_reducible refine Below.alloc ?_ ?_ _ | with_reducible refine Below.setCell ?_ ?_ _ | with_reducible exact Nat.le_refl _ | (focus (simp; done)) | (focus (simp; omega)) | omega)), heap_alloc_new w (.cells #[vi, .int .u64 r0, .int .u64 r1, .int .u64 r2, .int .u64 r3, .int .u64 r4, .int .u64 r5, .int .u64 r6, .int .u64 r7, vm] 27)⟩ ?_
  rintro w1 ⟨hb1, he1⟩
  have hlt1 := lt_of_block he1
  go_loopw [5, 6] (fun v i wr => ∃ k : Nat, k ≤ ls.length ∧ i = .int .i64 k ∧ Hid (wr.ownsRow (w.heap.size + 1) 24 1 v k (n64s (vK I R ls k))) ∧ (fun u => Below w.heap.size w u ∧ u.heap[w.heap.size]? = some (.cells #[vi, .int .u64 r0, .int .u64 r1, .int .u64 r2, .int .u64 r3, .int .u64 r4, .int .u64 r5, .int .u64 r6, .int .u64 r7, vm] 27 (0, 0))) wr) (fun _ i _ => ls.length - (intOf i).toNat)
  case atStart => exact ⟨0, Nat.zero_le _, rfl, Lib.hid (by simpa [n64s, vK] using World.ownsRow_nil w1 _ _ _), hb1, he1⟩
  case round =>
    clear hb1 he1 hlt1
    obtain ⟨k, hk, rfl, HO, hS⟩ := hrel
    rcases Nat.lt_or_ge k ls.length with hlt | hge
    · obtain ⟨d, hd⟩ : ∃ d, ls[k]? = some d := ⟨_, List.getElem?_eq_getElem hlt⟩
      obtain ⟨b, off, rfl, HR0⟩ := HROW.out (by intro e; rw [e] at hlt; simp at hlt)
      have HC : Hid (∀ u : World, Below w.heap.size w u → ∀ (j : Nat) (c : Value), d.cells[j]? = some c → u.cell? ⟨b, off + 6 * k + j, none⟩ = some c) := Lib.hid (fun u hb j c hj => by
        have := cell_keep hb (HR0 k d hd j c hj)
        rwa [← Nat.add_assoc] at this)
      obtain ⟨r, hr⟩ : ∃ r, Hid (valD I R ls (vK I R ls k) d = r) := ⟨_, Lib.hid rfl⟩
      have HV : Hid (vK I R ls (k + 1) = vK I R ls k ++ [r]) := Lib.hid (by rw [← hr.out, vK, hd])
      obtain ⟨av, cv, rfl⟩ := ownsRow_shape HO.out
      have HONE : Hid (∀ u : World, Below w.heap.size w u → SlN u (.slice av k cv) (vK I R ls k) → Calls Tryz.prog 56 #[.slice (some ⟨b, off, none⟩) ls.length cap, .slice av k cv, .agg #[vi, .int .u64 r0, .int .u64 r1, .int .u64 r2, .int .u64 r3, .int .u64 r4, .int .u64 r5, .int .u64 r6, .int .u64 r7, vm], .agg #[.int .i64 d.op, .int .i64 d.w, .int .u64 d.n, .int .i64 d.k0, .int .i64 d.k1, .int .i64 d.k2]] u fun e w' => e = .returned (.int .u64 (r : Int)) ∧ Below u.heap.size u w') := Lib.hid (fun u hb hs => by
        have e1 := HIe.out
        have e2 := HRe.out
        subst e1; subst e2
        exact one_any inp HEW.out (HI.out.below hb) ls (HL.out.below hb) (by omega) HT.out k d hd hs r hr)
      have i0 : (0 : Int) ≤ (k : Int) := by omega
      have i1 : (k : Int) < (ls.length : Int) := by omega
      clear HR0 hd hr
      (repeat (first | (with_reducible first | refine xA ?_ | refine xB ?_ | refine xC ?_ | refine xD ?_ | refine xH ?_ | refine xI rfl ?_ | refine xE ?_ | refine xF ?_ | refine xG ?_) | go_values | go_skip | go_guarded | go_step | go_upon | go_back | ((with_reducible show Oper.upon _ _ _ _ _ _); go_simp) | (dsimp only)))
      refine wp_region_held (S := fun u => Below w.heap.size w u ∧ u.heap[w.heap.size]? = some (.cells #[vi, .int .u64 r0, .int .u64 r1, .int .u64 r2, .int .u64 r3, .int .u64 r4, .int .u64 r5, .int .u64 r6, .int .u64 r7, vm] 27 (0, 0))) (by kernel_rfl) ?_
      have HSC : (fun u => Below w.heap.size w u ∧ u.heap[w.heap.size]? = some (.cells #[vi, .int .u64 r0, .int .u64 r1, .int .u64 r2, .int .u64 r3, .int .u64 r4, .int .u64 r5, .int .u64 r6, .int .u64 r7, vm] 27 (0, 0))) ({ wr with drawn := wr.drawn + 1 } : World) := ⟨hS.1.trans ⟨rfl, rfl, rfl, Nat.le_refl _, fun _ _ => rfl⟩, hS.2⟩
      have hO : ({ wr with drawn := wr.drawn + 1 } : World).ownsRow (w.heap.size + 1) 24 1 (.slice av k cv) k (n64s (vK I R ls k)) := HO.out
      clear hS HO
      generalize ({ wr with drawn := wr.drawn + 1 } : World) = u0 at *
      (refine wpAnyH_take (i := 0) (v := .slice av k cv) rfl (by kernel_rfl) (by kernel_rfl) (by kernel_rfl) (fun _ _ _ h => h) (Or.inl ⟨rfl, fun w _ => by go_simp⟩) HSC ?_; simp only [Act.put, qz1, qz2, qz3, qz4, qz5, qz6])
      (refine wpAnyH_take (i := 1) (v := .slice (some ⟨b, off, none⟩) ls.length cap) rfl (by kernel_rfl) (by kernel_rfl) (by kernel_rfl) (fun _ _ _ h => h) (Or.inl ⟨rfl, fun w _ => by go_simp⟩) HSC ?_; simp only [Act.put, qz1, qz2, qz3, qz4, qz5, qz6])
      (refine wpAnyH_take (i := 2) (v := .slice av k cv) rfl (by kernel_rfl) (by kernel_rfl) (by kernel_rfl) (fun _ _ _ h => h) (Or.inl ⟨rfl, fun w _ => by go_simp⟩) HSC ?_; simp only [Act.put, qz1, qz2, qz3, qz4, qz5, qz6])
      (refine wpAnyH_take (i := 3) (v := .agg #[vi, .int .u64 r0, .int .u64 r1, .int .u64 r2, .int .u64 r3, .int .u64 r4, .int .u64 r5, .int .u64 r6, .int .u64 r7, vm]) rfl (by kernel_rfl) (by kernel_rfl) (by kernel_rfl) (fun _ _ _ h => h) (Or.inl ⟨rfl, fun w hw => take_ld rfl rfl (ldEnv w _ hw.2)⟩) HSC ?_; simp only [Act.put, qz1, qz2, qz3, qz4, qz5, qz6])
      (refine wpAnyH_take (i := 4) (v := .slice (some ⟨b, off, none⟩) ls.length cap) rfl (by kernel_rfl) (by kernel_rfl) (by kernel_rfl) (fun _ _ _ h => h) (Or.inl ⟨rfl, fun w _ => by go_simp⟩) HSC ?_; simp only [Act.put, qz1, qz2, qz3, qz4, qz5, qz6])
      (refine wpAnyH_take (i := 5) (v := .int .i64 k) rfl (by kernel_rfl) (by kernel_rfl) (by kernel_rfl) (fun _ _ _ h => h) (Or.inl ⟨rfl, fun w _ => by go_simp⟩) HSC ?_; simp only [Act.put, qz1, qz2, qz3, qz4, qz5, qz6])
      (refine wpAnyH_take (i := 6) (v := .pointer (some ⟨b, off + 6 * k, none⟩)) rfl (by kernel_rfl) (by kernel_rfl) (by kernel_rfl) (fun _ _ _ h => h) (Or.inl ⟨rfl, fun w _ => by go_simp⟩) HSC ?_; simp only [Act.put, qz1, qz2, qz3, qz4, qz5, qz6])
      (refine wpAnyH_take (i := 7) (v := .agg #[.int .i64 d.op, .int .i64 d.w, .int .u64 d.n, .int .i64 d.k0, .int .i64 d.k1, .int .i64 d.k2]) rfl (by kernel_rfl) (by kernel_rfl) (by kernel_rfl) (fun _ _ _ h => h) (Or.inl ⟨rfl, fun w hw => take_ld rfl rfl (ld49 w _ _ d (HC.out w hw.1))⟩) HSC ?_; simp only [Act.put, qz1, qz2, qz3, qz4, qz5, qz6])
      refine wpAnyH_all (rs := [8]) (by kernel_rfl) (by simp) (fun i hi => ?_)
      obtain rfl : i = 8 := by simpa using hi
      refine wpOp_one rfl ?_
      have HC1 := Lib.hid (HONE.out u0 HSC.1 (own_sln hO))
      (repeat (first | (with_reducible first | refine xA ?_ | refine xB ?_ | refine xC ?_ | refine xD ?_ | refine xH ?_ | refine xI rfl ?_ | refine xE ?_ | refine xF ?_ | refine xG ?_) | go_skip | go_guarded | (go_at_call 56; (with_reducible refine HC1.out.mono ?_); rintro _ u1 ⟨rfl, hb1⟩) | go_values | go_skip | go_guarded | go_step | go_upon | go_back | ((with_reducible show Oper.upon _ _ _ _ _ _); go_simp) | (dsimp only)))
      have hne0 : ∀ g, (Value.slice av k cv).ownBlock = some g → w.heap.size + 1 ≤ g ∧ g < u0.heap.size := hO.lt
      have hO1 := owns_kept hO (Kept.ofBelow (X := fun _ => True) hb1) (fun _ _ => trivial)
      have hsz0 := lt_of_block HSC.2
      have HS1 := And.intro (HSC.1.trans (hb1.mono HSC.1.size)) ((hb1.block _ hsz0).trans HSC.2)
      refine ⟨HS1, ?_⟩
      clear hO HC1
      refine wpAnyH_all (rs := [9]) (by kernel_rfl) (by simp) (fun i hi => ?_)
      obtain rfl : i = 9 := by simpa using hi
      refine wpOp_one rfl ?_
      (repeat (first | (with_reducible first | refine xA ?_ | refine xB ?_ | refine xC ?_ | refine xD ?_ | refine xH ?_ | refine xI rfl ?_ | refine xE ?_ | refine xF ?_ | refine xG ?_) | go_values | go_skip | go_guarded | go_step | go_upon | go_back | ((with_reducible show Oper.upon _ _ _ _ _ _); go_simp) | (dsimp only)))
      have hbA := Below.alloc HS1.1 HS1.1.size (.cells #[.int .u64 (r : Int)] 24)
      have HSA := And.intro hbA ((heap_alloc_old u1 (.cells #[.int .u64 (r : Int)] 24) (lt_of_block HS1.2)).trans HS1.2)
      refine ⟨HSA, ?_⟩
      refine wpAnyH_all (rs := [10]) (by kernel_rfl) (by simp) (fun i hi => ?_)
      obtain rfl : i = 10 := by simpa using hi
      refine wpOp_one rfl ?_
      have hOA := hO1.alloc (.cells #[.int .u64 (r : Int)] 24)
      have hcA := cell_new u1 (.int .u64 (r : Int)) 24
      have hszA : w.heap.size + 1 ≤ (u1.alloc (.cells #[.int .u64 (r : Int)] 24)).heap.size := lt_of_block HSA.2
      (repeat (first | (with_reducible first | refine xA ?_ | refine xB ?_ | refine xC ?_ | refine xD ?_ | refine xH ?_ | refine xI rfl ?_ | refine xE ?_ | refine xF ?_ | refine xG ?_) | go_skip | go_guarded | ((with_reducible refine wl_id ?_); refine wl_pushU rfl _ _ rfl (w.heap.size + 1) (.slice av k cv) k (vK I R ls k) rfl hOA u1.heap.size r rfl hcA (by omega) hszA ?_; intro v9 w9 hO9 hg9 hl9; (try simp only [Act.put, qz4, qz5, qz6])) | go_values | go_skip | go_guarded | go_step | go_upon | go_back | ((with_reducible show Oper.upon _ _ _ _ _ _); go_simp) | (dsimp only)))
      have hne9 : ∀ q, (Value.slice av k cv).ownBlock = some q → w.heap.size + 1 ≤ q := fun q e => (hOA.lt q e).1
      have HS9 := And.intro (below_grown HSA.1 hg9 (fun q e => by have := hne9 q e; omega)) (keep_at hg9 HSA.2 (fun e => by have := hne9 _ e.symm; omega))
      obtain ⟨a9, c9, rfl⟩ := ownsRow_shape hO9
      refine ⟨HS9, ?_⟩
      have HSC := HS9
      (refine wpAnyH_take (i := 11) (v := .slice a9 (k + 1) c9) rfl (by kernel_rfl) (by kernel_rfl) (by kernel_rfl) (fun _ _ _ h => h) (Or.inl ⟨rfl, fun w _ => by go_simp⟩) HSC ?_; simp only [Act.put, qz1, qz2, qz3, qz4, qz5, qz6])
      refine wpAnyH_done (by kernel_rfl) ?_ _
      have HO9 := Lib.hid hO9
      clear HSC hO9 hg9 hl9 hOA hcA hszA HSA hbA HS1 hO1 hb1 hne0 hne9 hsz0
      (repeat (first | (with_reducible first | refine xA ?_ | refine xB ?_ | refine xC ?_ | refine xD ?_ | refine xH ?_ | refine xI rfl ?_ | refine xE ?_ | refine xF ?_ | refine xG ?_) | go_values | go_skip | go_guarded | go_step | go_upon | go_back | ((with_reducible show Oper.upon _ _ _ _ _ _); go_simp) | (dsimp only)))
      exact ⟨⟨k + 1, by omega, by go_num, Lib.hid (by rw [HV.out]; exact HO9.out), HS9⟩, by simp [intOf]; omega⟩
    · obtain rfl : k = ls.length := by omega
      obtain ⟨av, cv, rfl⟩ := ownsRow_shape HO.out
      (repeat (first | (with_reducible first | refine xA ?_ | refine xB ?_ | refine xC ?_ | refine xD ?_ | refine xH ?_ | refine xI rfl ?_ | refine xE ?_ | refine xF ?_ | refine xG ?_) | go_values | go_skip | go_guarded | go_step | go_upon | go_back | ((with_reducible show Oper.upon _ _ _ _ _ _); go_simp) | (dsimp only)))
      go_ret
      exact ⟨⟨_, rfl, HO.out⟩, hS.1⟩
end Go.Proofs.YtmaogkgjiplckaaGreat
namespace Go.Proofs.YtmaogkgjiplckaaGreat
open Go.RowKit
theorem say_get : ∀ (l : List Int) (x k : Nat) (v : Int), l[k]? = some v → (sayL l x)[k]? = some (if x / 2 ^ k % 2 = 1 then v else -v) := by
  intro l
  induction l with
  | nil => intro x k v h; simp at h
  | cons a l ih =>
    intro x k v h
    rcases k with _ | k
    · simp only [List.getElem?_cons_zero, Option.some.injEq] at h
      subst h
      rw [sayL, List.getElem?_cons_zero]; simp
    · rw [List.getElem?_cons_succ] at h
      rw [sayL, List.getElem?_cons_succ, ih _ _ _ h, Nat.pow_succ, Nat.mul_comm, Nat.div_div_eq_div_mul]
theorem say_take {l : List Int} {x k : Nat} {v : Int} (h : l[k]? = some v) : (sayL l x).take (k + 1) = (sayL l x).take k ++ [if x / 2 ^ k % 2 = 1 then v else -v] := by
  rw [List.take_add_one, say_get l x k v h]; rfl
set_option maxRecDepth 100000 in
set_option maxHeartbeats 2000000 in
theorem say_law {Z : Nat → Prop} (v : Value) (l : List Int) (x : Nat) (w : World) (h : SlX Z w v l) (hll : l.length ≤ 100000) (hx : x < 18446744073709551616) (hv : ∀ a ∈ l, -1048576 ≤ a ∧ a ≤ 1048576) :
    Calls Tryz.prog 14 #[v, .int .u64 x] w fun e w' => ∃ v', e = .returned v' ∧ w'.ownsRow w.heap.size 3 1 v' l.length ((sayL l x).map (Value.int .i64)) ∧ Below w.heap.size w w' := by
  obtain ⟨ao, cap, rfl, -, -, hrow⟩ := h
  have HROW := Lib.hid hrow
  have Hv := Lib.hid hv
  have hlI : (l.length : Int) ≤ 100000 := by omega
  have Hx := Lib.hid hx
  clear hrow hv hx hll
  go_enter Tryz.func14, Tryz.ntmps14
  (repeat (first | (with_reducible first | refine xA ?_ | refine xB ?_ | refine xC ?_ | refine xD ?_ | refine xH ?_ | refine xI rfl ?_ | refine xE ?_ | refine xF ?_ | refine xG ?_) | go_values | go_skip | go_guarded | go_step | go_upon | go_back | ((with_reducible show Oper.upon _ _ _ _ _ _); go_simp) | (dsimp only)))
  go_loopw [1, 5, 6] (fun xv vr i wr => ∃ k : Nat, k ≤ l.length ∧ xv = .int .u64 ((x / 2 ^ k : Nat) : Int) ∧ i = .int .i64 k ∧ Hid (wr.ownsRow w.heap.size 3 1 vr k (((sayL l x).take k).map (Value.int .i64))) ∧ Below w.heap.size w wr) (fun _ _ i _ => l.length - (intOf i).toNat)
  case atStart => exact ⟨0, Nat.zero_le _, by simp, rfl, Lib.hid (by simpa using World.ownsRow_nil w _ _ _), Below.refl _ _⟩
  case round =>
    obtain ⟨k, hk, rfl, rfl, HO, HB⟩ := hrel
    rcases Nat.lt_or_ge k l.length with hlt | hge
    · obtain ⟨a, ha⟩ : ∃ a, l[k]? = some a := ⟨_, List.getElem?_eq_getElem hlt⟩
      obtain ⟨b, o, rfl, -, hbl, HR⟩ := HROW.out (by intro e; rw [e] at hlt; simp at hlt)
      have hab := Hv.out a (List.mem_of_getElem? ha)
      have hca := cell_keep HB (HR k a ha)
      have hst := say_take (x := x) ha
      have hdiv : x / 2 ^ k / 2 = x / 2 ^ (k + 1) := by rw [Nat.pow_succ, Nat.div_div_eq_div_mul]
      obtain ⟨X, hX⟩ : ∃ X, x / 2 ^ k = X := ⟨_, rfl⟩
      have hXb : X < 18446744073709551616 := by rw [← hX]; exact Nat.lt_of_le_of_lt (Nat.div_le_self _ _) Hx.out
      rw [hX] at hst hdiv ⊢
      obtain ⟨av, cv, rfl⟩ := ownsRow_shape HO.out
      have hab1 := hab.1
      have hab2 := hab.2
      clear hab
      have hXI : (X : Int) < 18446744073709551616 := by omega
      have hX0 : (0 : Int) ≤ (X : Int) := by omega
      have HDV := Lib.hid hdiv
      clear HR ha hX hdiv hXb
      by_cases h1 : X % 2 = 1
      · rw [if_pos h1] at hst
        have HST := Lib.hid hst
        have f1 : (((X : Int) % 2) == 1) = true := by simp; omega
        clear hst h1
        (repeat (first | (with_reducible first | refine xA ?_ | refine xB ?_ | refine xC ?_ | refine xD ?_ | refine xH ?_ | refine xI rfl ?_ | refine xE ?_ | refine xF ?_ | refine xG ?_) | go_skip | go_guarded | ((with_reducible refine wl_id ?_); refine wl_push rfl _ _ rfl w.heap.size (.slice av k cv) k ((sayL l x).take k) rfl (HO.out.alloc _) wr.heap.size a rfl (cell_new wr _ _) (by omega) (Nat.le_trans HB.size (by simp)) ?_; intro v9 w9 hO9 hg9 hl9; have HO9 := Lib.hid hO9; have HB9 := Lib.hid (below_grown (Below.alloc HB HB.size _) hg9 (fun q e => (HO.out.lt q e).1)); clear hO9 hg9 hl9; (try simp only [Act.put, qz4, qz5, qz6])) | go_values | go_skip | go_guarded | go_step | go_upon | go_back | ((with_reducible show Oper.upon _ _ _ _ _ _); go_simp) | (dsimp only)))
        refine ⟨⟨k + 1, by omega, by rw [← HDV.out]; go_num, by go_num, Lib.hid (by rw [HST.out]; exact HO9.out), HB9.out⟩, by simp [intOf]; omega⟩
      · rw [if_neg h1] at hst
        have HST := Lib.hid hst
        have f1 : (((X : Int) % 2) == 1) = false := by simp; omega
        clear hst h1
        (repeat (first | (with_reducible first | refine xA ?_ | refine xB ?_ | refine xC ?_ | refine xD ?_ | refine xH ?_ | refine xI rfl ?_ | refine xE ?_ | refine xF ?_ | refine xG ?_) | go_skip | go_guarded | ((with_reducible refine wl_id ?_); refine wl_push rfl _ _ rfl w.heap.size (.slice av k cv) k ((sayL l x).take k) rfl (HO.out.alloc _) wr.heap.size (-a) rfl (cell_new wr _ _) (by omega) (Nat.le_trans HB.size (by simp)) ?_; intro v9 w9 hO9 hg9 hl9; have HO9 := Lib.hid hO9; have HB9 := Lib.hid (below_grown (Below.alloc HB HB.size _) hg9 (fun q e => (HO.out.lt q e).1)); clear hO9 hg9 hl9; (try simp only [Act.put, qz4, qz5, qz6])) | go_values | go_skip | go_guarded | go_step | go_upon | go_back | ((with_reducible show Oper.upon _ _ _ _ _ _); go_simp) | (dsimp only)))
        refine ⟨⟨k + 1, by omega, by rw [← HDV.out]; go_num, by go_num, Lib.hid (by rw [HST.out]; exact HO9.out), HB9.out⟩, by simp [intOf]; omega⟩
    · obtain rfl : k = l.length := by omega
      have h9 := HO.out
      rw [List.take_of_length_le (by rw [sayL_len]; exact Nat.le_refl _)] at h9
      have H9 := Lib.hid h9
      clear h9
      (repeat (first | (with_reducible first | refine xA ?_ | refine xB ?_ | refine xC ?_ | refine xD ?_ | refine xH ?_ | refine xI rfl ?_ | refine xE ?_ | refine xF ?_ | refine xG ?_) | go_values | go_skip | go_guarded | go_step | go_upon | go_back | ((with_reducible show Oper.upon _ _ _ _ _ _); go_simp) | (dsimp only)))
      go_ret
      exact ⟨_, rfl, H9.out, HB⟩
end Go.Proofs.YtmaogkgjiplckaaGreat
namespace Go.Proofs.YtmaogkgjiplckaaGreat
open Go.RowKit
set_option maxHeartbeats 400000 in
theorem rkids_any (op : Int) (w : World) (h0 : 0 ≤ op) (h1 : op ≤ 24) :
    Calls Tryz.prog 41 #[.int .i64 op] w fun e w' => e = .returned (.int .i64 (kidsI op)) ∧ w = w' := by
  go_enter Tryz.func41, Tryz.ntmps41
  (repeat' (first | (with_reducible first | refine xA ?_ | refine xB ?_ | refine xC ?_ | refine xD ?_ | refine xH ?_ | refine xI rfl ?_ | refine xE ?_ | refine xF ?_ | refine xG ?_) | go_values | go_skip | go_guarded | go_step | go_upon | go_back | ((with_reducible show Oper.upon _ _ _ _ _ _); go_simp) | (dsimp only)))
  all_goals
    go_ret
    exact ⟨ret_int (by unfold kidsI; first | (simp_all; done) | (simp_all; omega)), rfl⟩
set_option maxHeartbeats 400000 in
theorem most_any (op wd n k0 k1 k2 : Int) (w : World) :
    Calls Tryz.prog 67 #[.agg #[.int .i64 op, .int .i64 wd, .int .u64 n, .int .i64 k0, .int .i64 k1, .int .i64 k2]] w fun e w' => e = .returned (.int .u64 (mostI op wd)) ∧ Below w.heap.size w w' := by
  go_enter Tryz.func67, Tryz.ntmps67
  (repeat' (first | (with_reducible first | refine xA ?_ | refine xB ?_ | refine xC ?_ | refine xD ?_ | refine xH ?_ | refine xI rfl ?_ | refine xE ?_ | refine xF ?_ | refine xG ?_) | go_values | go_skip | go_guarded | go_step | go_upon | go_back | ((with_reducible show Oper.upon _ _ _ _ _ _); go_simp) | (dsimp only)))
  all_goals
    go_ret
    exact ⟨ret_int (by unfold mostI; simp_all), by (repeat (first | with_reducible exact Below.refl _ _ | assumption | with_reducible refine below_drewN ?_ _ | with_reducible refine Below.drew ?_ | with_reducible refine Below.setRow ?_ ?_ _ | with_reducible refine Below.alloc ?_ ?_ _ | with_reducible refine Below.setCell ?_ ?_ _ | with_reducible exact Nat.le_refl _ | (focus (simp; done)) | (focus (simp; omega)) | omega))⟩
set_option maxHeartbeats 1000000 in
theorem width_any (op wd n k0 k1 k2 a b c : Int) (w : World) :
    Calls Tryz.prog 66 #[.agg #[.int .i64 op, .int .i64 wd, .int .u64 n, .int .i64 k0, .int .i64 k1, .int .i64 k2], .int .i64 a, .int .i64 b, .int .i64 c] w fun e w' => e = .returned (.int .i64 (widI op wd a b c)) ∧ Below w.heap.size w w' := by
  by_cases h3 : op = 3
  · subst h3
    go_enter Tryz.func66, Tryz.ntmps66
    (repeat' (first | (with_reducible first | refine xA ?_ | refine xB ?_ | refine xC ?_ | refine xD ?_ | refine xH ?_ | refine xI rfl ?_ | refine xE ?_ | refine xF ?_ | refine xG ?_) | go_values | go_skip | go_guarded | go_step | go_upon | go_back | ((with_reducible show Oper.upon _ _ _ _ _ _); go_simp) | (dsimp only)))
    all_goals
      go_ret
      exact ⟨ret_int (by unfold widI; simp_all), by (repeat (first | with_reducible exact Below.refl _ _ | assumption | with_reducible refine below_drewN ?_ _ | with_reducible refine Below.drew ?_ | with_reducible refine Below.setRow ?_ ?_ _ | with_reducible refine Below.alloc ?_ ?_ _ | with_reducible refine Below.setCell ?_ ?_ _ | with_reducible exact Nat.le_refl _ | (focus (simp; done)) | (focus (simp; omega)) | omega))⟩
  by_cases h4 : op = 4
  · subst h4
    go_enter Tryz.func66, Tryz.ntmps66
    (repeat' (first | (with_reducible first | refine xA ?_ | refine xB ?_ | refine xC ?_ | refine xD ?_ | refine xH ?_ | refine xI rfl ?_ | refine xE ?_ | refine xF ?_ | refine xG ?_) | go_values | go_skip | go_guarded | go_step | go_upon | go_back | ((with_reducible show Oper.upon _ _ _ _ _ _); go_simp) | (dsimp only)))
    all_goals
      go_ret
      exact ⟨ret_int (by unfold widI; simp_all), by (repeat (first | with_reducible exact Below.refl _ _ | assumption | with_reducible refine below_drewN ?_ _ | with_reducible refine Below.drew ?_ | with_reducible refine Below.setRow ?_ ?_ _ | with_reducible refine Below.alloc ?_ ?_ _ | with_reducible refine Below.setCell ?_ ?_ _ | with_reducible exact Nat.le_refl _ | (focus (simp; done)) | (focus (simp; omega)) | omega))⟩
  by_cases h19 : op = 19
  · subst h19
    go_enter Tryz.func66, Tryz.ntmps66
    (repeat' (first | (with_reducible first | refine xA ?_ | refine xB ?_ | refine xC ?_ | refine xD ?_ | refine xH ?_ | refine xI rfl ?_ | refine xE ?_ | refine xF ?_ | refine xG ?_) | go_values | go_skip | go_guarded | go_step | go_upon | go_back | ((with_reducible show Oper.upon _ _ _ _ _ _); go_simp) | (dsimp only)))
    all_goals
      go_ret
      exact ⟨ret_int (by unfold widI; simp_all), by (repeat (first | with_reducible exact Below.refl _ _ | assumption | with_reducible refine below_drewN ?_ _ | with_reducible refine Below.drew ?_ | with_reducible refine Below.setRow ?_ ?_ _ | with_reducible refine Below.alloc ?_ ?_ _ | with_reducible refine Below.setCell ?_ ?_ _ | with_reducible exact Nat.le_refl _ | (focus (simp; done)) | (focus (simp; omega)) | omega))⟩
  by_cases h20 : op = 20
  · subst h20
    go_enter Tryz.func66, Tryz.ntmps66
    (repeat' (first | (with_reducible first | refine xA ?_ | refine xB ?_ | refine xC ?_ | refine xD ?_ | refine xH ?_ | refine xI rfl ?_ | refine xE ?_ | refine xF ?_ | refine xG ?_) | go_values | go_skip | go_guarded | go_step | go_upon | go_back | ((with_reducible show Oper.upon _ _ _ _ _ _); go_simp) | (dsimp only)))
    all_goals
      go_ret
      exact ⟨ret_int (by unfold widI; simp_all), by (repeat (first | with_reducible exact Below.refl _ _ | assumption | with_reducible refine below_drewN ?_ _ | with_reducible refine Below.drew ?_ | with_reducible refine Below.setRow ?_ ?_ _ | with_reducible refine Below.alloc ?_ ?_ _ | with_reducible refine Below.setCell ?_ ?_ _ | with_reducible exact Nat.le_refl _ | (focus (simp; done)) | (focus (simp; omega)) | omega))⟩
  by_cases h21 : op = 21
  · subst h21
    go_enter Tryz.func66, Tryz.ntmps66
    (repeat' (first | (with_reducible first | refine xA ?_ | refine xB ?_ | refine xC ?_ | refine xD ?_ | refine xH ?_ | refine xI rfl ?_ | refine xE ?_ | refine xF ?_ | refine xG ?_) | go_values | go_skip | go_guarded | go_step | go_upon | go_back | ((with_reducible show Oper.upon _ _ _ _ _ _); go_simp) | (dsimp only)))
    all_goals
      go_ret
      exact ⟨ret_int (by unfold widI; simp_all), by (repeat (first | with_reducible exact Below.refl _ _ | assumption | with_reducible refine below_drewN ?_ _ | with_reducible refine Below.drew ?_ | with_reducible refine Below.setRow ?_ ?_ _ | with_reducible refine Below.alloc ?_ ?_ _ | with_reducible refine Below.setCell ?_ ?_ _ | with_reducible exact Nat.le_refl _ | (focus (simp; done)) | (focus (simp; omega)) | omega))⟩
  have f3 : (op == 3) = false := by simpa using h3
  have f4 : (op == 4) = false := by simpa using h4
  have f19 : (op == 19) = false := by simpa using h19
  have f20 : (op == 20) = false := by simpa using h20
  have f21 : (op == 21) = false := by simpa using h21
  go_enter Tryz.func66, Tryz.ntmps66
  (repeat' (first | (with_reducible first | refine xA ?_ | refine xB ?_ | refine xC ?_ | refine xD ?_ | refine xH ?_ | refine xI rfl ?_ | refine xE ?_ | refine xF ?_ | refine xG ?_) | go_values | go_skip | go_guarded | go_step | go_upon | go_back | ((with_reducible show Oper.upon _ _ _ _ _ _); go_simp) | (dsimp only)))
  all_goals
    go_ret
    exact ⟨ret_int (by unfold widI; simp_all), by (repeat (first | with_reducible exact Below.refl _ _ | assumption | with_reducible refine below_drewN ?_ _ | with_reducible refine Below.drew ?_ | with_reducible refine Below.setRow ?_ ?_ _ | with_reducible refine Below.alloc ?_ ?_ _ | with_reducible refine Below.setCell ?_ ?_ _ | with_reducible exact Nat.le_refl _ | (focus (simp; done)) | (focus (simp; omega)) | omega))⟩
end Go.Proofs.YtmaogkgjiplckaaGreat
namespace Go.Proofs.YtmaogkgjiplckaaGreat
open Go.RowKit
theorem wide_iff {op wd a b c : Int} (h0 : 0 ≤ op) (h1 : op ≤ 24) (ha : 0 ≤ a) (hb : 0 ≤ b) : (widI op wd a b c = wd ∧ 0 ≤ wd) ↔ wideB op wd a b c = true := by
  have : op = 0 ∨ op = 1 ∨ op = 2 ∨ op = 3 ∨ op = 4 ∨ op = 5 ∨ op = 6 ∨ op = 7 ∨ op = 19 ∨ op = 20 ∨ op = 21 ∨ op = 22 ∨ op = 23 ∨ op = 24 ∨ (8 ≤ op ∧ op ≤ 18) := by omega
  rcases this with rfl | rfl | rfl | rfl | rfl | rfl | rfl | rfl | rfl | rfl | rfl | rfl | rfl | rfl | ⟨h2, h3⟩
  case inr.inr.inr.inr.inr.inr.inr.inr.inr.inr.inr.inr.inr.inr =>
    have e1 : wideB op wd a b c = (a != 0 && a == b && wd == a) := by
      have hk : ¬ kidsI op = 0 := by
        unfold kidsI
        rw [if_neg (by omega), if_neg (by omega), if_pos (by omega)]; decide
      unfold wideB
      rw [if_neg (by omega), if_neg (by omega), if_neg (by omega), if_neg (by omega), if_neg (by omega), if_neg (by omega), if_neg (by omega), if_neg hk]
    have e2 : widI op wd a b c = if a ≠ 0 ∧ a = b then a else -1 := by
      unfold widI
      rw [if_neg (by omega), if_neg (by omega), if_neg (by omega), if_neg (by omega), if_neg (by omega), if_neg (by omega), if_neg (by omega), if_neg (by omega), if_neg (by omega), if_neg (by omega), if_neg (by omega)]
    rw [e1, e2]
    simp only [Bool.and_eq_true, bne_iff_ne, beq_iff_eq]
    split <;> omega
  all_goals
    simp [widI, wideB, kidsI, leafB]
    try omega
    try (split <;> simp_all <;> omega)
theorem num_iff {op wd n a b c : Int} (hw : wideB op wd a b c = true) (hn : 0 ≤ n) (hn' : n < 18446744073709551616) : numB op wd n = !decide (mostI op wd < n) := by
  rw [Bool.eq_iff_iff]
  by_cases h0 : op = 0
  · have := wide0 (by rw [hw]; rfl) h0
    subst h0
    rcases this with rfl | rfl | rfl <;> simp [numB, mostI] <;> omega
  · simp only [numB, mostI, if_neg h0]
    split
    · simp; omega
    · split
      · simp; omega
      · simp; omega
end Go.Proofs.YtmaogkgjiplckaaGreat
namespace Go.Proofs.YtmaogkgjiplckaaGreat
open Go.RowKit
theorem rkids_anyX (op h : Int) (w : World) (e : kidsI op = h) (h0 : 0 ≤ op ∧ op ≤ 24) :
    Calls Tryz.prog 41 #[.int .i64 op] w fun e w' => e = .returned (.int .i64 h) ∧ w = w' := by
  rw [← e]; exact rkids_any op w h0.1 h0.2
theorem right_err {d : Nd} {ls : List Nd} {a b c : Int} (h0 : 0 ≤ d.op) (h1 : d.op ≤ 24) (hR : kidsR d.op d.k0 d.k1 d.k2 ls = some (a, b, c)) (ha : 0 ≤ a) (hb : 0 ≤ b) (hn : 0 ≤ d.n) (hn' : d.n < 18446744073709551616) :
    rightE d ls = if (widI d.op d.w a b c != d.w) = true ∨ d.w < 0 then 8 else if mostI d.op d.w < d.n then 3 else 0 := by
  have hi := wide_iff (wd := d.w) (c := c) h0 h1 ha hb
  unfold rightE
  rw [if_neg (by omega), hR]
  dsimp only
  by_cases hw : wideB d.op d.w a b c = true
  · have := hi.2 hw
    have h8 : ¬ ((widI d.op d.w a b c != d.w) = true ∨ d.w < 0) := by simp [this.1]; omega
    rw [if_pos hw, if_neg h8, num_iff hw hn hn']
    by_cases e : mostI d.op d.w < d.n <;> simp [e]
  · rw [if_neg hw, if_pos]
    have := mt hi.1 hw
    simp
    omega
set_option maxHeartbeats 2000000 in
theorem rright_0 (op wd n k0 k1 k2 : Int) (b off cap : Nat) (ls : List Nd) (w : World) (hk : kidsI op = 0) (HR : RowAt 6 Nd.cells w b off ls) (hn : 0 ≤ n) (hn' : n < 18446744073709551616) (hw : ∀ d ∈ ls, 0 ≤ d.w) :
    Calls Tryz.prog 51 #[.agg #[.int .i64 op, .int .i64 wd, .int .u64 n, .int .i64 k0, .int .i64 k1, .int .i64 k2], .slice (some ⟨b, off, none⟩) ls.length cap] w fun e w' => e = .returned (.int .i64 (rightE ⟨op, wd, n, k0, k1, k2⟩ ls)) ∧ Below w.heap.size w w' := by
  have hwA := Lib.hid (wAt_nn hw)
  clear hw
  have Hn := Lib.hid (And.intro hn hn')
  clear hn hn'
  go_enter Tryz.func51, Tryz.ntmps51
  (repeat' (first | (with_reducible first | refine xA ?_ | refine xB ?_ | refine xC ?_ | refine xD ?_ | refine xH ?_ | refine xI rfl ?_ | refine xE ?_ | refine xF ?_ | refine xG ?_) | go_skip | go_guarded | ((with_reducible refine wl_id ?_); refine wl_ldW HR (by (repeat (first | with_reducible exact Below.refl _ _ | assumption | with_reducible refine below_drewN ?_ _ | with_reducible refine Below.drew ?_ | with_reducible refine Below.setRow ?_ ?_ _ | with_reducible refine Below.alloc ?_ ?_ _ | with_reducible refine Below.setCell ?_ ?_ _ | with_reducible exact Nat.le_refl _ | (focus (simp; done)) | (focus (simp; omega)) | omega))) _ (by omega) (by omega) rfl _ rfl rfl ?_; simp only [Act.put, qz4, qz5, qz6]) | (go_at_call 41; (with_reducible refine (rkids_anyX _ 0 _ hk (by omega)).mono ?_); rintro e w1 ⟨rfl, rfl⟩) | (with_reducible refine wp_loop_rounds 4 ?_) | rw [rounds_succ] | go_values | go_skip | go_guarded | go_step | go_upon | go_back | ((with_reducible show Oper.upon _ _ _ _ _ _); go_simp) | (dsimp only)))
  all_goals (try (go_ret; exact ⟨ret_int (by simp_all [rightE, kidsR, kidW]), by (repeat (first | with_reducible exact Below.refl _ _ | assumption | with_reducible refine below_drewN ?_ _ | with_reducible refine Below.drew ?_ | with_reducible refine Below.setRow ?_ ?_ _ | with_reducible refine Below.alloc ?_ ?_ _ | with_reducible refine Below.setCell ?_ ?_ _ | with_reducible exact Nat.le_refl _ | (focus (simp; done)) | (focus (simp; omega)) | omega))⟩))
  have hop : 0 ≤ op ∧ op ≤ 24 := by omega
  have hR := Lib.hid (show kidsR op k0 k1 k2 ls = some (0, 0, 0) by simp_all [kidsR, kidW] <;> (repeat rw [if_neg (by omega)]))
  refine wp_abs (fun u => Below w.heap.size w u ∧ RowAt 6 Nd.cells u w.heap.size 0 [⟨op, wd, n, k0, k1, k2⟩] ∧ u.cell? ⟨w.heap.size + 1, 0, none⟩ = some (.int .i64 (0)) ∧ u.cell? ⟨w.heap.size + 1, 1, none⟩ = some (.int .i64 (0)) ∧ u.cell? ⟨w.heap.size + 1, 2, none⟩ = some (.int .i64 (0)))
    ⟨by (repeat (first | with_reducible exact Below.refl _ _ | assumption | with_reducible refine below_drewN ?_ _ | with_reducible refine Below.drew ?_ | with_reducible refine Below.setRow ?_ ?_ _ | with_reducible refine Below.alloc ?_ ?_ _ | with_reducible refine Below.setCell ?_ ?_ _ | with_reducible exact Nat.le_refl _ | (focus (simp; done)) | (focus (simp; omega)) | omega)), (box_row w ⟨op, wd, n, k0, k1, k2⟩ 49).below (by (repeat (first | with_reducible exact Below.refl _ _ | assumption | with_reducible refine below_drewN ?_ _ | with_reducible refine Below.drew ?_ | with_reducible refine Below.setRow ?_ ?_ _ | with_reducible refine Below.alloc ?_ ?_ _ | with_reducible refine Below.setCell ?_ ?_ _ | with_reducible exact Nat.le_refl _ | (focus (simp; done)) | (focus (simp; omega)) | omega))), by simp [go_sem], by simp [go_sem], by simp [go_sem]⟩ ?_
  rintro w9 ⟨HB, HX, c0, c1, c2⟩
  have hva : (0 : Int) ≤ 0 := Int.le_refl 0
  have hvb : (0 : Int) ≤ 0 := Int.le_refl 0
  have Herr := Lib.hid (right_err (d := ⟨op, wd, n, k0, k1, k2⟩) hop.1 hop.2 hR.out hva hvb Hn.out.1 Hn.out.2)
  obtain ⟨cW, cN⟩ := cell_x _ _ _ HX
  dsimp only at cW cN
  by_cases t1 : (widI op wd (0) (0) (0) != wd) = true
  · (refine wp_region_cls (by kernel_rfl) (by kernel_rfl) ?_; (repeat (first | go_big_quiet_skip | (go_big_quiet_want; first | (refine quiet_ldNd HX 0 _ rfl _ rfl rfl ?_; simp only [Act.put, qz4, qz5, qz6]; (try dsimp only); go_big_quiet_on) | (refine quiet_ld3 c0 _ rfl rfl ?_; simp only [Act.put, qz4, qz5, qz6]; go_big_quiet_on) | (refine quiet_ld3 c1 _ rfl rfl ?_; simp only [Act.put, qz4, qz5, qz6]; go_big_quiet_on) | (refine quiet_ld3 c2 _ rfl rfl ?_; simp only [Act.put, qz4, qz5, qz6]; go_big_quiet_on) | (refine quiet_ld3 cW _ rfl rfl ?_; simp only [Act.put, qz4, qz5, qz6]; go_big_quiet_on) | (refine quiet_ld46 cN _ rfl rfl ?_; simp only [Act.put, qz4, qz5, qz6]; go_big_quiet_on) | (go_big_quiet_op; first | go_big_quiet_on | (refine Exists.intro _ (And.intro (fun _ _ => rfl) ?_); go_big_quiet_on) | go_big_quiet_call (((intro hC; replace hC : Below _ _ _ := hC); first | (go_at_call 66; (with_reducible refine (width_any _ _ _ _ _ _ _ _ _ _).mono ?_); (rintro e w2 ⟨rfl, hb⟩; exact ⟨rfl, hC.trans (hb.mono hC.size)⟩)) | (go_at_call 67; (with_reducible refine (most_any _ _ _ _ _ _ _).mono ?_); (rintro e w2 ⟨rfl, hb⟩; exact ⟨rfl, hC.trans (hb.mono hC.size)⟩)))))))); refine wpQuiet_nil ?_; intro w8 hb; replace hb : Below _ _ _ := hb; replace HX := HX.below hb; replace HB := HB.trans (hb.mono HB.size); replace cW := cell_keep hb cW; replace cN := cell_keep hb cN; clear hb c0 c1 c2)
    (repeat (first | (with_reducible first | refine xA ?_ | refine xB ?_ | refine xC ?_ | refine xD ?_ | refine xH ?_ | refine xI rfl ?_ | refine xE ?_ | refine xF ?_ | refine xG ?_) | go_values | go_skip | go_guarded | go_step | go_upon | go_back | ((with_reducible show Oper.upon _ _ _ _ _ _); go_simp) | (dsimp only)))
    go_ret
    exact ⟨ret_int (by rw [Herr.out, if_pos (.inl t1)]), HB⟩
  replace t1 : (widI op wd (0) (0) (0) != wd) = false := by simpa using t1
  by_cases t2 : wd < 0
  · (refine wp_region_cls (by kernel_rfl) (by kernel_rfl) ?_; (repeat (first | go_big_quiet_skip | (go_big_quiet_want; first | (refine quiet_ldNd HX 0 _ rfl _ rfl rfl ?_; simp only [Act.put, qz4, qz5, qz6]; (try dsimp only); go_big_quiet_on) | (refine quiet_ld3 c0 _ rfl rfl ?_; simp only [Act.put, qz4, qz5, qz6]; go_big_quiet_on) | (refine quiet_ld3 c1 _ rfl rfl ?_; simp only [Act.put, qz4, qz5, qz6]; go_big_quiet_on) | (refine quiet_ld3 c2 _ rfl rfl ?_; simp only [Act.put, qz4, qz5, qz6]; go_big_quiet_on) | (refine quiet_ld3 cW _ rfl rfl ?_; simp only [Act.put, qz4, qz5, qz6]; go_big_quiet_on) | (refine quiet_ld46 cN _ rfl rfl ?_; simp only [Act.put, qz4, qz5, qz6]; go_big_quiet_on) | (go_big_quiet_op; first | go_big_quiet_on | (refine Exists.intro _ (And.intro (fun _ _ => rfl) ?_); go_big_quiet_on) | go_big_quiet_call (((intro hC; replace hC : Below _ _ _ := hC); first | (go_at_call 66; (with_reducible refine (width_any _ _ _ _ _ _ _ _ _ _).mono ?_); (rintro e w2 ⟨rfl, hb⟩; exact ⟨rfl, hC.trans (hb.mono hC.size)⟩)) | (go_at_call 67; (with_reducible refine (most_any _ _ _ _ _ _ _).mono ?_); (rintro e w2 ⟨rfl, hb⟩; exact ⟨rfl, hC.trans (hb.mono hC.size)⟩)))))))); refine wpQuiet_nil ?_; intro w8 hb; replace hb : Below _ _ _ := hb; replace HX := HX.below hb; replace HB := HB.trans (hb.mono HB.size); replace cW := cell_keep hb cW; replace cN := cell_keep hb cN; clear hb c0 c1 c2)
    (repeat (first | (with_reducible first | refine xA ?_ | refine xB ?_ | refine xC ?_ | refine xD ?_ | refine xH ?_ | refine xI rfl ?_ | refine xE ?_ | refine xF ?_ | refine xG ?_) | go_values | go_skip | go_guarded | go_step | go_upon | go_back | ((with_reducible show Oper.upon _ _ _ _ _ _); go_simp) | (dsimp only)))
    go_ret
    exact ⟨ret_int (by rw [Herr.out, if_pos (.inr t2)]), HB⟩
  by_cases t3 : mostI op wd < n
  · (refine wp_region_cls (by kernel_rfl) (by kernel_rfl) ?_; (repeat (first | go_big_quiet_skip | (go_big_quiet_want; first | (refine quiet_ldNd HX 0 _ rfl _ rfl rfl ?_; simp only [Act.put, qz4, qz5, qz6]; (try dsimp only); go_big_quiet_on) | (refine quiet_ld3 c0 _ rfl rfl ?_; simp only [Act.put, qz4, qz5, qz6]; go_big_quiet_on) | (refine quiet_ld3 c1 _ rfl rfl ?_; simp only [Act.put, qz4, qz5, qz6]; go_big_quiet_on) | (refine quiet_ld3 c2 _ rfl rfl ?_; simp only [Act.put, qz4, qz5, qz6]; go_big_quiet_on) | (refine quiet_ld3 cW _ rfl rfl ?_; simp only [Act.put, qz4, qz5, qz6]; go_big_quiet_on) | (refine quiet_ld46 cN _ rfl rfl ?_; simp only [Act.put, qz4, qz5, qz6]; go_big_quiet_on) | (go_big_quiet_op; first | go_big_quiet_on | (refine Exists.intro _ (And.intro (fun _ _ => rfl) ?_); go_big_quiet_on) | go_big_quiet_call (((intro hC; replace hC : Below _ _ _ := hC); first | (go_at_call 66; (with_reducible refine (width_any _ _ _ _ _ _ _ _ _ _).mono ?_); (rintro e w2 ⟨rfl, hb⟩; exact ⟨rfl, hC.trans (hb.mono hC.size)⟩)) | (go_at_call 67; (with_reducible refine (most_any _ _ _ _ _ _ _).mono ?_); (rintro e w2 ⟨rfl, hb⟩; exact ⟨rfl, hC.trans (hb.mono hC.size)⟩)))))))); refine wpQuiet_nil ?_; intro w8 hb; replace hb : Below _ _ _ := hb; replace HX := HX.below hb; replace HB := HB.trans (hb.mono HB.size); replace cW := cell_keep hb cW; replace cN := cell_keep hb cN; clear hb c0 c1 c2)
    (repeat (first | (with_reducible first | refine xA ?_ | refine xB ?_ | refine xC ?_ | refine xD ?_ | refine xH ?_ | refine xI rfl ?_ | refine xE ?_ | refine xF ?_ | refine xG ?_) | go_values | go_skip | go_guarded | go_step | go_upon | go_back | ((with_reducible show Oper.upon _ _ _ _ _ _); go_simp) | (dsimp only)))
    (refine wp_region_cls (by kernel_rfl) (by kernel_rfl) ?_; (repeat (first | go_big_quiet_skip | (go_big_quiet_want; first | (refine quiet_ldNd HX 0 _ rfl _ rfl rfl ?_; simp only [Act.put, qz4, qz5, qz6]; (try dsimp only); go_big_quiet_on) | (refine quiet_ld3 c0 _ rfl rfl ?_; simp only [Act.put, qz4, qz5, qz6]; go_big_quiet_on) | (refine quiet_ld3 c1 _ rfl rfl ?_; simp only [Act.put, qz4, qz5, qz6]; go_big_quiet_on) | (refine quiet_ld3 c2 _ rfl rfl ?_; simp only [Act.put, qz4, qz5, qz6]; go_big_quiet_on) | (refine quiet_ld3 cW _ rfl rfl ?_; simp only [Act.put, qz4, qz5, qz6]; go_big_quiet_on) | (refine quiet_ld46 cN _ rfl rfl ?_; simp only [Act.put, qz4, qz5, qz6]; go_big_quiet_on) | (go_big_quiet_op; first | go_big_quiet_on | (refine Exists.intro _ (And.intro (fun _ _ => rfl) ?_); go_big_quiet_on) | go_big_quiet_call (((intro hC; replace hC : Below _ _ _ := hC); first | (go_at_call 66; (with_reducible refine (width_any _ _ _ _ _ _ _ _ _ _).mono ?_); (rintro e w2 ⟨rfl, hb⟩; exact ⟨rfl, hC.trans (hb.mono hC.size)⟩)) | (go_at_call 67; (with_reducible refine (most_any _ _ _ _ _ _ _).mono ?_); (rintro e w2 ⟨rfl, hb⟩; exact ⟨rfl, hC.trans (hb.mono hC.size)⟩)))))))); refine wpQuiet_nil ?_; intro w7 hb; replace hb : Below _ _ _ := hb; replace HB := HB.trans (hb.mono HB.size); clear hb)
    (repeat (first | (with_reducible first | refine xA ?_ | refine xB ?_ | refine xC ?_ | refine xD ?_ | refine xH ?_ | refine xI rfl ?_ | refine xE ?_ | refine xF ?_ | refine xG ?_) | go_values | go_skip | go_guarded | go_step | go_upon | go_back | ((with_reducible show Oper.upon _ _ _ _ _ _); go_simp) | (dsimp only)))
    go_ret
    exact ⟨ret_int (by rw [Herr.out, if_neg (by simp [t1, t2]), if_pos t3]), HB⟩
  · (refine wp_region_cls (by kernel_rfl) (by kernel_rfl) ?_; (repeat (first | go_big_quiet_skip | (go_big_quiet_want; first | (refine quiet_ldNd HX 0 _ rfl _ rfl rfl ?_; simp only [Act.put, qz4, qz5, qz6]; (try dsimp only); go_big_quiet_on) | (refine quiet_ld3 c0 _ rfl rfl ?_; simp only [Act.put, qz4, qz5, qz6]; go_big_quiet_on) | (refine quiet_ld3 c1 _ rfl rfl ?_; simp only [Act.put, qz4, qz5, qz6]; go_big_quiet_on) | (refine quiet_ld3 c2 _ rfl rfl ?_; simp only [Act.put, qz4, qz5, qz6]; go_big_quiet_on) | (refine quiet_ld3 cW _ rfl rfl ?_; simp only [Act.put, qz4, qz5, qz6]; go_big_quiet_on) | (refine quiet_ld46 cN _ rfl rfl ?_; simp only [Act.put, qz4, qz5, qz6]; go_big_quiet_on) | (go_big_quiet_op; first | go_big_quiet_on | (refine Exists.intro _ (And.intro (fun _ _ => rfl) ?_); go_big_quiet_on) | go_big_quiet_call (((intro hC; replace hC : Below _ _ _ := hC); first | (go_at_call 66; (with_reducible refine (width_any _ _ _ _ _ _ _ _ _ _).mono ?_); (rintro e w2 ⟨rfl, hb⟩; exact ⟨rfl, hC.trans (hb.mono hC.size)⟩)) | (go_at_call 67; (with_reducible refine (most_any _ _ _ _ _ _ _).mono ?_); (rintro e w2 ⟨rfl, hb⟩; exact ⟨rfl, hC.trans (hb.mono hC.size)⟩)))))))); refine wpQuiet_nil ?_; intro w8 hb; replace hb : Below _ _ _ := hb; replace HX := HX.below hb; replace HB := HB.trans (hb.mono HB.size); replace cW := cell_keep hb cW; replace cN := cell_keep hb cN; clear hb c0 c1 c2)
    (repeat (first | (with_reducible first | refine xA ?_ | refine xB ?_ | refine xC ?_ | refine xD ?_ | refine xH ?_ | refine xI rfl ?_ | refine xE ?_ | refine xF ?_ | refine xG ?_) | go_values | go_skip | go_guarded | go_step | go_upon | go_back | ((with_reducible show Oper.upon _ _ _ _ _ _); go_simp) | (dsimp only)))
    (refine wp_region_cls (by kernel_rfl) (by kernel_rfl) ?_; (repeat (first | go_big_quiet_skip | (go_big_quiet_want; first | (refine quiet_ldNd HX 0 _ rfl _ rfl rfl ?_; simp only [Act.put, qz4, qz5, qz6]; (try dsimp only); go_big_quiet_on) | (refine quiet_ld3 c0 _ rfl rfl ?_; simp only [Act.put, qz4, qz5, qz6]; go_big_quiet_on) | (refine quiet_ld3 c1 _ rfl rfl ?_; simp only [Act.put, qz4, qz5, qz6]; go_big_quiet_on) | (refine quiet_ld3 c2 _ rfl rfl ?_; simp only [Act.put, qz4, qz5, qz6]; go_big_quiet_on) | (refine quiet_ld3 cW _ rfl rfl ?_; simp only [Act.put, qz4, qz5, qz6]; go_big_quiet_on) | (refine quiet_ld46 cN _ rfl rfl ?_; simp only [Act.put, qz4, qz5, qz6]; go_big_quiet_on) | (go_big_quiet_op; first | go_big_quiet_on | (refine Exists.intro _ (And.intro (fun _ _ => rfl) ?_); go_big_quiet_on) | go_big_quiet_call (((intro hC; replace hC : Below _ _ _ := hC); first | (go_at_call 66; (with_reducible refine (width_any _ _ _ _ _ _ _ _ _ _).mono ?_); (rintro e w2 ⟨rfl, hb⟩; exact ⟨rfl, hC.trans (hb.mono hC.size)⟩)) | (go_at_call 67; (with_reducible refine (most_any _ _ _ _ _ _ _).mono ?_); (rintro e w2 ⟨rfl, hb⟩; exact ⟨rfl, hC.trans (hb.mono hC.size)⟩)))))))); refine wpQuiet_nil ?_; intro w7 hb; replace hb : Below _ _ _ := hb; replace HB := HB.trans (hb.mono HB.size); clear hb)
    (repeat (first | (with_reducible first | refine xA ?_ | refine xB ?_ | refine xC ?_ | refine xD ?_ | refine xH ?_ | refine xI rfl ?_ | refine xE ?_ | refine xF ?_ | refine xG ?_) | go_values | go_skip | go_guarded | go_step | go_upon | go_back | ((with_reducible show Oper.upon _ _ _ _ _ _); go_simp) | (dsimp only)))
    go_ret
    exact ⟨ret_int (by rw [Herr.out, if_neg (by simp [t1, t2]), if_neg t3]), HB⟩
set_option maxHeartbeats 2000000 in
theorem rright_1 (op wd n k0 k1 k2 : Int) (b off cap : Nat) (ls : List Nd) (w : World) (hk : kidsI op = 1) (HR : RowAt 6 Nd.cells w b off ls) (hn : 0 ≤ n) (hn' : n < 18446744073709551616) (hw : ∀ d ∈ ls, 0 ≤ d.w) :
    Calls Tryz.prog 51 #[.agg #[.int .i64 op, .int .i64 wd, .int .u64 n, .int .i64 k0, .int .i64 k1, .int .i64 k2], .slice (some ⟨b, off, none⟩) ls.length cap] w fun e w' => e = .returned (.int .i64 (rightE ⟨op, wd, n, k0, k1, k2⟩ ls)) ∧ Below w.heap.size w w' := by
  have hwA := Lib.hid (wAt_nn hw)
  clear hw
  have Hn := Lib.hid (And.intro hn hn')
  clear hn hn'
  go_enter Tryz.func51, Tryz.ntmps51
  (repeat' (first | (with_reducible first | refine xA ?_ | refine xB ?_ | refine xC ?_ | refine xD ?_ | refine xH ?_ | refine xI rfl ?_ | refine xE ?_ | refine xF ?_ | refine xG ?_) | go_skip | go_guarded | ((with_reducible refine wl_id ?_); refine wl_ldW HR (by (repeat (first | with_reducible exact Below.refl _ _ | assumption | with_reducible refine below_drewN ?_ _ | with_reducible refine Below.drew ?_ | with_reducible refine Below.setRow ?_ ?_ _ | with_reducible refine Below.alloc ?_ ?_ _ | with_reducible refine Below.setCell ?_ ?_ _ | with_reducible exact Nat.le_refl _ | (focus (simp; done)) | (focus (simp; omega)) | omega))) _ (by omega) (by omega) rfl _ rfl rfl ?_; simp only [Act.put, qz4, qz5, qz6]) | (go_at_call 41; (with_reducible refine (rkids_anyX _ 1 _ hk (by omega)).mono ?_); rintro e w1 ⟨rfl, rfl⟩) | (with_reducible refine wp_loop_rounds 4 ?_) | rw [rounds_succ] | go_values | go_skip | go_guarded | go_step | go_upon | go_back | ((with_reducible show Oper.upon _ _ _ _ _ _); go_simp) | (dsimp only)))
  all_goals (try (go_ret; exact ⟨ret_int (by simp_all [rightE, kidsR, kidW]), by (repeat (first | with_reducible exact Below.refl _ _ | assumption | with_reducible refine below_drewN ?_ _ | with_reducible refine Below.drew ?_ | with_reducible refine Below.setRow ?_ ?_ _ | with_reducible refine Below.alloc ?_ ?_ _ | with_reducible refine Below.setCell ?_ ?_ _ | with_reducible exact Nat.le_refl _ | (focus (simp; done)) | (focus (simp; omega)) | omega))⟩))
  have hop : 0 ≤ op ∧ op ≤ 24 := by omega
  have hR := Lib.hid (show kidsR op k0 k1 k2 ls = some (wAt ls k0, 0, 0) by simp_all [kidsR, kidW] <;> (repeat rw [if_neg (by omega)]))
  refine wp_abs (fun u => Below w.heap.size w u ∧ RowAt 6 Nd.cells u w.heap.size 0 [⟨op, wd, n, k0, k1, k2⟩] ∧ u.cell? ⟨w.heap.size + 1, 0, none⟩ = some (.int .i64 (wAt ls k0)) ∧ u.cell? ⟨w.heap.size + 1, 1, none⟩ = some (.int .i64 (0)) ∧ u.cell? ⟨w.heap.size + 1, 2, none⟩ = some (.int .i64 (0)))
    ⟨by (repeat (first | with_reducible exact Below.refl _ _ | assumption | with_reducible refine below_drewN ?_ _ | with_reducible refine Below.drew ?_ | with_reducible refine Below.setRow ?_ ?_ _ | with_reducible refine Below.alloc ?_ ?_ _ | with_reducible refine Below.setCell ?_ ?_ _ | with_reducible exact Nat.le_refl _ | (focus (simp; done)) | (focus (simp; omega)) | omega)), (box_row w ⟨op, wd, n, k0, k1, k2⟩ 49).below (by (repeat (first | with_reducible exact Below.refl _ _ | assumption | with_reducible refine below_drewN ?_ _ | with_reducible refine Below.drew ?_ | with_reducible refine Below.setRow ?_ ?_ _ | with_reducible refine Below.alloc ?_ ?_ _ | with_reducible refine Below.setCell ?_ ?_ _ | with_reducible exact Nat.le_refl _ | (focus (simp; done)) | (focus (simp; omega)) | omega))), by simp [go_sem], by simp [go_sem], by simp [go_sem]⟩ ?_
  rintro w9 ⟨HB, HX, c0, c1, c2⟩
  have hva : 0 ≤ wAt ls k0 := hwA.out _
  have hvb : (0 : Int) ≤ 0 := Int.le_refl 0
  have Herr := Lib.hid (right_err (d := ⟨op, wd, n, k0, k1, k2⟩) hop.1 hop.2 hR.out hva hvb Hn.out.1 Hn.out.2)
  obtain ⟨cW, cN⟩ := cell_x _ _ _ HX
  dsimp only at cW cN
  by_cases t1 : (widI op wd (wAt ls k0) (0) (0) != wd) = true
  · (refine wp_region_cls (by kernel_rfl) (by kernel_rfl) ?_; (repeat (first | go_big_quiet_skip | (go_big_quiet_want; first | (refine quiet_ldNd HX 0 _ rfl _ rfl rfl ?_; simp only [Act.put, qz4, qz5, qz6]; (try dsimp only); go_big_quiet_on) | (refine quiet_ld3 c0 _ rfl rfl ?_; simp only [Act.put, qz4, qz5, qz6]; go_big_quiet_on) | (refine quiet_ld3 c1 _ rfl rfl ?_; simp only [Act.put, qz4, qz5, qz6]; go_big_quiet_on) | (refine quiet_ld3 c2 _ rfl rfl ?_; simp only [Act.put, qz4, qz5, qz6]; go_big_quiet_on) | (refine quiet_ld3 cW _ rfl rfl ?_; simp only [Act.put, qz4, qz5, qz6]; go_big_quiet_on) | (refine quiet_ld46 cN _ rfl rfl ?_; simp only [Act.put, qz4, qz5, qz6]; go_big_quiet_on) | (go_big_quiet_op; first | go_big_quiet_on | (refine Exists.intro _ (And.intro (fun _ _ => rfl) ?_); go_big_quiet_on) | go_big_quiet_call (((intro hC; replace hC : Below _ _ _ := hC); first | (go_at_call 66; (with_reducible refine (width_any _ _ _ _ _ _ _ _ _ _).mono ?_); (rintro e w2 ⟨rfl, hb⟩; exact ⟨rfl, hC.trans (hb.mono hC.size)⟩)) | (go_at_call 67; (with_reducible refine (most_any _ _ _ _ _ _ _).mono ?_); (rintro e w2 ⟨rfl, hb⟩; exact ⟨rfl, hC.trans (hb.mono hC.size)⟩)))))))); refine wpQuiet_nil ?_; intro w8 hb; replace hb : Below _ _ _ := hb; replace HX := HX.below hb; replace HB := HB.trans (hb.mono HB.size); replace cW := cell_keep hb cW; replace cN := cell_keep hb cN; clear hb c0 c1 c2)
    (repeat (first | (with_reducible first | refine xA ?_ | refine xB ?_ | refine xC ?_ | refine xD ?_ | refine xH ?_ | refine xI rfl ?_ | refine xE ?_ | refine xF ?_ | refine xG ?_) | go_values | go_skip | go_guarded | go_step | go_upon | go_back | ((with_reducible show Oper.upon _ _ _ _ _ _); go_simp) | (dsimp only)))
    go_ret
    exact ⟨ret_int (by rw [Herr.out, if_pos (.inl t1)]), HB⟩
  replace t1 : (widI op wd (wAt ls k0) (0) (0) != wd) = false := by simpa using t1
  by_cases t2 : wd < 0
  · (refine wp_region_cls (by kernel_rfl) (by kernel_rfl) ?_; (repeat (first | go_big_quiet_skip | (go_big_quiet_want; first | (refine quiet_ldNd HX 0 _ rfl _ rfl rfl ?_; simp only [Act.put, qz4, qz5, qz6]; (try dsimp only); go_big_quiet_on) | (refine quiet_ld3 c0 _ rfl rfl ?_; simp only [Act.put, qz4, qz5, qz6]; go_big_quiet_on) | (refine quiet_ld3 c1 _ rfl rfl ?_; simp only [Act.put, qz4, qz5, qz6]; go_big_quiet_on) | (refine quiet_ld3 c2 _ rfl rfl ?_; simp only [Act.put, qz4, qz5, qz6]; go_big_quiet_on) | (refine quiet_ld3 cW _ rfl rfl ?_; simp only [Act.put, qz4, qz5, qz6]; go_big_quiet_on) | (refine quiet_ld46 cN _ rfl rfl ?_; simp only [Act.put, qz4, qz5, qz6]; go_big_quiet_on) | (go_big_quiet_op; first | go_big_quiet_on | (refine Exists.intro _ (And.intro (fun _ _ => rfl) ?_); go_big_quiet_on) | go_big_quiet_call (((intro hC; replace hC : Below _ _ _ := hC); first | (go_at_call 66; (with_reducible refine (width_any _ _ _ _ _ _ _ _ _ _).mono ?_); (rintro e w2 ⟨rfl, hb⟩; exact ⟨rfl, hC.trans (hb.mono hC.size)⟩)) | (go_at_call 67; (with_reducible refine (most_any _ _ _ _ _ _ _).mono ?_); (rintro e w2 ⟨rfl, hb⟩; exact ⟨rfl, hC.trans (hb.mono hC.size)⟩)))))))); refine wpQuiet_nil ?_; intro w8 hb; replace hb : Below _ _ _ := hb; replace HX := HX.below hb; replace HB := HB.trans (hb.mono HB.size); replace cW := cell_keep hb cW; replace cN := cell_keep hb cN; clear hb c0 c1 c2)
    (repeat (first | (with_reducible first | refine xA ?_ | refine xB ?_ | refine xC ?_ | refine xD ?_ | refine xH ?_ | refine xI rfl ?_ | refine xE ?_ | refine xF ?_ | refine xG ?_) | go_values | go_skip | go_guarded | go_step | go_upon | go_back | ((with_reducible show Oper.upon _ _ _ _ _ _); go_simp) | (dsimp only)))
    go_ret
    exact ⟨ret_int (by rw [Herr.out, if_pos (.inr t2)]), HB⟩
  by_cases t3 : mostI op wd < n
  · (refine wp_region_cls (by kernel_rfl) (by kernel_rfl) ?_; (repeat (first | go_big_quiet_skip | (go_big_quiet_want; first | (refine quiet_ldNd HX 0 _ rfl _ rfl rfl ?_; simp only [Act.put, qz4, qz5, qz6]; (try dsimp only); go_big_quiet_on) | (refine quiet_ld3 c0 _ rfl rfl ?_; simp only [Act.put, qz4, qz5, qz6]; go_big_quiet_on) | (refine quiet_ld3 c1 _ rfl rfl ?_; simp only [Act.put, qz4, qz5, qz6]; go_big_quiet_on) | (refine quiet_ld3 c2 _ rfl rfl ?_; simp only [Act.put, qz4, qz5, qz6]; go_big_quiet_on) | (refine quiet_ld3 cW _ rfl rfl ?_; simp only [Act.put, qz4, qz5, qz6]; go_big_quiet_on) | (refine quiet_ld46 cN _ rfl rfl ?_; simp only [Act.put, qz4, qz5, qz6]; go_big_quiet_on) | (go_big_quiet_op; first | go_big_quiet_on | (refine Exists.intro _ (And.intro (fun _ _ => rfl) ?_); go_big_quiet_on) | go_big_quiet_call (((intro hC; replace hC : Below _ _ _ := hC); first | (go_at_call 66; (with_reducible refine (width_any _ _ _ _ _ _ _ _ _ _).mono ?_); (rintro e w2 ⟨rfl, hb⟩; exact ⟨rfl, hC.trans (hb.mono hC.size)⟩)) | (go_at_call 67; (with_reducible refine (most_any _ _ _ _ _ _ _).mono ?_); (rintro e w2 ⟨rfl, hb⟩; exact ⟨rfl, hC.trans (hb.mono hC.size)⟩)))))))); refine wpQuiet_nil ?_; intro w8 hb; replace hb : Below _ _ _ := hb; replace HX := HX.below hb; replace HB := HB.trans (hb.mono HB.size); replace cW := cell_keep hb cW; replace cN := cell_keep hb cN; clear hb c0 c1 c2)
    (repeat (first | (with_reducible first | refine xA ?_ | refine xB ?_ | refine xC ?_ | refine xD ?_ | refine xH ?_ | refine xI rfl ?_ | refine xE ?_ | refine xF ?_ | refine xG ?_) | go_values | go_skip | go_guarded | go_step | go_upon | go_back | ((with_reducible show Oper.upon _ _ _ _ _ _); go_simp) | (dsimp only)))
    (refine wp_region_cls (by kernel_rfl) (by kernel_rfl) ?_; (repeat (first | go_big_quiet_skip | (go_big_quiet_want; first | (refine quiet_ldNd HX 0 _ rfl _ rfl rfl ?_; simp only [Act.put, qz4, qz5, qz6]; (try dsimp only); go_big_quiet_on) | (refine quiet_ld3 c0 _ rfl rfl ?_; simp only [Act.put, qz4, qz5, qz6]; go_big_quiet_on) | (refine quiet_ld3 c1 _ rfl rfl ?_; simp only [Act.put, qz4, qz5, qz6]; go_big_quiet_on) | (refine quiet_ld3 c2 _ rfl rfl ?_; simp only [Act.put, qz4, qz5, qz6]; go_big_quiet_on) | (refine quiet_ld3 cW _ rfl rfl ?_; simp only [Act.put, qz4, qz5, qz6]; go_big_quiet_on) | (refine quiet_ld46 cN _ rfl rfl ?_; simp only [Act.put, qz4, qz5, qz6]; go_big_quiet_on) | (go_big_quiet_op; first | go_big_quiet_on | (refine Exists.intro _ (And.intro (fun _ _ => rfl) ?_); go_big_quiet_on) | go_big_quiet_call (((intro hC; replace hC : Below _ _ _ := hC); first | (go_at_call 66; (with_reducible refine (width_any _ _ _ _ _ _ _ _ _ _).mono ?_); (rintro e w2 ⟨rfl, hb⟩; exact ⟨rfl, hC.trans (hb.mono hC.size)⟩)) | (go_at_call 67; (with_reducible refine (most_any _ _ _ _ _ _ _).mono ?_); (rintro e w2 ⟨rfl, hb⟩; exact ⟨rfl, hC.trans (hb.mono hC.size)⟩)))))))); refine wpQuiet_nil ?_; intro w7 hb; replace hb : Below _ _ _ := hb; replace HB := HB.trans (hb.mono HB.size); clear hb)
    (repeat (first | (with_reducible first | refine xA ?_ | refine xB ?_ | refine xC ?_ | refine xD ?_ | refine xH ?_ | refine xI rfl ?_ | refine xE ?_ | refine xF ?_ | refine xG ?_) | go_values | go_skip | go_guarded | go_step | go_upon | go_back | ((with_reducible show Oper.upon _ _ _ _ _ _); go_simp) | (dsimp only)))
    go_ret
    exact ⟨ret_int (by rw [Herr.out, if_neg (by simp [t1, t2]), if_pos t3]), HB⟩
  · (refine wp_region_cls (by kernel_rfl) (by kernel_rfl) ?_; (repeat (first | go_big_quiet_skip | (go_big_quiet_want; first | (refine quiet_ldNd HX 0 _ rfl _ rfl rfl ?_; simp only [Act.put, qz4, qz5, qz6]; (try dsimp only); go_big_quiet_on) | (refine quiet_ld3 c0 _ rfl rfl ?_; simp only [Act.put, qz4, qz5, qz6]; go_big_quiet_on) | (refine quiet_ld3 c1 _ rfl rfl ?_; simp only [Act.put, qz4, qz5, qz6]; go_big_quiet_on) | (refine quiet_ld3 c2 _ rfl rfl ?_; simp only [Act.put, qz4, qz5, qz6]; go_big_quiet_on) | (refine quiet_ld3 cW _ rfl rfl ?_; simp only [Act.put, qz4, qz5, qz6]; go_big_quiet_on) | (refine quiet_ld46 cN _ rfl rfl ?_; simp only [Act.put, qz4, qz5, qz6]; go_big_quiet_on) | (go_big_quiet_op; first | go_big_quiet_on | (refine Exists.intro _ (And.intro (fun _ _ => rfl) ?_); go_big_quiet_on) | go_big_quiet_call (((intro hC; replace hC : Below _ _ _ := hC); first | (go_at_call 66; (with_reducible refine (width_any _ _ _ _ _ _ _ _ _ _).mono ?_); (rintro e w2 ⟨rfl, hb⟩; exact ⟨rfl, hC.trans (hb.mono hC.size)⟩)) | (go_at_call 67; (with_reducible refine (most_any _ _ _ _ _ _ _).mono ?_); (rintro e w2 ⟨rfl, hb⟩; exact ⟨rfl, hC.trans (hb.mono hC.size)⟩)))))))); refine wpQuiet_nil ?_; intro w8 hb; replace hb : Below _ _ _ := hb; replace HX := HX.below hb; replace HB := HB.trans (hb.mono HB.size); replace cW := cell_keep hb cW; replace cN := cell_keep hb cN; clear hb c0 c1 c2)
    (repeat (first | (with_reducible first | refine xA ?_ | refine xB ?_ | refine xC ?_ | refine xD ?_ | refine xH ?_ | refine xI rfl ?_ | refine xE ?_ | refine xF ?_ | refine xG ?_) | go_values | go_skip | go_guarded | go_step | go_upon | go_back | ((with_reducible show Oper.upon _ _ _ _ _ _); go_simp) | (dsimp only)))
    (refine wp_region_cls (by kernel_rfl) (by kernel_rfl) ?_; (repeat (first | go_big_quiet_skip | (go_big_quiet_want; first | (refine quiet_ldNd HX 0 _ rfl _ rfl rfl ?_; simp only [Act.put, qz4, qz5, qz6]; (try dsimp only); go_big_quiet_on) | (refine quiet_ld3 c0 _ rfl rfl ?_; simp only [Act.put, qz4, qz5, qz6]; go_big_quiet_on) | (refine quiet_ld3 c1 _ rfl rfl ?_; simp only [Act.put, qz4, qz5, qz6]; go_big_quiet_on) | (refine quiet_ld3 c2 _ rfl rfl ?_; simp only [Act.put, qz4, qz5, qz6]; go_big_quiet_on) | (refine quiet_ld3 cW _ rfl rfl ?_; simp only [Act.put, qz4, qz5, qz6]; go_big_quiet_on) | (refine quiet_ld46 cN _ rfl rfl ?_; simp only [Act.put, qz4, qz5, qz6]; go_big_quiet_on) | (go_big_quiet_op; first | go_big_quiet_on | (refine Exists.intro _ (And.intro (fun _ _ => rfl) ?_); go_big_quiet_on) | go_big_quiet_call (((intro hC; replace hC : Below _ _ _ := hC); first | (go_at_call 66; (with_reducible refine (width_any _ _ _ _ _ _ _ _ _ _).mono ?_); (rintro e w2 ⟨rfl, hb⟩; exact ⟨rfl, hC.trans (hb.mono hC.size)⟩)) | (go_at_call 67; (with_reducible refine (most_any _ _ _ _ _ _ _).mono ?_); (rintro e w2 ⟨rfl, hb⟩; exact ⟨rfl, hC.trans (hb.mono hC.size)⟩)))))))); refine wpQuiet_nil ?_; intro w7 hb; replace hb : Below _ _ _ := hb; replace HB := HB.trans (hb.mono HB.size); clear hb)
    (repeat (first | (with_reducible first | refine xA ?_ | refine xB ?_ | refine xC ?_ | refine xD ?_ | refine xH ?_ | refine xI rfl ?_ | refine xE ?_ | refine xF ?_ | refine xG ?_) | go_values | go_skip | go_guarded | go_step | go_upon | go_back | ((with_reducible show Oper.upon _ _ _ _ _ _); go_simp) | (dsimp only)))
    go_ret
    exact ⟨ret_int (by rw [Herr.out, if_neg (by simp [t1, t2]), if_neg t3]), HB⟩
set_option maxHeartbeats 2000000 in
theorem rright_2 (op wd n k0 k1 k2 : Int) (b off cap : Nat) (ls : List Nd) (w : World) (hk : kidsI op = 2) (HR : RowAt 6 Nd.cells w b off ls) (hn : 0 ≤ n) (hn' : n < 18446744073709551616) (hw : ∀ d ∈ ls, 0 ≤ d.w) :
    Calls Tryz.prog 51 #[.agg #[.int .i64 op, .int .i64 wd, .int .u64 n, .int .i64 k0, .int .i64 k1, .int .i64 k2], .slice (some ⟨b, off, none⟩) ls.length cap] w fun e w' => e = .returned (.int .i64 (rightE ⟨op, wd, n, k0, k1, k2⟩ ls)) ∧ Below w.heap.size w w' := by
  have hwA := Lib.hid (wAt_nn hw)
  clear hw
  have Hn := Lib.hid (And.intro hn hn')
  clear hn hn'
  go_enter Tryz.func51, Tryz.ntmps51
  (repeat' (first | (with_reducible first | refine xA ?_ | refine xB ?_ | refine xC ?_ | refine xD ?_ | refine xH ?_ | refine xI rfl ?_ | refine xE ?_ | refine xF ?_ | refine xG ?_) | go_skip | go_guarded | ((with_reducible refine wl_id ?_); refine wl_ldW HR (by (repeat (first | with_reducible exact Below.refl _ _ | assumption | with_reducible refine below_drewN ?_ _ | with_reducible refine Below.drew ?_ | with_reducible refine Below.setRow ?_ ?_ _ | with_reducible refine Below.alloc ?_ ?_ _ | with_reducible refine Below.setCell ?_ ?_ _ | with_reducible exact Nat.le_refl _ | (focus (simp; done)) | (focus (simp; omega)) | omega))) _ (by omega) (by omega) rfl _ rfl rfl ?_; simp only [Act.put, qz4, qz5, qz6]) | (go_at_call 41; (with_reducible refine (rkids_anyX _ 2 _ hk (by omega)).mono ?_); rintro e w1 ⟨rfl, rfl⟩) | (with_reducible refine wp_loop_rounds 4 ?_) | rw [rounds_succ] | go_values | go_skip | go_guarded | go_step | go_upon | go_back | ((with_reducible show Oper.upon _ _ _ _ _ _); go_simp) | (dsimp only)))
  all_goals (try (go_ret; exact ⟨ret_int (by simp_all [rightE, kidsR, kidW]), by (repeat (first | with_reducible exact Below.refl _ _ | assumption | with_reducible refine below_drewN ?_ _ | with_reducible refine Below.drew ?_ | with_reducible refine Below.setRow ?_ ?_ _ | with_reducible refine Below.alloc ?_ ?_ _ | with_reducible refine Below.setCell ?_ ?_ _ | with_reducible exact Nat.le_refl _ | (focus (simp; done)) | (focus (simp; omega)) | omega))⟩))
  have hop : 0 ≤ op ∧ op ≤ 24 := by omega
  have hR := Lib.hid (show kidsR op k0 k1 k2 ls = some (wAt ls k0, wAt ls k1, 0) by simp_all [kidsR, kidW] <;> (repeat rw [if_neg (by omega)]))
  refine wp_abs (fun u => Below w.heap.size w u ∧ RowAt 6 Nd.cells u w.heap.size 0 [⟨op, wd, n, k0, k1, k2⟩] ∧ u.cell? ⟨w.heap.size + 1, 0, none⟩ = some (.int .i64 (wAt ls k0)) ∧ u.cell? ⟨w.heap.size + 1, 1, none⟩ = some (.int .i64 (wAt ls k1)) ∧ u.cell? ⟨w.heap.size + 1, 2, none⟩ = some (.int .i64 (0)))
    ⟨by (repeat (first | with_reducible exact Below.refl _ _ | assumption | with_reducible refine below_drewN ?_ _ | with_reducible refine Below.drew ?_ | with_reducible refine Below.setRow ?_ ?_ _ | with_reducible refine Below.alloc ?_ ?_ _ | with_reducible refine Below.setCell ?_ ?_ _ | with_reducible exact Nat.le_refl _ | (focus (simp; done)) | (focus (simp; omega)) | omega)), (box_row w ⟨op, wd, n, k0, k1, k2⟩ 49).below (by (repeat (first | with_reducible exact Below.refl _ _ | assumption | with_reducible refine below_drewN ?_ _ | with_reducible refine Below.drew ?_ | with_reducible refine Below.setRow ?_ ?_ _ | with_reducible refine Below.alloc ?_ ?_ _ | with_reducible refine Below.setCell ?_ ?_ _ | with_reducible exact Nat.le_refl _ | (focus (simp; done)) | (focus (simp; omega)) | omega))), by simp [go_sem], by simp [go_sem], by simp [go_sem]⟩ ?_
  rintro w9 ⟨HB, HX, c0, c1, c2⟩
  have hva : 0 ≤ wAt ls k0 := hwA.out _
  have hvb : 0 ≤ wAt ls k1 := hwA.out _
  have Herr := Lib.hid (right_err (d := ⟨op, wd, n, k0, k1, k2⟩) hop.1 hop.2 hR.out hva hvb Hn.out.1 Hn.out.2)
  obtain ⟨cW, cN⟩ := cell_x _ _ _ HX
  dsimp only at cW cN
  by_cases t1 : (widI op wd (wAt ls k0) (wAt ls k1) (0) != wd) = true
  · (refine wp_region_cls (by kernel_rfl) (by kernel_rfl) ?_; (repeat (first | go_big_quiet_skip | (go_big_quiet_want; first | (refine quiet_ldNd HX 0 _ rfl _ rfl rfl ?_; simp only [Act.put, qz4, qz5, qz6]; (try dsimp only); go_big_quiet_on) | (refine quiet_ld3 c0 _ rfl rfl ?_; simp only [Act.put, qz4, qz5, qz6]; go_big_quiet_on) | (refine quiet_ld3 c1 _ rfl rfl ?_; simp only [Act.put, qz4, qz5, qz6]; go_big_quiet_on) | (refine quiet_ld3 c2 _ rfl rfl ?_; simp only [Act.put, qz4, qz5, qz6]; go_big_quiet_on) | (refine quiet_ld3 cW _ rfl rfl ?_; simp only [Act.put, qz4, qz5, qz6]; go_big_quiet_on) | (refine quiet_ld46 cN _ rfl rfl ?_; simp only [Act.put, qz4, qz5, qz6]; go_big_quiet_on) | (go_big_quiet_op; first | go_big_quiet_on | (refine Exists.intro _ (And.intro (fun _ _ => rfl) ?_); go_big_quiet_on) | go_big_quiet_call (((intro hC; replace hC : Below _ _ _ := hC); first | (go_at_call 66; (with_reducible refine (width_any _ _ _ _ _ _ _ _ _ _).mono ?_); (rintro e w2 ⟨rfl, hb⟩; exact ⟨rfl, hC.trans (hb.mono hC.size)⟩)) | (go_at_call 67; (with_reducible refine (most_any _ _ _ _ _ _ _).mono ?_); (rintro e w2 ⟨rfl, hb⟩; exact ⟨rfl, hC.trans (hb.mono hC.size)⟩)))))))); refine wpQuiet_nil ?_; intro w8 hb; replace hb : Below _ _ _ := hb; replace HX := HX.below hb; replace HB := HB.trans (hb.mono HB.size); replace cW := cell_keep hb cW; replace cN := cell_keep hb cN; clear hb c0 c1 c2)
    (repeat (first | (with_reducible first | refine xA ?_ | refine xB ?_ | refine xC ?_ | refine xD ?_ | refine xH ?_ | refine xI rfl ?_ | refine xE ?_ | refine xF ?_ | refine xG ?_) | go_values | go_skip | go_guarded | go_step | go_upon | go_back | ((with_reducible show Oper.upon _ _ _ _ _ _); go_simp) | (dsimp only)))
    go_ret
    exact ⟨ret_int (by rw [Herr.out, if_pos (.inl t1)]), HB⟩
  replace t1 : (widI op wd (wAt ls k0) (wAt ls k1) (0) != wd) = false := by simpa using t1
  by_cases t2 : wd < 0
  · (refine wp_region_cls (by kernel_rfl) (by kernel_rfl) ?_; (repeat (first | go_big_quiet_skip | (go_big_quiet_want; first | (refine quiet_ldNd HX 0 _ rfl _ rfl rfl ?_; simp only [Act.put, qz4, qz5, qz6]; (try dsimp only); go_big_quiet_on) | (refine quiet_ld3 c0 _ rfl rfl ?_; simp only [Act.put, qz4, qz5, qz6]; go_big_quiet_on) | (refine quiet_ld3 c1 _ rfl rfl ?_; simp only [Act.put, qz4, qz5, qz6]; go_big_quiet_on) | (refine quiet_ld3 c2 _ rfl rfl ?_; simp only [Act.put, qz4, qz5, qz6]; go_big_quiet_on) | (refine quiet_ld3 cW _ rfl rfl ?_; simp only [Act.put, qz4, qz5, qz6]; go_big_quiet_on) | (refine quiet_ld46 cN _ rfl rfl ?_; simp only [Act.put, qz4, qz5, qz6]; go_big_quiet_on) | (go_big_quiet_op; first | go_big_quiet_on | (refine Exists.intro _ (And.intro (fun _ _ => rfl) ?_); go_big_quiet_on) | go_big_quiet_call (((intro hC; replace hC : Below _ _ _ := hC); first | (go_at_call 66; (with_reducible refine (width_any _ _ _ _ _ _ _ _ _ _).mono ?_); (rintro e w2 ⟨rfl, hb⟩; exact ⟨rfl, hC.trans (hb.mono hC.size)⟩)) | (go_at_call 67; (with_reducible refine (most_any _ _ _ _ _ _ _).mono ?_); (rintro e w2 ⟨rfl, hb⟩; exact ⟨rfl, hC.trans (hb.mono hC.size)⟩)))))))); refine wpQuiet_nil ?_; intro w8 hb; replace hb : Below _ _ _ := hb; replace HX := HX.below hb; replace HB := HB.trans (hb.mono HB.size); replace cW := cell_keep hb cW; replace cN := cell_keep hb cN; clear hb c0 c1 c2)
    (repeat (first | (with_reducible first | refine xA ?_ | refine xB ?_ | refine xC ?_ | refine xD ?_ | refine xH ?_ | refine xI rfl ?_ | refine xE ?_ | refine xF ?_ | refine xG ?_) | go_values | go_skip | go_guarded | go_step | go_upon | go_back | ((with_reducible show Oper.upon _ _ _ _ _ _); go_simp) | (dsimp only)))
    go_ret
    exact ⟨ret_int (by rw [Herr.out, if_pos (.inr t2)]), HB⟩
  by_cases t3 : mostI op wd < n
  · (refine wp_region_cls (by kernel_rfl) (by kernel_rfl) ?_; (repeat (first | go_big_quiet_skip | (go_big_quiet_want; first | (refine quiet_ldNd HX 0 _ rfl _ rfl rfl ?_; simp only [Act.put, qz4, qz5, qz6]; (try dsimp only); go_big_quiet_on) | (refine quiet_ld3 c0 _ rfl rfl ?_; simp only [Act.put, qz4, qz5, qz6]; go_big_quiet_on) | (refine quiet_ld3 c1 _ rfl rfl ?_; simp only [Act.put, qz4, qz5, qz6]; go_big_quiet_on) | (refine quiet_ld3 c2 _ rfl rfl ?_; simp only [Act.put, qz4, qz5, qz6]; go_big_quiet_on) | (refine quiet_ld3 cW _ rfl rfl ?_; simp only [Act.put, qz4, qz5, qz6]; go_big_quiet_on) | (refine quiet_ld46 cN _ rfl rfl ?_; simp only [Act.put, qz4, qz5, qz6]; go_big_quiet_on) | (go_big_quiet_op; first | go_big_quiet_on | (refine Exists.intro _ (And.intro (fun _ _ => rfl) ?_); go_big_quiet_on) | go_big_quiet_call (((intro hC; replace hC : Below _ _ _ := hC); first | (go_at_call 66; (with_reducible refine (width_any _ _ _ _ _ _ _ _ _ _).mono ?_); (rintro e w2 ⟨rfl, hb⟩; exact ⟨rfl, hC.trans (hb.mono hC.size)⟩)) | (go_at_call 67; (with_reducible refine (most_any _ _ _ _ _ _ _).mono ?_); (rintro e w2 ⟨rfl, hb⟩; exact ⟨rfl, hC.trans (hb.mono hC.size)⟩)))))))); refine wpQuiet_nil ?_; intro w8 hb; replace hb : Below _ _ _ := hb; replace HX := HX.below hb; replace HB := HB.trans (hb.mono HB.size); replace cW := cell_keep hb cW; replace cN := cell_keep hb cN; clear hb c0 c1 c2)
    (repeat (first | (with_reducible first | refine xA ?_ | refine xB ?_ | refine xC ?_ | refine xD ?_ | refine xH ?_ | refine xI rfl ?_ | refine xE ?_ | refine xF ?_ | refine xG ?_) | go_values | go_skip | go_guarded | go_step | go_upon | go_back | ((with_reducible show Oper.upon _ _ _ _ _ _); go_simp) | (dsimp only)))
    (refine wp_region_cls (by kernel_rfl) (by kernel_rfl) ?_; (repeat (first | go_big_quiet_skip | (go_big_quiet_want; first | (refine quiet_ldNd HX 0 _ rfl _ rfl rfl ?_; simp only [Act.put, qz4, qz5, qz6]; (try dsimp only); go_big_quiet_on) | (refine quiet_ld3 c0 _ rfl rfl ?_; simp only [Act.put, qz4, qz5, qz6]; go_big_quiet_on) | (refine quiet_ld3 c1 _ rfl rfl ?_; simp only [Act.put, qz4, qz5, qz6]; go_big_quiet_on) | (refine quiet_ld3 c2 _ rfl rfl ?_; simp only [Act.put, qz4, qz5, qz6]; go_big_quiet_on) | (refine quiet_ld3 cW _ rfl rfl ?_; simp only [Act.put, qz4, qz5, qz6]; go_big_quiet_on) | (refine quiet_ld46 cN _ rfl rfl ?_; simp only [Act.put, qz4, qz5, qz6]; go_big_quiet_on) | (go_big_quiet_op; first | go_big_quiet_on | (refine Exists.intro _ (And.intro (fun _ _ => rfl) ?_); go_big_quiet_on) | go_big_quiet_call (((intro hC; replace hC : Below _ _ _ := hC); first | (go_at_call 66; (with_reducible refine (width_any _ _ _ _ _ _ _ _ _ _).mono ?_); (rintro e w2 ⟨rfl, hb⟩; exact ⟨rfl, hC.trans (hb.mono hC.size)⟩)) | (go_at_call 67; (with_reducible refine (most_any _ _ _ _ _ _ _).mono ?_); (rintro e w2 ⟨rfl, hb⟩; exact ⟨rfl, hC.trans (hb.mono hC.size)⟩)))))))); refine wpQuiet_nil ?_; intro w7 hb; replace hb : Below _ _ _ := hb; replace HB := HB.trans (hb.mono HB.size); clear hb)
    (repeat (first | (with_reducible first | refine xA ?_ | refine xB ?_ | refine xC ?_ | refine xD ?_ | refine xH ?_ | refine xI rfl ?_ | refine xE ?_ | refine xF ?_ | refine xG ?_) | go_values | go_skip | go_guarded | go_step | go_upon | go_back | ((with_reducible show Oper.upon _ _ _ _ _ _); go_simp) | (dsimp only)))
    go_ret
    exact ⟨ret_int (by rw [Herr.out, if_neg (by simp [t1, t2]), if_pos t3]), HB⟩
  · (refine wp_region_cls (by kernel_rfl) (by kernel_rfl) ?_; (repeat (first | go_big_quiet_skip | (go_big_quiet_want; first | (refine quiet_ldNd HX 0 _ rfl _ rfl rfl ?_; simp only [Act.put, qz4, qz5, qz6]; (try dsimp only); go_big_quiet_on) | (refine quiet_ld3 c0 _ rfl rfl ?_; simp only [Act.put, qz4, qz5, qz6]; go_big_quiet_on) | (refine quiet_ld3 c1 _ rfl rfl ?_; simp only [Act.put, qz4, qz5, qz6]; go_big_quiet_on) | (refine quiet_ld3 c2 _ rfl rfl ?_; simp only [Act.put, qz4, qz5, qz6]; go_big_quiet_on) | (refine quiet_ld3 cW _ rfl rfl ?_; simp only [Act.put, qz4, qz5, qz6]; go_big_quiet_on) | (refine quiet_ld46 cN _ rfl rfl ?_; simp only [Act.put, qz4, qz5, qz6]; go_big_quiet_on) | (go_big_quiet_op; first | go_big_quiet_on | (refine Exists.intro _ (And.intro (fun _ _ => rfl) ?_); go_big_quiet_on) | go_big_quiet_call (((intro hC; replace hC : Below _ _ _ := hC); first | (go_at_call 66; (with_reducible refine (width_any _ _ _ _ _ _ _ _ _ _).mono ?_); (rintro e w2 ⟨rfl, hb⟩; exact ⟨rfl, hC.trans (hb.mono hC.size)⟩)) | (go_at_call 67; (with_reducible refine (most_any _ _ _ _ _ _ _).mono ?_); (rintro e w2 ⟨rfl, hb⟩; exact ⟨rfl, hC.trans (hb.mono hC.size)⟩)))))))); refine wpQuiet_nil ?_; intro w8 hb; replace hb : Below _ _ _ := hb; replace HX := HX.below hb; replace HB := HB.trans (hb.mono HB.size); replace cW := cell_keep hb cW; replace cN := cell_keep hb cN; clear hb c0 c1 c2)
    (repeat (first | (with_reducible first | refine xA ?_ | refine xB ?_ | refine xC ?_ | refine xD ?_ | refine xH ?_ | refine xI rfl ?_ | refine xE ?_ | refine xF ?_ | refine xG ?_) | go_values | go_skip | go_guarded | go_step | go_upon | go_back | ((with_reducible show Oper.upon _ _ _ _ _ _); go_simp) | (dsimp only)))
    (refine wp_region_cls (by kernel_rfl) (by kernel_rfl) ?_; (repeat (first | go_big_quiet_skip | (go_big_quiet_want; first | (refine quiet_ldNd HX 0 _ rfl _ rfl rfl ?_; simp only [Act.put, qz4, qz5, qz6]; (try dsimp only); go_big_quiet_on) | (refine quiet_ld3 c0 _ rfl rfl ?_; simp only [Act.put, qz4, qz5, qz6]; go_big_quiet_on) | (refine quiet_ld3 c1 _ rfl rfl ?_; simp only [Act.put, qz4, qz5, qz6]; go_big_quiet_on) | (refine quiet_ld3 c2 _ rfl rfl ?_; simp only [Act.put, qz4, qz5, qz6]; go_big_quiet_on) | (refine quiet_ld3 cW _ rfl rfl ?_; simp only [Act.put, qz4, qz5, qz6]; go_big_quiet_on) | (refine quiet_ld46 cN _ rfl rfl ?_; simp only [Act.put, qz4, qz5, qz6]; go_big_quiet_on) | (go_big_quiet_op; first | go_big_quiet_on | (refine Exists.intro _ (And.intro (fun _ _ => rfl) ?_); go_big_quiet_on) | go_big_quiet_call (((intro hC; replace hC : Below _ _ _ := hC); first | (go_at_call 66; (with_reducible refine (width_any _ _ _ _ _ _ _ _ _ _).mono ?_); (rintro e w2 ⟨rfl, hb⟩; exact ⟨rfl, hC.trans (hb.mono hC.size)⟩)) | (go_at_call 67; (with_reducible refine (most_any _ _ _ _ _ _ _).mono ?_); (rintro e w2 ⟨rfl, hb⟩; exact ⟨rfl, hC.trans (hb.mono hC.size)⟩)))))))); refine wpQuiet_nil ?_; intro w7 hb; replace hb : Below _ _ _ := hb; replace HB := HB.trans (hb.mono HB.size); clear hb)
    (repeat (first | (with_reducible first | refine xA ?_ | refine xB ?_ | refine xC ?_ | refine xD ?_ | refine xH ?_ | refine xI rfl ?_ | refine xE ?_ | refine xF ?_ | refine xG ?_) | go_values | go_skip | go_guarded | go_step | go_upon | go_back | ((with_reducible show Oper.upon _ _ _ _ _ _); go_simp) | (dsimp only)))
    go_ret
    exact ⟨ret_int (by rw [Herr.out, if_neg (by simp [t1, t2]), if_neg t3]), HB⟩
set_option maxHeartbeats 2000000 in
theorem rright_3 (op wd n k0 k1 k2 : Int) (b off cap : Nat) (ls : List Nd) (w : World) (hk : kidsI op = 3) (HR : RowAt 6 Nd.cells w b off ls) (hn : 0 ≤ n) (hn' : n < 18446744073709551616) (hw : ∀ d ∈ ls, 0 ≤ d.w) :
    Calls Tryz.prog 51 #[.agg #[.int .i64 op, .int .i64 wd, .int .u64 n, .int .i64 k0, .int .i64 k1, .int .i64 k2], .slice (some ⟨b, off, none⟩) ls.length cap] w fun e w' => e = .returned (.int .i64 (rightE ⟨op, wd, n, k0, k1, k2⟩ ls)) ∧ Below w.heap.size w w' := by
  have hwA := Lib.hid (wAt_nn hw)
  clear hw
  have Hn := Lib.hid (And.intro hn hn')
  clear hn hn'
  go_enter Tryz.func51, Tryz.ntmps51
  (repeat' (first | (with_reducible first | refine xA ?_ | refine xB ?_ | refine xC ?_ | refine xD ?_ | refine xH ?_ | refine xI rfl ?_ | refine xE ?_ | refine xF ?_ | refine xG ?_) | go_skip | go_guarded | ((with_reducible refine wl_id ?_); refine wl_ldW HR (by (repeat (first | with_reducible exact Below.refl _ _ | assumption | with_reducible refine below_drewN ?_ _ | with_reducible refine Below.drew ?_ | with_reducible refine Below.setRow ?_ ?_ _ | with_reducible refine Below.alloc ?_ ?_ _ | with_reducible refine Below.setCell ?_ ?_ _ | with_reducible exact Nat.le_refl _ | (focus (simp; done)) | (focus (simp; omega)) | omega))) _ (by omega) (by omega) rfl _ rfl rfl ?_; simp only [Act.put, qz4, qz5, qz6]) | (go_at_call 41; (with_reducible refine (rkids_anyX _ 3 _ hk (by omega)).mono ?_); rintro e w1 ⟨rfl, rfl⟩) | (with_reducible refine wp_loop_rounds 4 ?_) | rw [rounds_succ] | go_values | go_skip | go_guarded | go_step | go_upon | go_back | ((with_reducible show Oper.upon _ _ _ _ _ _); go_simp) | (dsimp only)))
  all_goals (try (go_ret; exact ⟨ret_int (by simp_all [rightE, kidsR, kidW]), by (repeat (first | with_reducible exact Below.refl _ _ | assumption | with_reducible refine below_drewN ?_ _ | with_reducible refine Below.drew ?_ | with_reducible refine Below.setRow ?_ ?_ _ | with_reducible refine Below.alloc ?_ ?_ _ | with_reducible refine Below.setCell ?_ ?_ _ | with_reducible exact Nat.le_refl _ | (focus (simp; done)) | (focus (simp; omega)) | omega))⟩))
  have hop : 0 ≤ op ∧ op ≤ 24 := by omega
  have hR := Lib.hid (show kidsR op k0 k1 k2 ls = some (wAt ls k0, wAt ls k1, wAt ls k2) by simp_all [kidsR, kidW] <;> (repeat rw [if_neg (by omega)]))
  refine wp_abs (fun u => Below w.heap.size w u ∧ RowAt 6 Nd.cells u w.heap.size 0 [⟨op, wd, n, k0, k1, k2⟩] ∧ u.cell? ⟨w.heap.size + 1, 0, none⟩ = some (.int .i64 (wAt ls k0)) ∧ u.cell? ⟨w.heap.size + 1, 1, none⟩ = some (.int .i64 (wAt ls k1)) ∧ u.cell? ⟨w.heap.size + 1, 2, none⟩ = some (.int .i64 (wAt ls k2)))
    ⟨by (repeat (first | with_reducible exact Below.refl _ _ | assumption | with_reducible refine below_drewN ?_ _ | with_reducible refine Below.drew ?_ | with_reducible refine Below.setRow ?_ ?_ _ | with_reducible refine Below.alloc ?_ ?_ _ | with_reducible refine Below.setCell ?_ ?_ _ | with_reducible exact Nat.le_refl _ | (focus (simp; done)) | (focus (simp; omega)) | omega)), (box_row w ⟨op, wd, n, k0, k1, k2⟩ 49).below (by (repeat (first | with_reducible exact Below.refl _ _ | assumption | with_reducible refine below_drewN ?_ _ | with_reducible refine Below.drew ?_ | with_reducible refine Below.setRow ?_ ?_ _ | with_reducible refine Below.alloc ?_ ?_ _ | with_reducible refine Below.setCell ?_ ?_ _ | with_reducible exact Nat.le_refl _ | (focus (simp; done)) | (focus (simp; omega)) | omega))), by simp [go_sem], by simp [go_sem], by simp [go_sem]⟩ ?_
  rintro w9 ⟨HB, HX, c0, c1, c2⟩
  have hva : 0 ≤ wAt ls k0 := hwA.out _
  have hvb : 0 ≤ wAt ls k1 := hwA.out _
  have Herr := Lib.hid (right_err (d := ⟨op, wd, n, k0, k1, k2⟩) hop.1 hop.2 hR.out hva hvb Hn.out.1 Hn.out.2)
  obtain ⟨cW, cN⟩ := cell_x _ _ _ HX
  dsimp only at cW cN
  by_cases t1 : (widI op wd (wAt ls k0) (wAt ls k1) (wAt ls k2) != wd) = true
  · (refine wp_region_cls (by kernel_rfl) (by kernel_rfl) ?_; (repeat (first | go_big_quiet_skip | (go_big_quiet_want; first | (refine quiet_ldNd HX 0 _ rfl _ rfl rfl ?_; simp only [Act.put, qz4, qz5, qz6]; (try dsimp only); go_big_quiet_on) | (refine quiet_ld3 c0 _ rfl rfl ?_; simp only [Act.put, qz4, qz5, qz6]; go_big_quiet_on) | (refine quiet_ld3 c1 _ rfl rfl ?_; simp only [Act.put, qz4, qz5, qz6]; go_big_quiet_on) | (refine quiet_ld3 c2 _ rfl rfl ?_; simp only [Act.put, qz4, qz5, qz6]; go_big_quiet_on) | (refine quiet_ld3 cW _ rfl rfl ?_; simp only [Act.put, qz4, qz5, qz6]; go_big_quiet_on) | (refine quiet_ld46 cN _ rfl rfl ?_; simp only [Act.put, qz4, qz5, qz6]; go_big_quiet_on) | (go_big_quiet_op; first | go_big_quiet_on | (refine Exists.intro _ (And.intro (fun _ _ => rfl) ?_); go_big_quiet_on) | go_big_quiet_call (((intro hC; replace hC : Below _ _ _ := hC); first | (go_at_call 66; (with_reducible refine (width_any _ _ _ _ _ _ _ _ _ _).mono ?_); (rintro e w2 ⟨rfl, hb⟩; exact ⟨rfl, hC.trans (hb.mono hC.size)⟩)) | (go_at_call 67; (with_reducible refine (most_any _ _ _ _ _ _ _).mono ?_); (rintro e w2 ⟨rfl, hb⟩; exact ⟨rfl, hC.trans (hb.mono hC.size)⟩)))))))); refine wpQuiet_nil ?_; intro w8 hb; replace hb : Below _ _ _ := hb; replace HX := HX.below hb; replace HB := HB.trans (hb.mono HB.size); replace cW := cell_keep hb cW; replace cN := cell_keep hb cN; clear hb c0 c1 c2)
    (repeat (first | (with_reducible first | refine xA ?_ | refine xB ?_ | refine xC ?_ | refine xD ?_ | refine xH ?_ | refine xI rfl ?_ | refine xE ?_ | refine xF ?_ | refine xG ?_) | go_values | go_skip | go_guarded | go_step | go_upon | go_back | ((with_reducible show Oper.upon _ _ _ _ _ _); go_simp) | (dsimp only)))
    go_ret
    exact ⟨ret_int (by rw [Herr.out, if_pos (.inl t1)]), HB⟩
  replace t1 : (widI op wd (wAt ls k0) (wAt ls k1) (wAt ls k2) != wd) = false := by simpa using t1
  by_cases t2 : wd < 0
  · (refine wp_region_cls (by kernel_rfl) (by kernel_rfl) ?_; (repeat (first | go_big_quiet_skip | (go_big_quiet_want; first | (refine quiet_ldNd HX 0 _ rfl _ rfl rfl ?_; simp only [Act.put, qz4, qz5, qz6]; (try dsimp only); go_big_quiet_on) | (refine quiet_ld3 c0 _ rfl rfl ?_; simp only [Act.put, qz4, qz5, qz6]; go_big_quiet_on) | (refine quiet_ld3 c1 _ rfl rfl ?_; simp only [Act.put, qz4, qz5, qz6]; go_big_quiet_on) | (refine quiet_ld3 c2 _ rfl rfl ?_; simp only [Act.put, qz4, qz5, qz6]; go_big_quiet_on) | (refine quiet_ld3 cW _ rfl rfl ?_; simp only [Act.put, qz4, qz5, qz6]; go_big_quiet_on) | (refine quiet_ld46 cN _ rfl rfl ?_; simp only [Act.put, qz4, qz5, qz6]; go_big_quiet_on) | (go_big_quiet_op; first | go_big_quiet_on | (refine Exists.intro _ (And.intro (fun _ _ => rfl) ?_); go_big_quiet_on) | go_big_quiet_call (((intro hC; replace hC : Below _ _ _ := hC); first | (go_at_call 66; (with_reducible refine (width_any _ _ _ _ _ _ _ _ _ _).mono ?_); (rintro e w2 ⟨rfl, hb⟩; exact ⟨rfl, hC.trans (hb.mono hC.size)⟩)) | (go_at_call 67; (with_reducible refine (most_any _ _ _ _ _ _ _).mono ?_); (rintro e w2 ⟨rfl, hb⟩; exact ⟨rfl, hC.trans (hb.mono hC.size)⟩)))))))); refine wpQuiet_nil ?_; intro w8 hb; replace hb : Below _ _ _ := hb; replace HX := HX.below hb; replace HB := HB.trans (hb.mono HB.size); replace cW := cell_keep hb cW; replace cN := cell_keep hb cN; clear hb c0 c1 c2)
    (repeat (first | (with_reducible first | refine xA ?_ | refine xB ?_ | refine xC ?_ | refine xD ?_ | refine xH ?_ | refine xI rfl ?_ | refine xE ?_ | refine xF ?_ | refine xG ?_) | go_values | go_skip | go_guarded | go_step | go_upon | go_back | ((with_reducible show Oper.upon _ _ _ _ _ _); go_simp) | (dsimp only)))
    go_ret
    exact ⟨ret_int (by rw [Herr.out, if_pos (.inr t2)]), HB⟩
  by_cases t3 : mostI op wd < n
  · (refine wp_region_cls (by kernel_rfl) (by kernel_rfl) ?_; (repeat (first | go_big_quiet_skip | (go_big_quiet_want; first | (refine quiet_ldNd HX 0 _ rfl _ rfl rfl ?_; simp only [Act.put, qz4, qz5, qz6]; (try dsimp only); go_big_quiet_on) | (refine quiet_ld3 c0 _ rfl rfl ?_; simp only [Act.put, qz4, qz5, qz6]; go_big_quiet_on) | (refine quiet_ld3 c1 _ rfl rfl ?_; simp only [Act.put, qz4, qz5, qz6]; go_big_quiet_on) | (refine quiet_ld3 c2 _ rfl rfl ?_; simp only [Act.put, qz4, qz5, qz6]; go_big_quiet_on) | (refine quiet_ld3 cW _ rfl rfl ?_; simp only [Act.put, qz4, qz5, qz6]; go_big_quiet_on) | (refine quiet_ld46 cN _ rfl rfl ?_; simp only [Act.put, qz4, qz5, qz6]; go_big_quiet_on) | (go_big_quiet_op; first | go_big_quiet_on | (refine Exists.intro _ (And.intro (fun _ _ => rfl) ?_); go_big_quiet_on) | go_big_quiet_call (((intro hC; replace hC : Below _ _ _ := hC); first | (go_at_call 66; (with_reducible refine (width_any _ _ _ _ _ _ _ _ _ _).mono ?_); (rintro e w2 ⟨rfl, hb⟩; exact ⟨rfl, hC.trans (hb.mono hC.size)⟩)) | (go_at_call 67; (with_reducible refine (most_any _ _ _ _ _ _ _).mono ?_); (rintro e w2 ⟨rfl, hb⟩; exact ⟨rfl, hC.trans (hb.mono hC.size)⟩)))))))); refine wpQuiet_nil ?_; intro w8 hb; replace hb : Below _ _ _ := hb; replace HX := HX.below hb; replace HB := HB.trans (hb.mono HB.size); replace cW := cell_keep hb cW; replace cN := cell_keep hb cN; clear hb c0 c1 c2)
    (repeat (first | (with_reducible first | refine xA ?_ | refine xB ?_ | refine xC ?_ | refine xD ?_ | refine xH ?_ | refine xI rfl ?_ | refine xE ?_ | refine xF ?_ | refine xG ?_) | go_values | go_skip | go_guarded | go_step | go_upon | go_back | ((with_reducible show Oper.upon _ _ _ _ _ _); go_simp) | (dsimp only)))
    (refine wp_region_cls (by kernel_rfl) (by kernel_rfl) ?_; (repeat (first | go_big_quiet_skip | (go_big_quiet_want; first | (refine quiet_ldNd HX 0 _ rfl _ rfl rfl ?_; simp only [Act.put, qz4, qz5, qz6]; (try dsimp only); go_big_quiet_on) | (refine quiet_ld3 c0 _ rfl rfl ?_; simp only [Act.put, qz4, qz5, qz6]; go_big_quiet_on) | (refine quiet_ld3 c1 _ rfl rfl ?_; simp only [Act.put, qz4, qz5, qz6]; go_big_quiet_on) | (refine quiet_ld3 c2 _ rfl rfl ?_; simp only [Act.put, qz4, qz5, qz6]; go_big_quiet_on) | (refine quiet_ld3 cW _ rfl rfl ?_; simp only [Act.put, qz4, qz5, qz6]; go_big_quiet_on) | (refine quiet_ld46 cN _ rfl rfl ?_; simp only [Act.put, qz4, qz5, qz6]; go_big_quiet_on) | (go_big_quiet_op; first | go_big_quiet_on | (refine Exists.intro _ (And.intro (fun _ _ => rfl) ?_); go_big_quiet_on) | go_big_quiet_call (((intro hC; replace hC : Below _ _ _ := hC); first | (go_at_call 66; (with_reducible refine (width_any _ _ _ _ _ _ _ _ _ _).mono ?_); (rintro e w2 ⟨rfl, hb⟩; exact ⟨rfl, hC.trans (hb.mono hC.size)⟩)) | (go_at_call 67; (with_reducible refine (most_any _ _ _ _ _ _ _).mono ?_); (rintro e w2 ⟨rfl, hb⟩; exact ⟨rfl, hC.trans (hb.mono hC.size)⟩)))))))); refine wpQuiet_nil ?_; intro w7 hb; replace hb : Below _ _ _ := hb; replace HB := HB.trans (hb.mono HB.size); clear hb)
    (repeat (first | (with_reducible first | refine xA ?_ | refine xB ?_ | refine xC ?_ | refine xD ?_ | refine xH ?_ | refine xI rfl ?_ | refine xE ?_ | refine xF ?_ | refine xG ?_) | go_values | go_skip | go_guarded | go_step | go_upon | go_back | ((with_reducible show Oper.upon _ _ _ _ _ _); go_simp) | (dsimp only)))
    go_ret
    exact ⟨ret_int (by rw [Herr.out, if_neg (by simp [t1, t2]), if_pos t3]), HB⟩
  · (refine wp_region_cls (by kernel_rfl) (by kernel_rfl) ?_; (repeat (first | go_big_quiet_skip | (go_big_quiet_want; first | (refine quiet_ldNd HX 0 _ rfl _ rfl rfl ?_; simp only [Act.put, qz4, qz5, qz6]; (try dsimp only); go_big_quiet_on) | (refine quiet_ld3 c0 _ rfl rfl ?_; simp only [Act.put, qz4, qz5, qz6]; go_big_quiet_on) | (refine quiet_ld3 c1 _ rfl rfl ?_; simp only [Act.put, qz4, qz5, qz6]; go_big_quiet_on) | (refine quiet_ld3 c2 _ rfl rfl ?_; simp only [Act.put, qz4, qz5, qz6]; go_big_quiet_on) | (refine quiet_ld3 cW _ rfl rfl ?_; simp only [Act.put, qz4, qz5, qz6]; go_big_quiet_on) | (refine quiet_ld46 cN _ rfl rfl ?_; simp only [Act.put, qz4, qz5, qz6]; go_big_quiet_on) | (go_big_quiet_op; first | go_big_quiet_on | (refine Exists.intro _ (And.intro (fun _ _ => rfl) ?_); go_big_quiet_on) | go_big_quiet_call (((intro hC; replace hC : Below _ _ _ := hC); first | (go_at_call 66; (with_reducible refine (width_any _ _ _ _ _ _ _ _ _ _).mono ?_); (rintro e w2 ⟨rfl, hb⟩; exact ⟨rfl, hC.trans (hb.mono hC.size)⟩)) | (go_at_call 67; (with_reducible refine (most_any _ _ _ _ _ _ _).mono ?_); (rintro e w2 ⟨rfl, hb⟩; exact ⟨rfl, hC.trans (hb.mono hC.size)⟩)))))))); refine wpQuiet_nil ?_; intro w8 hb; replace hb : Below _ _ _ := hb; replace HX := HX.below hb; replace HB := HB.trans (hb.mono HB.size); replace cW := cell_keep hb cW; replace cN := cell_keep hb cN; clear hb c0 c1 c2)
    (repeat (first | (with_reducible first | refine xA ?_ | refine xB ?_ | refine xC ?_ | refine xD ?_ | refine xH ?_ | refine xI rfl ?_ | refine xE ?_ | refine xF ?_ | refine xG ?_) | go_values | go_skip | go_guarded | go_step | go_upon | go_back | ((with_reducible show Oper.upon _ _ _ _ _ _); go_simp) | (dsimp only)))
    (refine wp_region_cls (by kernel_rfl) (by kernel_rfl) ?_; (repeat (first | go_big_quiet_skip | (go_big_quiet_want; first | (refine quiet_ldNd HX 0 _ rfl _ rfl rfl ?_; simp only [Act.put, qz4, qz5, qz6]; (try dsimp only); go_big_quiet_on) | (refine quiet_ld3 c0 _ rfl rfl ?_; simp only [Act.put, qz4, qz5, qz6]; go_big_quiet_on) | (refine quiet_ld3 c1 _ rfl rfl ?_; simp only [Act.put, qz4, qz5, qz6]; go_big_quiet_on) | (refine quiet_ld3 c2 _ rfl rfl ?_; simp only [Act.put, qz4, qz5, qz6]; go_big_quiet_on) | (refine quiet_ld3 cW _ rfl rfl ?_; simp only [Act.put, qz4, qz5, qz6]; go_big_quiet_on) | (refine quiet_ld46 cN _ rfl rfl ?_; simp only [Act.put, qz4, qz5, qz6]; go_big_quiet_on) | (go_big_quiet_op; first | go_big_quiet_on | (refine Exists.intro _ (And.intro (fun _ _ => rfl) ?_); go_big_quiet_on) | go_big_quiet_call (((intro hC; replace hC : Below _ _ _ := hC); first | (go_at_call 66; (with_reducible refine (width_any _ _ _ _ _ _ _ _ _ _).mono ?_); (rintro e w2 ⟨rfl, hb⟩; exact ⟨rfl, hC.trans (hb.mono hC.size)⟩)) | (go_at_call 67; (with_reducible refine (most_any _ _ _ _ _ _ _).mono ?_); (rintro e w2 ⟨rfl, hb⟩; exact ⟨rfl, hC.trans (hb.mono hC.size)⟩)))))))); refine wpQuiet_nil ?_; intro w7 hb; replace hb : Below _ _ _ := hb; replace HB := HB.trans (hb.mono HB.size); clear hb)
    (repeat (first | (with_reducible first | refine xA ?_ | refine xB ?_ | refine xC ?_ | refine xD ?_ | refine xH ?_ | refine xI rfl ?_ | refine xE ?_ | refine xF ?_ | refine xG ?_) | go_values | go_skip | go_guarded | go_step | go_upon | go_back | ((with_reducible show Oper.upon _ _ _ _ _ _); go_simp) | (dsimp only)))
    go_ret
    exact ⟨ret_int (by rw [Herr.out, if_neg (by simp [t1, t2]), if_neg t3]), HB⟩
set_option maxHeartbeats 2000000 in
theorem rrightn_0 (op wd n k0 k1 k2 : Int) (ao : Option Addr) (cap : Nat) (w : World) (hk : kidsI op = 0) (hn : 0 ≤ n) (hn' : n < 18446744073709551616) (hw : ∀ d ∈ ([] : List Nd), 0 ≤ d.w) :
    Calls Tryz.prog 51 #[.agg #[.int .i64 op, .int .i64 wd, .int .u64 n, .int .i64 k0, .int .i64 k1, .int .i64 k2], .slice ao 0 cap] w fun e w' => e = .returned (.int .i64 (rightE ⟨op, wd, n, k0, k1, k2⟩ [])) ∧ Below w.heap.size w w' := by
  have hwA := Lib.hid (wAt_nn hw)
  clear hw
  have Hn := Lib.hid (And.intro hn hn')
  clear hn hn'
  go_enter Tryz.func51, Tryz.ntmps51
  (repeat' (first | (with_reducible first | refine xA ?_ | refine xB ?_ | refine xC ?_ | refine xD ?_ | refine xH ?_ | refine xI rfl ?_ | refine xE ?_ | refine xF ?_ | refine xG ?_) | go_skip | go_guarded | (go_at_call 41; (with_reducible refine (rkids_anyX _ 0 _ hk (by omega)).mono ?_); rintro e w1 ⟨rfl, rfl⟩) | (with_reducible refine wp_loop_rounds 4 ?_) | rw [rounds_succ] | go_values | go_skip | go_guarded | go_step | go_upon | go_back | ((with_reducible show Oper.upon _ _ _ _ _ _); go_simp) | (dsimp only)))
  all_goals (try (go_ret; exact ⟨ret_int (by simp_all [rightE, kidsR, kidW]), by (repeat (first | with_reducible exact Below.refl _ _ | assumption | with_reducible refine below_drewN ?_ _ | with_reducible refine Below.drew ?_ | with_reducible refine Below.setRow ?_ ?_ _ | with_reducible refine Below.alloc ?_ ?_ _ | with_reducible refine Below.setCell ?_ ?_ _ | with_reducible exact Nat.le_refl _ | (focus (simp; done)) | (focus (simp; omega)) | omega))⟩))
  have hop : 0 ≤ op ∧ op ≤ 24 := by omega
  have hR := Lib.hid (show kidsR op k0 k1 k2 [] = some (0, 0, 0) by simp_all [kidsR, kidW])
  refine wp_abs (fun u => Below w.heap.size w u ∧ RowAt 6 Nd.cells u w.heap.size 0 [⟨op, wd, n, k0, k1, k2⟩] ∧ u.cell? ⟨w.heap.size + 1, 0, none⟩ = some (.int .i64 (0)) ∧ u.cell? ⟨w.heap.size + 1, 1, none⟩ = some (.int .i64 (0)) ∧ u.cell? ⟨w.heap.size + 1, 2, none⟩ = some (.int .i64 (0)))
    ⟨by (repeat (first | with_reducible exact Below.refl _ _ | assumption | with_reducible refine below_drewN ?_ _ | with_reducible refine Below.drew ?_ | with_reducible refine Below.setRow ?_ ?_ _ | with_reducible refine Below.alloc ?_ ?_ _ | with_reducible refine Below.setCell ?_ ?_ _ | with_reducible exact Nat.le_refl _ | (focus (simp; done)) | (focus (simp; omega)) | omega)), (box_row w ⟨op, wd, n, k0, k1, k2⟩ 49).below (by (repeat (first | with_reducible exact Below.refl _ _ | assumption | with_reducible refine below_drewN ?_ _ | with_reducible refine Below.drew ?_ | with_reducible refine Below.setRow ?_ ?_ _ | with_reducible refine Below.alloc ?_ ?_ _ | with_reducible refine Below.setCell ?_ ?_ _ | with_reducible exact Nat.le_refl _ | (focus (simp; done)) | (focus (simp; omega)) | omega))), by simp [go_sem], by simp [go_sem], by simp [go_sem]⟩ ?_
  rintro w9 ⟨HB, HX, c0, c1, c2⟩
  have hva : (0 : Int) ≤ 0 := Int.le_refl 0
  have hvb : (0 : Int) ≤ 0 := Int.le_refl 0
  have Herr := Lib.hid (right_err (d := ⟨op, wd, n, k0, k1, k2⟩) hop.1 hop.2 hR.out hva hvb Hn.out.1 Hn.out.2)
  obtain ⟨cW, cN⟩ := cell_x _ _ _ HX
  dsimp only at cW cN
  by_cases t1 : (widI op wd (0) (0) (0) != wd) = true
  · (refine wp_region_cls (by kernel_rfl) (by kernel_rfl) ?_; (repeat (first | go_big_quiet_skip | (go_big_quiet_want; first | (refine quiet_ldNd HX 0 _ rfl _ rfl rfl ?_; simp only [Act.put, qz4, qz5, qz6]; (try dsimp only); go_big_quiet_on) | (refine quiet_ld3 c0 _ rfl rfl ?_; simp only [Act.put, qz4, qz5, qz6]; go_big_quiet_on) | (refine quiet_ld3 c1 _ rfl rfl ?_; simp only [Act.put, qz4, qz5, qz6]; go_big_quiet_on) | (refine quiet_ld3 c2 _ rfl rfl ?_; simp only [Act.put, qz4, qz5, qz6]; go_big_quiet_on) | (refine quiet_ld3 cW _ rfl rfl ?_; simp only [Act.put, qz4, qz5, qz6]; go_big_quiet_on) | (refine quiet_ld46 cN _ rfl rfl ?_; simp only [Act.put, qz4, qz5, qz6]; go_big_quiet_on) | (go_big_quiet_op; first | go_big_quiet_on | (refine Exists.intro _ (And.intro (fun _ _ => rfl) ?_); go_big_quiet_on) | go_big_quiet_call (((intro hC; replace hC : Below _ _ _ := hC); first | (go_at_call 66; (with_reducible refine (width_any _ _ _ _ _ _ _ _ _ _).mono ?_); (rintro e w2 ⟨rfl, hb⟩; exact ⟨rfl, hC.trans (hb.mono hC.size)⟩)) | (go_at_call 67; (with_reducible refine (most_any _ _ _ _ _ _ _).mono ?_); (rintro e w2 ⟨rfl, hb⟩; exact ⟨rfl, hC.trans (hb.mono hC.size)⟩)))))))); refine wpQuiet_nil ?_; intro w8 hb; replace hb : Below _ _ _ := hb; replace HX := HX.below hb; replace HB := HB.trans (hb.mono HB.size); replace cW := cell_keep hb cW; replace cN := cell_keep hb cN; clear hb c0 c1 c2)
    (repeat (first | (with_reducible first | refine xA ?_ | refine xB ?_ | refine xC ?_ | refine xD ?_ | refine xH ?_ | refine xI rfl ?_ | refine xE ?_ | refine xF ?_ | refine xG ?_) | go_values | go_skip | go_guarded | go_step | go_upon | go_back | ((with_reducible show Oper.upon _ _ _ _ _ _); go_simp) | (dsimp only)))
    go_ret
    exact ⟨ret_int (by rw [Herr.out, if_pos (.inl t1)]), HB⟩
  replace t1 : (widI op wd (0) (0) (0) != wd) = false := by simpa using t1
  by_cases t2 : wd < 0
  · (refine wp_region_cls (by kernel_rfl) (by kernel_rfl) ?_; (repeat (first | go_big_quiet_skip | (go_big_quiet_want; first | (refine quiet_ldNd HX 0 _ rfl _ rfl rfl ?_; simp only [Act.put, qz4, qz5, qz6]; (try dsimp only); go_big_quiet_on) | (refine quiet_ld3 c0 _ rfl rfl ?_; simp only [Act.put, qz4, qz5, qz6]; go_big_quiet_on) | (refine quiet_ld3 c1 _ rfl rfl ?_; simp only [Act.put, qz4, qz5, qz6]; go_big_quiet_on) | (refine quiet_ld3 c2 _ rfl rfl ?_; simp only [Act.put, qz4, qz5, qz6]; go_big_quiet_on) | (refine quiet_ld3 cW _ rfl rfl ?_; simp only [Act.put, qz4, qz5, qz6]; go_big_quiet_on) | (refine quiet_ld46 cN _ rfl rfl ?_; simp only [Act.put, qz4, qz5, qz6]; go_big_quiet_on) | (go_big_quiet_op; first | go_big_quiet_on | (refine Exists.intro _ (And.intro (fun _ _ => rfl) ?_); go_big_quiet_on) | go_big_quiet_call (((intro hC; replace hC : Below _ _ _ := hC); first | (go_at_call 66; (with_reducible refine (width_any _ _ _ _ _ _ _ _ _ _).mono ?_); (rintro e w2 ⟨rfl, hb⟩; exact ⟨rfl, hC.trans (hb.mono hC.size)⟩)) | (go_at_call 67; (with_reducible refine (most_any _ _ _ _ _ _ _).mono ?_); (rintro e w2 ⟨rfl, hb⟩; exact ⟨rfl, hC.trans (hb.mono hC.size)⟩)))))))); refine wpQuiet_nil ?_; intro w8 hb; replace hb : Below _ _ _ := hb; replace HX := HX.below hb; replace HB := HB.trans (hb.mono HB.size); replace cW := cell_keep hb cW; replace cN := cell_keep hb cN; clear hb c0 c1 c2)
    (repeat (first | (with_reducible first | refine xA ?_ | refine xB ?_ | refine xC ?_ | refine xD ?_ | refine xH ?_ | refine xI rfl ?_ | refine xE ?_ | refine xF ?_ | refine xG ?_) | go_values | go_skip | go_guarded | go_step | go_upon | go_back | ((with_reducible show Oper.upon _ _ _ _ _ _); go_simp) | (dsimp only)))
    go_ret
    exact ⟨ret_int (by rw [Herr.out, if_pos (.inr t2)]), HB⟩
  by_cases t3 : mostI op wd < n
  · (refine wp_region_cls (by kernel_rfl) (by kernel_rfl) ?_; (repeat (first | go_big_quiet_skip | (go_big_quiet_want; first | (refine quiet_ldNd HX 0 _ rfl _ rfl rfl ?_; simp only [Act.put, qz4, qz5, qz6]; (try dsimp only); go_big_quiet_on) | (refine quiet_ld3 c0 _ rfl rfl ?_; simp only [Act.put, qz4, qz5, qz6]; go_big_quiet_on) | (refine quiet_ld3 c1 _ rfl rfl ?_; simp only [Act.put, qz4, qz5, qz6]; go_big_quiet_on) | (refine quiet_ld3 c2 _ rfl rfl ?_; simp only [Act.put, qz4, qz5, qz6]; go_big_quiet_on) | (refine quiet_ld3 cW _ rfl rfl ?_; simp only [Act.put, qz4, qz5, qz6]; go_big_quiet_on) | (refine quiet_ld46 cN _ rfl rfl ?_; simp only [Act.put, qz4, qz5, qz6]; go_big_quiet_on) | (go_big_quiet_op; first | go_big_quiet_on | (refine Exists.intro _ (And.intro (fun _ _ => rfl) ?_); go_big_quiet_on) | go_big_quiet_call (((intro hC; replace hC : Below _ _ _ := hC); first | (go_at_call 66; (with_reducible refine (width_any _ _ _ _ _ _ _ _ _ _).mono ?_); (rintro e w2 ⟨rfl, hb⟩; exact ⟨rfl, hC.trans (hb.mono hC.size)⟩)) | (go_at_call 67; (with_reducible refine (most_any _ _ _ _ _ _ _).mono ?_); (rintro e w2 ⟨rfl, hb⟩; exact ⟨rfl, hC.trans (hb.mono hC.size)⟩)))))))); refine wpQuiet_nil ?_; intro w8 hb; replace hb : Below _ _ _ := hb; replace HX := HX.below hb; replace HB := HB.trans (hb.mono HB.size); replace cW := cell_keep hb cW; replace cN := cell_keep hb cN; clear hb c0 c1 c2)
    (repeat (first | (with_reducible first | refine xA ?_ | refine xB ?_ | refine xC ?_ | refine xD ?_ | refine xH ?_ | refine xI rfl ?_ | refine xE ?_ | refine xF ?_ | refine xG ?_) | go_values | go_skip | go_guarded | go_step | go_upon | go_back | ((with_reducible show Oper.upon _ _ _ _ _ _); go_simp) | (dsimp only)))
    (refine wp_region_cls (by kernel_rfl) (by kernel_rfl) ?_; (repeat (first | go_big_quiet_skip | (go_big_quiet_want; first | (refine quiet_ldNd HX 0 _ rfl _ rfl rfl ?_; simp only [Act.put, qz4, qz5, qz6]; (try dsimp only); go_big_quiet_on) | (refine quiet_ld3 c0 _ rfl rfl ?_; simp only [Act.put, qz4, qz5, qz6]; go_big_quiet_on) | (refine quiet_ld3 c1 _ rfl rfl ?_; simp only [Act.put, qz4, qz5, qz6]; go_big_quiet_on) | (refine quiet_ld3 c2 _ rfl rfl ?_; simp only [Act.put, qz4, qz5, qz6]; go_big_quiet_on) | (refine quiet_ld3 cW _ rfl rfl ?_; simp only [Act.put, qz4, qz5, qz6]; go_big_quiet_on) | (refine quiet_ld46 cN _ rfl rfl ?_; simp only [Act.put, qz4, qz5, qz6]; go_big_quiet_on) | (go_big_quiet_op; first | go_big_quiet_on | (refine Exists.intro _ (And.intro (fun _ _ => rfl) ?_); go_big_quiet_on) | go_big_quiet_call (((intro hC; replace hC : Below _ _ _ := hC); first | (go_at_call 66; (with_reducible refine (width_any _ _ _ _ _ _ _ _ _ _).mono ?_); (rintro e w2 ⟨rfl, hb⟩; exact ⟨rfl, hC.trans (hb.mono hC.size)⟩)) | (go_at_call 67; (with_reducible refine (most_any _ _ _ _ _ _ _).mono ?_); (rintro e w2 ⟨rfl, hb⟩; exact ⟨rfl, hC.trans (hb.mono hC.size)⟩)))))))); refine wpQuiet_nil ?_; intro w7 hb; replace hb : Below _ _ _ := hb; replace HB := HB.trans (hb.mono HB.size); clear hb)
    (repeat (first | (with_reducible first | refine xA ?_ | refine xB ?_ | refine xC ?_ | refine xD ?_ | refine xH ?_ | refine xI rfl ?_ | refine xE ?_ | refine xF ?_ | refine xG ?_) | go_values | go_skip | go_guarded | go_step | go_upon | go_back | ((with_reducible show Oper.upon _ _ _ _ _ _); go_simp) | (dsimp only)))
    go_ret
    exact ⟨ret_int (by rw [Herr.out, if_neg (by simp [t1, t2]), if_pos t3]), HB⟩
  · (refine wp_region_cls (by kernel_rfl) (by kernel_rfl) ?_; (repeat (first | go_big_quiet_skip | (go_big_quiet_want; first | (refine quiet_ldNd HX 0 _ rfl _ rfl rfl ?_; simp only [Act.put, qz4, qz5, qz6]; (try dsimp only); go_big_quiet_on) | (refine quiet_ld3 c0 _ rfl rfl ?_; simp only [Act.put, qz4, qz5, qz6]; go_big_quiet_on) | (refine quiet_ld3 c1 _ rfl rfl ?_; simp only [Act.put, qz4, qz5, qz6]; go_big_quiet_on) | (refine quiet_ld3 c2 _ rfl rfl ?_; simp only [Act.put, qz4, qz5, qz6]; go_big_quiet_on) | (refine quiet_ld3 cW _ rfl rfl ?_; simp only [Act.put, qz4, qz5, qz6]; go_big_quiet_on) | (refine quiet_ld46 cN _ rfl rfl ?_; simp only [Act.put, qz4, qz5, qz6]; go_big_quiet_on) | (go_big_quiet_op; first | go_big_quiet_on | (refine Exists.intro _ (And.intro (fun _ _ => rfl) ?_); go_big_quiet_on) | go_big_quiet_call (((intro hC; replace hC : Below _ _ _ := hC); first | (go_at_call 66; (with_reducible refine (width_any _ _ _ _ _ _ _ _ _ _).mono ?_); (rintro e w2 ⟨rfl, hb⟩; exact ⟨rfl, hC.trans (hb.mono hC.size)⟩)) | (go_at_call 67; (with_reducible refine (most_any _ _ _ _ _ _ _).mono ?_); (rintro e w2 ⟨rfl, hb⟩; exact ⟨rfl, hC.trans (hb.mono hC.size)⟩)))))))); refine wpQuiet_nil ?_; intro w8 hb; replace hb : Below _ _ _ := hb; replace HX := HX.below hb; replace HB := HB.trans (hb.mono HB.size); replace cW := cell_keep hb cW; replace cN := cell_keep hb cN; clear hb c0 c1 c2)
    (repeat (first | (with_reducible first | refine xA ?_ | refine xB ?_ | refine xC ?_ | refine xD ?_ | refine xH ?_ | refine xI rfl ?_ | refine xE ?_ | refine xF ?_ | refine xG ?_) | go_values | go_skip | go_guarded | go_step | go_upon | go_back | ((with_reducible show Oper.upon _ _ _ _ _ _); go_simp) | (dsimp only)))
    (refine wp_region_cls (by kernel_rfl) (by kernel_rfl) ?_; (repeat (first | go_big_quiet_skip | (go_big_quiet_want; first | (refine quiet_ldNd HX 0 _ rfl _ rfl rfl ?_; simp only [Act.put, qz4, qz5, qz6]; (try dsimp only); go_big_quiet_on) | (refine quiet_ld3 c0 _ rfl rfl ?_; simp only [Act.put, qz4, qz5, qz6]; go_big_quiet_on) | (refine quiet_ld3 c1 _ rfl rfl ?_; simp only [Act.put, qz4, qz5, qz6]; go_big_quiet_on) | (refine quiet_ld3 c2 _ rfl rfl ?_; simp only [Act.put, qz4, qz5, qz6]; go_big_quiet_on) | (refine quiet_ld3 cW _ rfl rfl ?_; simp only [Act.put, qz4, qz5, qz6]; go_big_quiet_on) | (refine quiet_ld46 cN _ rfl rfl ?_; simp only [Act.put, qz4, qz5, qz6]; go_big_quiet_on) | (go_big_quiet_op; first | go_big_quiet_on | (refine Exists.intro _ (And.intro (fun _ _ => rfl) ?_); go_big_quiet_on) | go_big_quiet_call (((intro hC; replace hC : Below _ _ _ := hC); first | (go_at_call 66; (with_reducible refine (width_any _ _ _ _ _ _ _ _ _ _).mono ?_); (rintro e w2 ⟨rfl, hb⟩; exact ⟨rfl, hC.trans (hb.mono hC.size)⟩)) | (go_at_call 67; (with_reducible refine (most_any _ _ _ _ _ _ _).mono ?_); (rintro e w2 ⟨rfl, hb⟩; exact ⟨rfl, hC.trans (hb.mono hC.size)⟩)))))))); refine wpQuiet_nil ?_; intro w7 hb; replace hb : Below _ _ _ := hb; replace HB := HB.trans (hb.mono HB.size); clear hb)
    (repeat (first | (with_reducible first | refine xA ?_ | refine xB ?_ | refine xC ?_ | refine xD ?_ | refine xH ?_ | refine xI rfl ?_ | refine xE ?_ | refine xF ?_ | refine xG ?_) | go_values | go_skip | go_guarded | go_step | go_upon | go_back | ((with_reducible show Oper.upon _ _ _ _ _ _); go_simp) | (dsimp only)))
    go_ret
    exact ⟨ret_int (by rw [Herr.out, if_neg (by simp [t1, t2]), if_neg t3]), HB⟩
set_option maxHeartbeats 2000000 in
theorem rrightn_1 (op wd n k0 k1 k2 : Int) (ao : Option Addr) (cap : Nat) (w : World) (hk : kidsI op = 1) :
    Calls Tryz.prog 51 #[.agg #[.int .i64 op, .int .i64 wd, .int .u64 n, .int .i64 k0, .int .i64 k1, .int .i64 k2], .slice ao 0 cap] w fun e w' => e = .returned (.int .i64 (rightE ⟨op, wd, n, k0, k1, k2⟩ [])) ∧ Below w.heap.size w w' := by
  go_enter Tryz.func51, Tryz.ntmps51
  (repeat' (first | (with_reducible first | refine xA ?_ | refine xB ?_ | refine xC ?_ | refine xD ?_ | refine xH ?_ | refine xI rfl ?_ | refine xE ?_ | refine xF ?_ | refine xG ?_) | go_skip | go_guarded | (go_at_call 41; (with_reducible refine (rkids_anyX _ 1 _ hk (by omega)).mono ?_); rintro e w1 ⟨rfl, rfl⟩) | (with_reducible refine wp_loop_rounds 4 ?_) | rw [rounds_succ] | go_values | go_skip | go_guarded | go_step | go_upon | go_back | ((with_reducible show Oper.upon _ _ _ _ _ _); go_simp) | (dsimp only)))
  all_goals
    first | (exfalso; omega) | skip
    go_ret
    exact ⟨ret_int (by simp_all [rightE, kidsR, kidW]), by (repeat (first | with_reducible exact Below.refl _ _ | assumption | with_reducible refine below_drewN ?_ _ | with_reducible refine Below.drew ?_ | with_reducible refine Below.setRow ?_ ?_ _ | with_reducible refine Below.alloc ?_ ?_ _ | with_reducible refine Below.setCell ?_ ?_ _ | with_reducible exact Nat.le_refl _ | (focus (simp; done)) | (focus (simp; omega)) | omega))⟩
set_option maxHeartbeats 2000000 in
theorem rrightn_2 (op wd n k0 k1 k2 : Int) (ao : Option Addr) (cap : Nat) (w : World) (hk : kidsI op = 2) :
    Calls Tryz.prog 51 #[.agg #[.int .i64 op, .int .i64 wd, .int .u64 n, .int .i64 k0, .int .i64 k1, .int .i64 k2], .slice ao 0 cap] w fun e w' => e = .returned (.int .i64 (rightE ⟨op, wd, n, k0, k1, k2⟩ [])) ∧ Below w.heap.size w w' := by
  go_enter Tryz.func51, Tryz.ntmps51
  (repeat' (first | (with_reducible first | refine xA ?_ | refine xB ?_ | refine xC ?_ | refine xD ?_ | refine xH ?_ | refine xI rfl ?_ | refine xE ?_ | refine xF ?_ | refine xG ?_) | go_skip | go_guarded | (go_at_call 41; (with_reducible refine (rkids_anyX _ 2 _ hk (by omega)).mono ?_); rintro e w1 ⟨rfl, rfl⟩) | (with_reducible refine wp_loop_rounds 4 ?_) | rw [rounds_succ] | go_values | go_skip | go_guarded | go_step | go_upon | go_back | ((with_reducible show Oper.upon _ _ _ _ _ _); go_simp) | (dsimp only)))
  all_goals
    first | (exfalso; omega) | skip
    go_ret
    exact ⟨ret_int (by simp_all [rightE, kidsR, kidW]), by (repeat (first | with_reducible exact Below.refl _ _ | assumption | with_reducible refine below_drewN ?_ _ | with_reducible refine Below.drew ?_ | with_reducible refine Below.setRow ?_ ?_ _ | with_reducible refine Below.alloc ?_ ?_ _ | with_reducible refine Below.setCell ?_ ?_ _ | with_reducible exact Nat.le_refl _ | (focus (simp; done)) | (focus (simp; omega)) | omega))⟩
set_option maxHeartbeats 2000000 in
theorem rrightn_3 (op wd n k0 k1 k2 : Int) (ao : Option Addr) (cap : Nat) (w : World) (hk : kidsI op = 3) :
    Calls Tryz.prog 51 #[.agg #[.int .i64 op, .int .i64 wd, .int .u64 n, .int .i64 k0, .int .i64 k1, .int .i64 k2], .slice ao 0 cap] w fun e w' => e = .returned (.int .i64 (rightE ⟨op, wd, n, k0, k1, k2⟩ [])) ∧ Below w.heap.size w w' := by
  go_enter Tryz.func51, Tryz.ntmps51
  (repeat' (first | (with_reducible first | refine xA ?_ | refine xB ?_ | refine xC ?_ | refine xD ?_ | refine xH ?_ | refine xI rfl ?_ | refine xE ?_ | refine xF ?_ | refine xG ?_) | go_skip | go_guarded | (go_at_call 41; (with_reducible refine (rkids_anyX _ 3 _ hk (by omega)).mono ?_); rintro e w1 ⟨rfl, rfl⟩) | (with_reducible refine wp_loop_rounds 4 ?_) | rw [rounds_succ] | go_values | go_skip | go_guarded | go_step | go_upon | go_back | ((with_reducible show Oper.upon _ _ _ _ _ _); go_simp) | (dsimp only)))
  all_goals
    first | (exfalso; omega) | skip
    go_ret
    exact ⟨ret_int (by simp_all [rightE, kidsR, kidW]), by (repeat (first | with_reducible exact Below.refl _ _ | assumption | with_reducible refine below_drewN ?_ _ | with_reducible refine Below.drew ?_ | with_reducible refine Below.setRow ?_ ?_ _ | with_reducible refine Below.alloc ?_ ?_ _ | with_reducible refine Below.setCell ?_ ?_ _ | with_reducible exact Nat.le_refl _ | (focus (simp; done)) | (focus (simp; omega)) | omega))⟩
end Go.Proofs.YtmaogkgjiplckaaGreat

