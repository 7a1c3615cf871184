import Derived.Test.YtmaogkgjiplckaaGreatQR3
import Derived.Laws.ResultCell
import Derived.Test.YtmaogkgjiplckaaGreatQR4
import Derived.Test.YtmaogkgjiplckaaGreatQR5
set_option linter.unusedVariables false
set_option linter.unusedSimpArgs false
namespace Go.Proofs.YtmaogkgjiplckaaGreat
open Go.RowKit
theorem below_drewN {B : Nat} {w w' : World} (h : Below B w w') (n : Nat) : Below B w (w'.drewN n) :=
  h.trans ⟨rfl, rfl, rfl, Nat.le_refl _, fun _ _ => rfl⟩
structure Nd where
  op : Int
  w : Int
  n : Int
  k0 : Int
  k1 : Int
  k2 : Int
deriving DecidableEq
def Nd.cells (d : Nd) : List Value := [.int .i64 d.op, .int .i64 d.w, .int .u64 d.n, .int .i64 d.k0, .int .i64 d.k1, .int .i64 d.k2]
def kidsI (op : Int) : Int := if op < 5 ∨ 24 < op then 0 else if op ≤ 7 then 1 else if op ≤ 21 ∨ op = 23 then 2 else 3
set_option maxHeartbeats 400000 in
theorem kids_any (op : Int) (w : World) :
    Calls Tryz.prog 73 #[.int .i64 op] w fun e w' => e = .returned (.int .i64 (kidsI op)) ∧ w = w' := by
  go_enter Tryz.func73, Tryz.ntmps73
  (repeat' (first | (with_reducible first | refine xA ?_ | refine xB ?_ | refine xC ?_ | refine xD ?_ | refine xH ?_ | refine xI rfl ?_ | refine xE ?_ | refine xF ?_ | refine xG ?_) | go_values | go_skip | go_guarded | go_step | go_upon | go_back | ((with_reducible show Oper.upon _ _ _ _ _ _); go_simp) | (dsimp only)))
  all_goals
    go_ret
    exact ⟨ret_int (by unfold kidsI; first | (simp_all; done) | (simp_all; omega)), rfl⟩
def leafB (op wd : Int) : Bool := if op = 0 then wd == 1 || wd == 8 || wd == 64 else if op = 1 then wd == 8 else if op = 2 then wd == 64 else wd == 0
def wideB (op wd a b c : Int) : Bool :=
  if op = 5 then a != 0 && wd == a
  else if op = 6 then wd == 64 && (a == 1 || a == 8)
  else if op = 7 then wd == 8 && a == 64
  else if op = 19 ∨ op = 20 ∨ op = 21 then wd == 1 && a != 0 && a == b
  else if op = 22 then a == 1 && b != 0 && b == c && wd == b
  else if op = 23 then wd == 8 && a == 0 && b == 64
  else if op = 24 then wd == 0 && a == 0 && b == 64 && c == 8
  else if kidsI op = 0 then leafB op wd
  else a != 0 && a == b && wd == a
set_option maxHeartbeats 400000 in
theorem leaf_any (op wd n k0 k1 k2 : Int) (w : World) :
    Calls Tryz.prog 74 #[.agg #[.int .i64 op, .int .i64 wd, .int .u64 n, .int .i64 k0, .int .i64 k1, .int .i64 k2]] w fun e w' => e = .returned (.bool (leafB op wd)) ∧ Below w.heap.size w w' := by
  go_enter Tryz.func74, Tryz.ntmps74
  (repeat' (first | (with_reducible first | refine xA ?_ | refine xB ?_ | refine xC ?_ | refine xD ?_ | refine xH ?_ | refine xI rfl ?_ | refine xE ?_ | refine xF ?_ | refine xG ?_) | go_values | go_skip | go_guarded | go_step | go_upon | go_back | ((with_reducible show Oper.upon _ _ _ _ _ _); go_simp) | (dsimp only)))
  all_goals
    go_ret
    exact ⟨ret_bool (by unfold leafB; simp_all), by (repeat (first | with_reducible exact Below.refl _ _ | assumption | with_reducible refine below_drewN ?_ _ | with_reducible refine Below.drew ?_ | with_reducible refine Below.setRow ?_ ?_ _ | with_reducible refine Below.alloc ?_ ?_ _ | with_reducible refine Below.setCell ?_ ?_ _ | with_reducible exact Nat.le_refl _ | (focus (simp; done)) | (focus (simp; omega)) | omega))⟩
set_option maxHeartbeats 1000000 in
theorem wide_any (op wd n k0 k1 k2 a b c : Int) (w : World) :
    Calls Tryz.prog 59 #[.agg #[.int .i64 op, .int .i64 wd, .int .u64 n, .int .i64 k0, .int .i64 k1, .int .i64 k2], .agg #[.int .i64 a, .int .i64 b, .int .i64 c]] w fun e w' => e = .returned (.bool (wideB op wd a b c)) ∧ Below w.heap.size w w' := by
  by_cases h19 : op = 19
  · subst h19
    go_enter Tryz.func59, Tryz.ntmps59
    (repeat' (first | (with_reducible first | refine xA ?_ | refine xB ?_ | refine xC ?_ | refine xD ?_ | refine xH ?_ | refine xI rfl ?_ | refine xE ?_ | refine xF ?_ | refine xG ?_) | go_values | go_skip | go_guarded | go_step | go_upon | go_back | ((with_reducible show Oper.upon _ _ _ _ _ _); go_simp) | (dsimp only)))
    all_goals
      go_ret
      exact ⟨ret_bool (by unfold wideB; simp_all), by (repeat (first | with_reducible exact Below.refl _ _ | assumption | with_reducible refine below_drewN ?_ _ | with_reducible refine Below.drew ?_ | with_reducible refine Below.setRow ?_ ?_ _ | with_reducible refine Below.alloc ?_ ?_ _ | with_reducible refine Below.setCell ?_ ?_ _ | with_reducible exact Nat.le_refl _ | (focus (simp; done)) | (focus (simp; omega)) | omega))⟩
  by_cases h20 : op = 20
  · subst h20
    go_enter Tryz.func59, Tryz.ntmps59
    (repeat' (first | (with_reducible first | refine xA ?_ | refine xB ?_ | refine xC ?_ | refine xD ?_ | refine xH ?_ | refine xI rfl ?_ | refine xE ?_ | refine xF ?_ | refine xG ?_) | go_values | go_skip | go_guarded | go_step | go_upon | go_back | ((with_reducible show Oper.upon _ _ _ _ _ _); go_simp) | (dsimp only)))
    all_goals
      go_ret
      exact ⟨ret_bool (by unfold wideB; simp_all), by (repeat (first | with_reducible exact Below.refl _ _ | assumption | with_reducible refine below_drewN ?_ _ | with_reducible refine Below.drew ?_ | with_reducible refine Below.setRow ?_ ?_ _ | with_reducible refine Below.alloc ?_ ?_ _ | with_reducible refine Below.setCell ?_ ?_ _ | with_reducible exact Nat.le_refl _ | (focus (simp; done)) | (focus (simp; omega)) | omega))⟩
  by_cases h21 : op = 21
  · subst h21
    go_enter Tryz.func59, Tryz.ntmps59
    (repeat' (first | (with_reducible first | refine xA ?_ | refine xB ?_ | refine xC ?_ | refine xD ?_ | refine xH ?_ | refine xI rfl ?_ | refine xE ?_ | refine xF ?_ | refine xG ?_) | go_values | go_skip | go_guarded | go_step | go_upon | go_back | ((with_reducible show Oper.upon _ _ _ _ _ _); go_simp) | (dsimp only)))
    all_goals
      go_ret
      exact ⟨ret_bool (by unfold wideB; simp_all), by (repeat (first | with_reducible exact Below.refl _ _ | assumption | with_reducible refine below_drewN ?_ _ | with_reducible refine Below.drew ?_ | with_reducible refine Below.setRow ?_ ?_ _ | with_reducible refine Below.alloc ?_ ?_ _ | with_reducible refine Below.setCell ?_ ?_ _ | with_reducible exact Nat.le_refl _ | (focus (simp; done)) | (focus (simp; omega)) | omega))⟩
  have f19 : (op == 19) = false := by simpa using h19
  have f20 : (op == 20) = false := by simpa using h20
  have f21 : (op == 21) = false := by simpa using h21
  go_enter Tryz.func59, Tryz.ntmps59
  (repeat' (first | (with_reducible first | refine xA ?_ | refine xB ?_ | refine xC ?_ | refine xD ?_ | refine xH ?_ | refine xI rfl ?_ | refine xE ?_ | refine xF ?_ | refine xG ?_) | go_skip | go_guarded | (go_at_call 73; (with_reducible refine (kids_any _ _).mono ?_); rintro e w1 ⟨rfl, rfl⟩) | (go_at_call 74; (with_reducible refine (leaf_any _ _ _ _ _ _ _).mono ?_); rintro e w1 ⟨rfl, hb⟩) | go_values | go_skip | go_guarded | go_step | go_upon | go_back | ((with_reducible show Oper.upon _ _ _ _ _ _); go_simp) | (dsimp only)))
  all_goals
    go_ret
    exact ⟨ret_bool (by unfold wideB; simp_all), by first | ((repeat (first | with_reducible exact Below.refl _ _ | assumption | with_reducible refine below_drewN ?_ _ | with_reducible refine Below.drew ?_ | with_reducible refine Below.setRow ?_ ?_ _ | with_reducible refine Below.alloc ?_ ?_ _ | with_reducible refine Below.setCell ?_ ?_ _ | with_reducible exact Nat.le_refl _ | (focus (simp; done)) | (focus (simp; omega)) | omega)); done) | exact Below.trans (by (repeat (first | with_reducible exact Below.refl _ _ | assumption | with_reducible refine below_drewN ?_ _ | with_reducible refine Below.drew ?_ | with_reducible refine Below.setRow ?_ ?_ _ | with_reducible refine Below.alloc ?_ ?_ _ | with_reducible refine Below.setCell ?_ ?_ _ | with_reducible exact Nat.le_refl _ | (focus (simp; done)) | (focus (simp; omega)) | omega))) (hb.mono (by simp; omega))⟩
def numB (op wd n : Int) : Bool := if op = 0 then (if wd = 1 then n / 2 == 0 else if wd = 8 then n / 256 == 0 else true) else if op = 1 then decide (n < 16) else if op = 2 then decide (n < 8) else n == 0
def mostI (op wd : Int) : Int := if op = 0 then (if wd = 1 then 1 else if wd = 8 then 255 else 18446744073709551615) else if op = 1 then 15 else if op = 2 then 7 else 0
set_option maxHeartbeats 400000 in
theorem number_any (op wd n k0 k1 k2 : Int) (w : World) (hn : 0 ≤ n) (h : op = 0 → wd = 1 ∨ wd = 8 ∨ wd = 64) :
    Calls Tryz.prog 60 #[.agg #[.int .i64 op, .int .i64 wd, .int .u64 n, .int .i64 k0, .int .i64 k1, .int .i64 k2]] w fun e w' => e = .returned (.bool (numB op wd n)) ∧ Below w.heap.size w w' := by
  by_cases h0 : op = 0
  · subst h0
    rcases h rfl with rfl | rfl | rfl
    all_goals
      clear h
      go_enter Tryz.func60, Tryz.ntmps60
      (repeat' (first | (with_reducible first | refine xA ?_ | refine xB ?_ | refine xC ?_ | refine xD ?_ | refine xH ?_ | refine xI rfl ?_ | refine xE ?_ | refine xF ?_ | refine xG ?_) | go_values | go_skip | go_guarded | go_step | go_upon | go_back | ((with_reducible show Oper.upon _ _ _ _ _ _); go_simp) | (dsimp only)))
      all_goals
        go_ret
        exact ⟨ret_bool (by unfold numB; first | rfl | simp_all), by (repeat (first | with_reducible exact Below.refl _ _ | assumption | with_reducible refine below_drewN ?_ _ | with_reducible refine Below.drew ?_ | with_reducible refine Below.setRow ?_ ?_ _ | with_reducible refine Below.alloc ?_ ?_ _ | with_reducible refine Below.setCell ?_ ?_ _ | with_reducible exact Nat.le_refl _ | (focus (simp; done)) | (focus (simp; omega)) | omega))⟩
  have f0 : (op == 0) = false := by simpa using h0
  clear h
  go_enter Tryz.func60, Tryz.ntmps60
  (repeat' (first | (with_reducible first | refine xA ?_ | refine xB ?_ | refine xC ?_ | refine xD ?_ | refine xH ?_ | refine xI rfl ?_ | refine xE ?_ | refine xF ?_ | refine xG ?_) | go_values | go_skip | go_guarded | go_step | go_upon | go_back | ((with_reducible show Oper.upon _ _ _ _ _ _); go_simp) | (dsimp only)))
  all_goals
    go_ret
    exact ⟨ret_bool (by unfold numB; simp_all), by (repeat (first | with_reducible exact Below.refl _ _ | assumption | with_reducible refine below_drewN ?_ _ | with_reducible refine Below.drew ?_ | with_reducible refine Below.setRow ?_ ?_ _ | with_reducible refine Below.alloc ?_ ?_ _ | with_reducible refine Below.setCell ?_ ?_ _ | with_reducible exact Nat.le_refl _ | (focus (simp; done)) | (focus (simp; omega)) | omega))⟩
def widI (op wd a b c : Int) : Int :=
  if op = 0 then (if wd = 1 ∨ wd = 8 ∨ wd = 64 then wd else -1)
  else if op = 1 then 8
  else if op = 2 then 64
  else if op = 3 ∨ op = 4 then 0
  else if op = 5 then (if a = 0 then -1 else a)
  else if op = 6 then (if a = 1 ∨ a = 8 then 64 else -1)
  else if op = 7 then (if a = 64 then 8 else -1)
  else if op = 19 ∨ op = 20 ∨ op = 21 then (if a ≠ 0 ∧ a = b then 1 else -1)
  else if op = 22 then (if a = 1 ∧ b ≠ 0 ∧ b = c then b else -1)
  else if op = 23 then (if a = 0 ∧ b = 64 then 8 else -1)
  else if op = 24 then (if a = 0 ∧ b = 64 ∧ c = 8 then 0 else -1)
  else (if a ≠ 0 ∧ a = b then a else -1)
end Go.Proofs.YtmaogkgjiplckaaGreat
namespace Go.Proofs.YtmaogkgjiplckaaGreat
open Go.RowKit
section
variable {α : Type}
def RowAt (s : Nat) (f : α → List Value) (w : World) (b o : Nat) (ls : List α) : Prop :=
  ∀ i d, ls[i]? = some d → ∀ j c, (f d)[j]? = some c → w.cell? ⟨b, o + (s * i + j), none⟩ = some c
theorem RowAt.below {s : Nat} {f : α → List Value} {w w' : World} {b o : Nat} {ls : List α} (h : RowAt s f w b o ls) (hb : Below w.heap.size w w') : RowAt s f w' b o ls :=
  fun i d hi j c hj => cell_keep hb (h i d hi j c hj)
theorem RowAt.take {s : Nat} {f : α → List Value} {w : World} {b o : Nat} {ls : List α} (h : RowAt s f w b o ls) (k : Nat) : RowAt s f w b o (ls.take k) :=
  fun i d hi j c hj => h i d (by
    rw [List.getElem?_take] at hi
    split at hi
    · exact hi
    · cases hi) j c hj
def SlIs (s : Nat) (f : α → List Value) (w : World) (v : Value) (ls : List α) : Prop :=
  ∃ ao cap, v = .slice ao ls.length cap ∧ ls.length ≤ cap ∧ (ao = none → cap = 0) ∧ (ls ≠ [] → ∃ b o, ao = some ⟨b, o, none⟩ ∧ RowAt s f w b o ls)
theorem SlIs.below {s : Nat} {f : α → List Value} {w w' : World} {v : Value} {ls : List α} (h : SlIs s f w v ls) (hb : Below w.heap.size w w') : SlIs s f w' v ls :=
  let ⟨ao, cap, h1, h2, h3, h4⟩ := h
  ⟨ao, cap, h1, h2, h3, fun hn => let ⟨b, o, e, hr⟩ := h4 hn; ⟨b, o, e, hr.below hb⟩⟩
end
theorem ld3 (w : World) (p : Addr) (n : Int) (h : w.cell? p = some (.int .i64 n)) : (Instr.loadAt 3 (.pointer (some p))).run Tryz.prog w = .ok (.int .i64 n) w := by go_simp
theorem ld49 (w : World) (b o : Nat) (d : Nd) (h : ∀ j c, d.cells[j]? = some c → w.cell? ⟨b, o + j, none⟩ = some c) : (Instr.loadAt 49 (.pointer (some ⟨b, o, none⟩))).run Tryz.prog w = .ok (.agg d.cells.toArray) w := by
  have h0 := h 0 _ rfl
  have h1 := h 1 _ rfl
  have h2 := h 2 _ rfl
  have h3 := h 3 _ rfl
  have h4 := h 4 _ rfl
  have h5 := h 5 _ rfl
  clear h
  simp only [Nat.add_zero] at h0
  unfold Nd.cells
  go_simp
def wAt (ls : List Nd) (k : Int) : Int := ((ls[k.toNat]?).map Nd.w).getD 0
section
variable {ops : Array Oper} {rest : List Oper} {o : Oper} {a : Act} {w : World} {Q : Exit → Act → World → Prop}
theorem wl_ldW {w0 : World} {b off : Nat} {ls : List Nd} (HR : RowAt 6 Nd.cells w0 b off ls) (hb : Below w0.heap.size w0 w) (K : Int) (h0 : 0 ≤ K) (h1 : K < ls.length) (hgd : o.guard = none) (x : Operand) (ho : o.op = .load 3 x)
    (hx : a.eval x = .pointer (some ⟨b, off + K.toNat * 6 + 1, none⟩)) (h : wpList Tryz.prog ops Q rest (a.put o.dst (.int .i64 (wAt ls K))) w) : wpList Tryz.prog ops Q (o :: rest) a w :=
  wpList_plain hgd fun _ hK => by
    have hlt : K.toNat < ls.length := by omega
    have hc := cell_keep hb (HR K.toNat _ (List.getElem?_eq_getElem hlt) 1 _ rfl)
    rw [Nat.mul_comm, ← Nat.add_assoc] at hc
    unfold Oper.wp execOp
    simp only [ho, hx, Sem.run_bind, ld3 w _ _ hc, Result.andThen_ok]
    have e : wAt ls K = ls[K.toNat].w := by unfold wAt; rw [List.getElem?_eq_getElem hlt]; rfl
    rw [← e]
    exact hK _ _ h
end
theorem kids_anyX (op h : Int) (w : World) (e : kidsI op = h) :
    Calls Tryz.prog 73 #[.int .i64 op] w fun e w' => e = .returned (.int .i64 h) ∧ w = w' := by
  rw [← e]; exact kids_any op w
end Go.Proofs.YtmaogkgjiplckaaGreat
namespace Go.Proofs.YtmaogkgjiplckaaGreat
open Go.RowKit
def kidW (has j K : Int) (ls : List Nd) : Option Int := if has ≤ j then (if K = 0 then some 0 else none) else if K < 0 ∨ ls.length ≤ K then none else some (wAt ls K)
def kidsR (op k0 k1 k2 : Int) (ls : List Nd) : Option (Int × Int × Int) :=
  match kidW (kidsI op) 0 k0 ls, kidW (kidsI op) 1 k1 ls, kidW (kidsI op) 2 k2 ls with
  | some a, some b, some c => some (a, b, c)
  | _, _, _ => none
theorem ld47 (w : World) (b : Nat) (x y z : Int) (h0 : w.cell? ⟨b, 0, none⟩ = some (.int .i64 x)) (h1 : w.cell? ⟨b, 1, none⟩ = some (.int .i64 y)) (h2 : w.cell? ⟨b, 2, none⟩ = some (.int .i64 z)) :
    (loadVar 47 ⟨b, 0, none⟩).run Tryz.prog w = .ok (.agg #[.int .i64 x, .int .i64 y, .int .i64 z]) w := by go_simp
def ci (o : Option Value) : Int := match o with | some (.int _ n) => n | _ => 0
theorem post55 {post : Ending → World → Prop} {a : Act} {w : World} (b : Nat) (ok : Bool) (hd : a.defers = []) (hp : a.tmps.getD 4 undef = .pointer (some ⟨b, 0, none⟩)) (hu : a.tmps.getD 5 undef = .bool ok)
    (h0 : w.cell? ⟨b, 0, none⟩ = some (.int .i64 (ci (w.cell? ⟨b, 0, none⟩)))) (h1 : w.cell? ⟨b, 1, none⟩ = some (.int .i64 (ci (w.cell? ⟨b, 1, none⟩)))) (h2 : w.cell? ⟨b, 2, none⟩ = some (.int .i64 (ci (w.cell? ⟨b, 2, none⟩))))
    (h : post (.returned (.tuple #[.agg #[.int .i64 (ci (w.cell? ⟨b, 0, none⟩)), .int .i64 (ci (w.cell? ⟨b, 1, none⟩)), .int .i64 (ci (w.cell? ⟨b, 2, none⟩))], .bool ok])) w) : bodyPost Tryz.prog Tryz.f58 post .ret a w := by
  refine bodyPost_ret ((results_cell_tmp rfl _ _ _).trans ?_) hd h
  rw [hp, hu]
  have e := ld47 w b _ _ _ h0 h1 h2
  simp only [asAddr, Sem.run_pure, Result.andThen_ok, e]
def Kids55 (op k0 k1 k2 : Int) (ls : List Nd) (e : Ending) : Prop :=
  ∃ x y z ok, e = .returned (.tuple #[.agg #[.int .i64 x, .int .i64 y, .int .i64 z], .bool ok]) ∧ kidsR op k0 k1 k2 ls = if ok then some (x, y, z) else none
set_option maxHeartbeats 1000000 in
theorem kids55_0 (op wd n k0 k1 k2 : Int) (b off cap : Nat) (ls : List Nd) (w : World) (hk : kidsI op = 0) (HR : RowAt 6 Nd.cells w b off ls) :
    Calls Tryz.prog 58 #[.agg #[.int .i64 op, .int .i64 wd, .int .u64 n, .int .i64 k0, .int .i64 k1, .int .i64 k2], .slice (some ⟨b, off, none⟩) ls.length cap] w fun e w' =>
      Kids55 op k0 k1 k2 ls e ∧ Below w.heap.size w w' := by
  go_enter Tryz.func58, Tryz.ntmps58
  (repeat' (first | (with_reducible first | refine xA ?_ | refine xB ?_ | refine xC ?_ | refine xD ?_ | refine xH ?_ | refine xI rfl ?_ | refine xE ?_ | refine xF ?_ | refine xG ?_) | go_skip | go_guarded | ((with_reducible refine wl_id ?_); refine wl_ldW HR (by (repeat (first | with_reducible exact Below.refl _ _ | assumption | with_reducible refine below_drewN ?_ _ | with_reducible refine Below.drew ?_ | with_reducible refine Below.setRow ?_ ?_ _ | with_reducible refine Below.alloc ?_ ?_ _ | with_reducible refine Below.setCell ?_ ?_ _ | with_reducible exact Nat.le_refl _ | (focus (simp; done)) | (focus (simp; omega)) | omega))) _ (by omega) (by omega) rfl _ rfl rfl ?_; simp only [Act.put, qz4, qz5, qz6]) | (go_at_call 73; (with_reducible refine (kids_anyX _ 0 _ hk).mono ?_); rintro e w1 ⟨rfl, rfl⟩) | (with_reducible refine wp_loop_rounds 4 ?_) | rw [rounds_succ] | go_values | go_skip | go_guarded | go_step | go_upon | go_back | ((with_reducible show Oper.upon _ _ _ _ _ _); go_simp) | (dsimp only)))
  all_goals
    refine post55 (w.heap.size + 1) _ rfl rfl rfl ?_ ?_ ?_ ⟨⟨_, _, _, _, rfl, ?_⟩, ?_⟩
    · simp [ci, go_sem]
    · simp [ci, go_sem]
    · simp [ci, go_sem]
    · simp_all [ci, go_sem, kidsR, kidW] <;> (repeat rw [if_neg (by omega)])
    · (repeat (first | with_reducible exact Below.refl _ _ | assumption | with_reducible refine below_drewN ?_ _ | with_reducible refine Below.drew ?_ | with_reducible refine Below.setRow ?_ ?_ _ | with_reducible refine Below.alloc ?_ ?_ _ | with_reducible refine Below.setCell ?_ ?_ _ | with_reducible exact Nat.le_refl _ | (focus (simp; done)) | (focus (simp; omega)) | omega))
set_option maxHeartbeats 1000000 in
theorem kids55n_0 (op wd n k0 k1 k2 : Int) (ao : Option Addr) (cap : Nat) (w : World) (hk : kidsI op = 0) :
    Calls Tryz.prog 58 #[.agg #[.int .i64 op, .int .i64 wd, .int .u64 n, .int .i64 k0, .int .i64 k1, .int .i64 k2], .slice ao 0 cap] w fun e w' =>
      Kids55 op k0 k1 k2 [] e ∧ Below w.heap.size w w' := by
  go_enter Tryz.func58, Tryz.ntmps58
  (repeat' (first | (with_reducible first | refine xA ?_ | refine xB ?_ | refine xC ?_ | refine xD ?_ | refine xH ?_ | refine xI rfl ?_ | refine xE ?_ | refine xF ?_ | refine xG ?_) | go_skip | go_guarded | (go_at_call 73; (with_reducible refine (kids_anyX _ 0 _ hk).mono ?_); rintro e w1 ⟨rfl, rfl⟩) | (with_reducible refine wp_loop_rounds 4 ?_) | rw [rounds_succ] | go_values | go_skip | go_guarded | go_step | go_upon | go_back | ((with_reducible show Oper.upon _ _ _ _ _ _); go_simp) | (dsimp only)))
  all_goals
    first | (exfalso; omega) | skip
    refine post55 (w.heap.size + 1) _ rfl rfl rfl ?_ ?_ ?_ ⟨⟨_, _, _, _, rfl, ?_⟩, ?_⟩
    · simp [ci, go_sem]
    · simp [ci, go_sem]
    · simp [ci, go_sem]
    · simp_all [ci, go_sem, kidsR, kidW] <;> (repeat rw [if_neg (by omega)])
    · (repeat (first | with_reducible exact Below.refl _ _ | assumption | with_reducible refine below_drewN ?_ _ | with_reducible refine Below.drew ?_ | with_reducible refine Below.setRow ?_ ?_ _ | with_reducible refine Below.alloc ?_ ?_ _ | with_reducible refine Below.setCell ?_ ?_ _ | with_reducible exact Nat.le_refl _ | (focus (simp; done)) | (focus (simp; omega)) | omega))
set_option maxHeartbeats 1000000 in
theorem kids55_1 (op wd n k0 k1 k2 : Int) (b off cap : Nat) (ls : List Nd) (w : World) (hk : kidsI op = 1) (HR : RowAt 6 Nd.cells w b off ls) :
    Calls Tryz.prog 58 #[.agg #[.int .i64 op, .int .i64 wd, .int .u64 n, .int .i64 k0, .int .i64 k1, .int .i64 k2], .slice (some ⟨b, off, none⟩) ls.length cap] w fun e w' =>
      Kids55 op k0 k1 k2 ls e ∧ Below w.heap.size w w' := by
  go_enter Tryz.func58, Tryz.ntmps58
  (repeat' (first | (with_reducible first | refine xA ?_ | refine xB ?_ | refine xC ?_ | refine xD ?_ | refine xH ?_ | refine xI rfl ?_ | refine xE ?_ | refine xF ?_ | refine xG ?_) | go_skip | go_guarded | ((with_reducible refine wl_id ?_); refine wl_ldW HR (by (repeat (first | with_reducible exact Below.refl _ _ | assumption | with_reducible refine below_drewN ?_ _ | with_reducible refine Below.drew ?_ | with_reducible refine Below.setRow ?_ ?_ _ | with_reducible refine Below.alloc ?_ ?_ _ | with_reducible refine Below.setCell ?_ ?_ _ | with_reducible exact Nat.le_refl _ | (focus (simp; done)) | (focus (simp; omega)) | omega))) _ (by omega) (by omega) rfl _ rfl rfl ?_; simp only [Act.put, qz4, qz5, qz6]) | (go_at_call 73; (with_reducible refine (kids_anyX _ 1 _ hk).mono ?_); rintro e w1 ⟨rfl, rfl⟩) | (with_reducible refine wp_loop_rounds 4 ?_) | rw [rounds_succ] | go_values | go_skip | go_guarded | go_step | go_upon | go_back | ((with_reducible show Oper.upon _ _ _ _ _ _); go_simp) | (dsimp only)))
  all_goals
    refine post55 (w.heap.size + 1) _ rfl rfl rfl ?_ ?_ ?_ ⟨⟨_, _, _, _, rfl, ?_⟩, ?_⟩
    · simp [ci, go_sem]
    · simp [ci, go_sem]
    · simp [ci, go_sem]
    · simp_all [ci, go_sem, kidsR, kidW] <;> (repeat rw [if_neg (by omega)])
    · (repeat (first | with_reducible exact Below.refl _ _ | assumption | with_reducible refine below_drewN ?_ _ | with_reducible refine Below.drew ?_ | with_reducible refine Below.setRow ?_ ?_ _ | with_reducible refine Below.alloc ?_ ?_ _ | with_reducible refine Below.setCell ?_ ?_ _ | with_reducible exact Nat.le_refl _ | (focus (simp; done)) | (focus (simp; omega)) | omega))
set_option maxHeartbeats 1000000 in
theorem kids55n_1 (op wd n k0 k1 k2 : Int) (ao : Option Addr) (cap : Nat) (w : World) (hk : kidsI op = 1) :
    Calls Tryz.prog 58 #[.agg #[.int .i64 op, .int .i64 wd, .int .u64 n, .int .i64 k0, .int .i64 k1, .int .i64 k2], .slice ao 0 cap] w fun e w' =>
      Kids55 op k0 k1 k2 [] e ∧ Below w.heap.size w w' := by
  go_enter Tryz.func58, Tryz.ntmps58
  (repeat' (first | (with_reducible first | refine xA ?_ | refine xB ?_ | refine xC ?_ | refine xD ?_ | refine xH ?_ | refine xI rfl ?_ | refine xE ?_ | refine xF ?_ | refine xG ?_) | go_skip | go_guarded | (go_at_call 73; (with_reducible refine (kids_anyX _ 1 _ hk).mono ?_); rintro e w1 ⟨rfl, rfl⟩) | (with_reducible refine wp_loop_rounds 4 ?_) | rw [rounds_succ] | go_values | go_skip | go_guarded | go_step | go_upon | go_back | ((with_reducible show Oper.upon _ _ _ _ _ _); go_simp) | (dsimp only)))
  all_goals
    first | (exfalso; omega) | skip
    refine post55 (w.heap.size + 1) _ rfl rfl rfl ?_ ?_ ?_ ⟨⟨_, _, _, _, rfl, ?_⟩, ?_⟩
    · simp [ci, go_sem]
    · simp [ci, go_sem]
    · simp [ci, go_sem]
    · simp_all [ci, go_sem, kidsR, kidW] <;> (repeat rw [if_neg (by omega)])
    · (repeat (first | with_reducible exact Below.refl _ _ | assumption | with_reducible refine below_drewN ?_ _ | with_reducible refine Below.drew ?_ | with_reducible refine Below.setRow ?_ ?_ _ | with_reducible refine Below.alloc ?_ ?_ _ | with_reducible refine Below.setCell ?_ ?_ _ | with_reducible exact Nat.le_refl _ | (focus (simp; done)) | (focus (simp; omega)) | omega))
set_option maxHeartbeats 1000000 in
theorem kids55_2 (op wd n k0 k1 k2 : Int) (b off cap : Nat) (ls : List Nd) (w : World) (hk : kidsI op = 2) (HR : RowAt 6 Nd.cells w b off ls) :
    Calls Tryz.prog 58 #[.agg #[.int .i64 op, .int .i64 wd, .int .u64 n, .int .i64 k0, .int .i64 k1, .int .i64 k2], .slice (some ⟨b, off, none⟩) ls.length cap] w fun e w' =>
      Kids55 op k0 k1 k2 ls e ∧ Below w.heap.size w w' := by
  go_enter Tryz.func58, Tryz.ntmps58
  (repeat' (first | (with_reducible first | refine xA ?_ | refine xB ?_ | refine xC ?_ | refine xD ?_ | refine xH ?_ | refine xI rfl ?_ | refine xE ?_ | refine xF ?_ | refine xG ?_) | go_skip | go_guarded | ((with_reducible refine wl_id ?_); refine wl_ldW HR (by (repeat (first | with_reducible exact Below.refl _ _ | assumption | with_reducible refine below_drewN ?_ _ | with_reducible refine Below.drew ?_ | with_reducible refine Below.setRow ?_ ?_ _ | with_reducible refine Below.alloc ?_ ?_ _ | with_reducible refine Below.setCell ?_ ?_ _ | with_reducible exact Nat.le_refl _ | (focus (simp; done)) | (focus (simp; omega)) | omega))) _ (by omega) (by omega) rfl _ rfl rfl ?_; simp only [Act.put, qz4, qz5, qz6]) | (go_at_call 73; (with_reducible refine (kids_anyX _ 2 _ hk).mono ?_); rintro e w1 ⟨rfl, rfl⟩) | (with_reducible refine wp_loop_rounds 4 ?_) | rw [rounds_succ] | go_values | go_skip | go_guarded | go_step | go_upon | go_back | ((with_reducible show Oper.upon _ _ _ _ _ _); go_simp) | (dsimp only)))
  all_goals
    refine post55 (w.heap.size + 1) _ rfl rfl rfl ?_ ?_ ?_ ⟨⟨_, _, _, _, rfl, ?_⟩, ?_⟩
    · simp [ci, go_sem]
    · simp [ci, go_sem]
    · simp [ci, go_sem]
    · simp_all [ci, go_sem, kidsR, kidW] <;> (repeat rw [if_neg (by omega)])
    · (repeat (first | with_reducible exact Below.refl _ _ | assumption | with_reducible refine below_drewN ?_ _ | with_reducible refine Below.drew ?_ | with_reducible refine Below.setRow ?_ ?_ _ | with_reducible refine Below.alloc ?_ ?_ _ | with_reducible refine Below.setCell ?_ ?_ _ | with_reducible exact Nat.le_refl _ | (focus (simp; done)) | (focus (simp; omega)) | omega))
set_option maxHeartbeats 1000000 in
theorem kids55n_2 (op wd n k0 k1 k2 : Int) (ao : Option Addr) (cap : Nat) (w : World) (hk : kidsI op = 2) :
    Calls Tryz.prog 58 #[.agg #[.int .i64 op, .int .i64 wd, .int .u64 n, .int .i64 k0, .int .i64 k1, .int .i64 k2], .slice ao 0 cap] w fun e w' =>
      Kids55 op k0 k1 k2 [] e ∧ Below w.heap.size w w' := by
  go_enter Tryz.func58, Tryz.ntmps58
  (repeat' (first | (with_reducible first | refine xA ?_ | refine xB ?_ | refine xC ?_ | refine xD ?_ | refine xH ?_ | refine xI rfl ?_ | refine xE ?_ | refine xF ?_ | refine xG ?_) | go_skip | go_guarded | (go_at_call 73; (with_reducible refine (kids_anyX _ 2 _ hk).mono ?_); rintro e w1 ⟨rfl, rfl⟩) | (with_reducible refine wp_loop_rounds 4 ?_) | rw [rounds_succ] | go_values | go_skip | go_guarded | go_step | go_upon | go_back | ((with_reducible show Oper.upon _ _ _ _ _ _); go_simp) | (dsimp only)))
  all_goals
    first | (exfalso; omega) | skip
    refine post55 (w.heap.size + 1) _ rfl rfl rfl ?_ ?_ ?_ ⟨⟨_, _, _, _, rfl, ?_⟩, ?_⟩
    · simp [ci, go_sem]
    · simp [ci, go_sem]
    · simp [ci, go_sem]
    · simp_all [ci, go_sem, kidsR, kidW] <;> (repeat rw [if_neg (by omega)])
    · (repeat (first | with_reducible exact Below.refl _ _ | assumption | with_reducible refine below_drewN ?_ _ | with_reducible refine Below.drew ?_ | with_reducible refine Below.setRow ?_ ?_ _ | with_reducible refine Below.alloc ?_ ?_ _ | with_reducible refine Below.setCell ?_ ?_ _ | with_reducible exact Nat.le_refl _ | (focus (simp; done)) | (focus (simp; omega)) | omega))
set_option maxHeartbeats 1000000 in
theorem kids55_3 (op wd n k0 k1 k2 : Int) (b off cap : Nat) (ls : List Nd) (w : World) (hk : kidsI op = 3) (HR : RowAt 6 Nd.cells w b off ls) :
    Calls Tryz.prog 58 #[.agg #[.int .i64 op, .int .i64 wd, .int .u64 n, .int .i64 k0, .int .i64 k1, .int .i64 k2], .slice (some ⟨b, off, none⟩) ls.length cap] w fun e w' =>
      Kids55 op k0 k1 k2 ls e ∧ Below w.heap.size w w' := by
  go_enter Tryz.func58, Tryz.ntmps58
  (repeat' (first | (with_reducible first | refine xA ?_ | refine xB ?_ | refine xC ?_ | refine xD ?_ | refine xH ?_ | refine xI rfl ?_ | refine xE ?_ | refine xF ?_ | refine xG ?_) | go_skip | go_guarded | ((with_reducible refine wl_id ?_); refine wl_ldW HR (by (repeat (first | with_reducible exact Below.refl _ _ | assumption | with_reducible refine below_drewN ?_ _ | with_reducible refine Below.drew ?_ | with_reducible refine Below.setRow ?_ ?_ _ | with_reducible refine Below.alloc ?_ ?_ _ | with_reducible refine Below.setCell ?_ ?_ _ | with_reducible exact Nat.le_refl _ | (focus (simp; done)) | (focus (simp; omega)) | omega))) _ (by omega) (by omega) rfl _ rfl rfl ?_; simp only [Act.put, qz4, qz5, qz6]) | (go_at_call 73; (with_reducible refine (kids_anyX _ 3 _ hk).mono ?_); rintro e w1 ⟨rfl, rfl⟩) | (with_reducible refine wp_loop_rounds 4 ?_) | rw [rounds_succ] | go_values | go_skip | go_guarded | go_step | go_upon | go_back | ((with_reducible show Oper.upon _ _ _ _ _ _); go_simp) | (dsimp only)))
  all_goals
    refine post55 (w.heap.size + 1) _ rfl rfl rfl ?_ ?_ ?_ ⟨⟨_, _, _, _, rfl, ?_⟩, ?_⟩
    · simp [ci, go_sem]
    · simp [ci, go_sem]
    · simp [ci, go_sem]
    · simp_all [ci, go_sem, kidsR, kidW] <;> (repeat rw [if_neg (by omega)])
    · (repeat (first | with_reducible exact Below.refl _ _ | assumption | with_reducible refine below_drewN ?_ _ | with_reducible refine Below.drew ?_ | with_reducible refine Below.setRow ?_ ?_ _ | with_reducible refine Below.alloc ?_ ?_ _ | with_reducible refine Below.setCell ?_ ?_ _ | with_reducible exact Nat.le_refl _ | (focus (simp; done)) | (focus (simp; omega)) | omega))
set_option maxHeartbeats 1000000 in
theorem kids55n_3 (op wd n k0 k1 k2 : Int) (ao : Option Addr) (cap : Nat) (w : World) (hk : kidsI op = 3) :
    Calls Tryz.prog 58 #[.agg #[.int .i64 op, .int .i64 wd, .int .u64 n, .int .i64 k0, .int .i64 k1, .int .i64 k2], .slice ao 0 cap] w fun e w' =>
      Kids55 op k0 k1 k2 [] e ∧ Below w.heap.size w w' := by
  go_enter Tryz.func58, Tryz.ntmps58
  (repeat' (first | (with_reducible first | refine xA ?_ | refine xB ?_ | refine xC ?_ | refine xD ?_ | refine xH ?_ | refine xI rfl ?_ | refine xE ?_ | refine xF ?_ | refine xG ?_) | go_skip | go_guarded | (go_at_call 73; (with_reducible refine (kids_anyX _ 3 _ hk).mono ?_); rintro e w1 ⟨rfl, rfl⟩) | (with_reducible refine wp_loop_rounds 4 ?_) | rw [rounds_succ] | go_values | go_skip | go_guarded | go_step | go_upon | go_back | ((with_reducible show Oper.upon _ _ _ _ _ _); go_simp) | (dsimp only)))
  all_goals
    first | (exfalso; omega) | skip
    refine post55 (w.heap.size + 1) _ rfl rfl rfl ?_ ?_ ?_ ⟨⟨_, _, _, _, rfl, ?_⟩, ?_⟩
    · simp [ci, go_sem]
    · simp [ci, go_sem]
    · simp [ci, go_sem]
    · simp_all [ci, go_sem, kidsR, kidW] <;> (repeat rw [if_neg (by omega)])
    · (repeat (first | with_reducible exact Below.refl _ _ | assumption | with_reducible refine below_drewN ?_ _ | with_reducible refine Below.drew ?_ | with_reducible refine Below.setRow ?_ ?_ _ | with_reducible refine Below.alloc ?_ ?_ _ | with_reducible refine Below.setCell ?_ ?_ _ | with_reducible exact Nat.le_refl _ | (focus (simp; done)) | (focus (simp; omega)) | omega))
end Go.Proofs.YtmaogkgjiplckaaGreat
namespace Go.Proofs.YtmaogkgjiplckaaGreat
open Go.RowKit
theorem SlIs.cases {s : Nat} {f : Nd → List Value} {w : World} {v : Value} {ls : List Nd} (h : SlIs s f w v ls) :
    (∃ ao cap, v = .slice ao 0 cap ∧ ls = []) ∨ (∃ b o cap, v = .slice (some ⟨b, o, none⟩) ls.length cap ∧ ls ≠ [] ∧ RowAt s f w b o ls) := by
  obtain ⟨ao, cap, rfl, _, _, h4⟩ := h
  by_cases e : ls = []
  · subst e; exact .inl ⟨_, _, rfl, rfl⟩
  · obtain ⟨b, o, rfl, hr⟩ := h4 e
    exact .inr ⟨b, o, cap, rfl, e, hr⟩
theorem kidsI_bd (op : Int) : kidsI op = 0 ∨ kidsI op = 1 ∨ kidsI op = 2 ∨ kidsI op = 3 := by
  unfold kidsI; split
  · simp
  · split
    · simp
    · split <;> simp
theorem kids55_any (op wd n k0 k1 k2 : Int) (v : Value) (ls : List Nd) (w : World) (h : SlIs 6 Nd.cells w v ls) :
    Calls Tryz.prog 58 #[.agg #[.int .i64 op, .int .i64 wd, .int .u64 n, .int .i64 k0, .int .i64 k1, .int .i64 k2], v] w fun e w' =>
      Kids55 op k0 k1 k2 ls e ∧ Below w.heap.size w w' := by
  rcases h.cases with ⟨ao, cap, rfl, rfl⟩ | ⟨b, o, cap, rfl, _, HR⟩
  · rcases kidsI_bd op with hk | hk | hk | hk
    · exact kids55n_0 op wd n k0 k1 k2 ao cap w hk
    · exact kids55n_1 op wd n k0 k1 k2 ao cap w hk
    · exact kids55n_2 op wd n k0 k1 k2 ao cap w hk
    · exact kids55n_3 op wd n k0 k1 k2 ao cap w hk
  · rcases kidsI_bd op with hk | hk | hk | hk
    · exact kids55_0 op wd n k0 k1 k2 b o cap ls w hk HR
    · exact kids55_1 op wd n k0 k1 k2 b o cap ls w hk HR
    · exact kids55_2 op wd n k0 k1 k2 b o cap ls w hk HR
    · exact kids55_3 op wd n k0 k1 k2 b o cap ls w hk HR
theorem box_row (w : World) (d : Nd) (t : TypeId) : RowAt 6 Nd.cells (w.alloc (.cells #[.int .i64 d.op, .int .i64 d.w, .int .u64 d.n, .int .i64 d.k0, .int .i64 d.k1, .int .i64 d.k2] t)) w.heap.size 0 [d] := by
  intro i e hi j c hj
  match i, hi with
  | 0, hi =>
    obtain rfl : d = e := by simpa using hi
    match j, hj with
    | 0, hj => obtain rfl : _ = c := by simpa [Nd.cells] using hj
               simp [go_sem]
    | 1, hj => obtain rfl : _ = c := by simpa [Nd.cells] using hj
               simp [go_sem]
    | 2, hj => obtain rfl : _ = c := by simpa [Nd.cells] using hj
               simp [go_sem]
    | 3, hj => obtain rfl : _ = c := by simpa [Nd.cells] using hj
               simp [go_sem]
    | 4, hj => obtain rfl : _ = c := by simpa [Nd.cells] using hj
               simp [go_sem]
    | 5, hj => obtain rfl : _ = c := by simpa [Nd.cells] using hj
               simp [go_sem]
    | j + 6, hj => simp [Nd.cells] at hj
  | i + 1, hi => simp at hi
section
variable {ops : Array Oper} {rest : List Oper} {o : Oper} {a : Act} {w : World} {Q : Exit → Act → World → Prop}
theorem wl_ldNd {w0 : World} {b off : Nat} {ls : List Nd} (HR : RowAt 6 Nd.cells w0 b off ls) (hb : Below w0.heap.size w0 w) (i : Nat) (d : Nd) (hi : ls[i]? = some d) (hgd : o.guard = none) (x : Operand) (ho : o.op = .load 49 x)
    (hx : a.eval x = .pointer (some ⟨b, off + 6 * i, none⟩)) (h : wpList Tryz.prog ops Q rest (a.put o.dst (.agg #[.int .i64 d.op, .int .i64 d.w, .int .u64 d.n, .int .i64 d.k0, .int .i64 d.k1, .int .i64 d.k2])) w) : wpList Tryz.prog ops Q (o :: rest) a w :=
  wpList_plain hgd fun _ hK => by
    have hc := fun j c hj => cell_keep hb (HR i d hi j c hj)
    simp only [← Nat.add_assoc] at hc
    unfold Oper.wp execOp
    simp only [ho, hx, Sem.run_bind, ld49 w _ _ _ hc, Result.andThen_ok]
    exact hK _ _ h
end
def rightE (d : Nd) (ls : List Nd) : Int :=
  if d.op < 0 ∨ 24 < d.op then 4 else
  match kidsR d.op d.k0 d.k1 d.k2 ls with
  | none => 9
  | some (a, b, c) => if wideB d.op d.w a b c then (if numB d.op d.w d.n then 0 else 3) else 8
theorem wide0 {op wd a b c : Int} (h : (!wideB op wd a b c) = false) (h0 : op = 0) : wd = 1 ∨ wd = 8 ∨ wd = 64 := by
  subst h0
  simp [wideB, kidsI, leafB] at h
  omega
set_option maxHeartbeats 1000000 in
theorem right_any (op wd n k0 k1 k2 : Int) (v : Value) (ls : List Nd) (w : World) (h : SlIs 6 Nd.cells w v ls) (hn : 0 ≤ n) :
    Calls Tryz.prog 42 #[.agg #[.int .i64 op, .int .i64 wd, .int .u64 n, .int .i64 k0, .int .i64 k1, .int .i64 k2], v] w fun e w' => e = .returned (.int .i64 (rightE ⟨op, wd, n, k0, k1, k2⟩ ls)) ∧ Below w.heap.size w w' := by
  have HX := box_row w ⟨op, wd, n, k0, k1, k2⟩ 49
  dsimp only at HX
  have HB : Below w.heap.size w (w.alloc (.cells #[.int .i64 op, .int .i64 wd, .int .u64 n, .int .i64 k0, .int .i64 k1, .int .i64 k2] 49)) := by (repeat (first | with_reducible exact Below.refl _ _ | assumption | with_reducible refine below_drewN ?_ _ | with_reducible refine Below.drew ?_ | with_reducible refine Below.setRow ?_ ?_ _ | with_reducible refine Below.alloc ?_ ?_ _ | with_reducible refine Below.setCell ?_ ?_ _ | with_reducible exact Nat.le_refl _ | (focus (simp; done)) | (focus (simp; omega)) | omega))
  go_enter Tryz.func42, Tryz.ntmps42
  (repeat' (first | (with_reducible first | refine xA ?_ | refine xB ?_ | refine xC ?_ | refine xD ?_ | refine xH ?_ | refine xI rfl ?_ | refine xE ?_ | refine xF ?_ | refine xG ?_) | go_skip | go_guarded | (go_at_call 58; (with_reducible refine (kids55_any _ _ _ _ _ _ _ ls _ (h.below (by (repeat (first | with_reducible exact Below.refl _ _ | assumption | with_reducible refine below_drewN ?_ _ | with_reducible refine Below.drew ?_ | with_reducible refine Below.setRow ?_ ?_ _ | with_reducible refine Below.alloc ?_ ?_ _ | with_reducible refine Below.setCell ?_ ?_ _ | with_reducible exact Nat.le_refl _ | (focus (simp; done)) | (focus (simp; omega)) | omega))))).mono ?_); rintro e w1 ⟨⟨x, y, z, ok, rfl, hR⟩, hb⟩; (have hsz := HB.size; replace HX := HX.below (Below.trans (by (repeat (first | with_reducible exact Below.refl _ _ | assumption | with_reducible refine below_drewN ?_ _ | with_reducible refine Below.drew ?_ | with_reducible refine Below.setRow ?_ ?_ _ | with_reducible refine Below.alloc ?_ ?_ _ | with_reducible refine Below.setCell ?_ ?_ _ | with_reducible exact Nat.le_refl _ | (focus (simp; done)) | (focus (simp; omega)) | omega))) (hb.mono (by first | omega | (simp; done) | (simp; omega)))); replace HB := HB.trans (Below.trans (by (repeat (first | with_reducible exact Below.refl _ _ | assumption | with_reducible refine below_drewN ?_ _ | with_reducible refine Below.drew ?_ | with_reducible refine Below.setRow ?_ ?_ _ | with_reducible refine Below.alloc ?_ ?_ _ | with_reducible refine Below.setCell ?_ ?_ _ | with_reducible exact Nat.le_refl _ | (focus (simp; done)) | (focus (simp; omega)) | omega))) (hb.mono (by first | omega | (simp; done) | (simp; omega)))); clear hb)) | (go_at_call 59; (with_reducible refine (wide_any _ _ _ _ _ _ _ _ _ _).mono ?_); rintro e w1 ⟨rfl, hb⟩; (have hsz := HB.size; replace HX := HX.below (Below.trans (by (repeat (first | with_reducible exact Below.refl _ _ | assumption | with_reducible refine below_drewN ?_ _ | with_reducible refine Below.drew ?_ | with_reducible refine Below.setRow ?_ ?_ _ | with_reducible refine Below.alloc ?_ ?_ _ | with_reducible refine Below.setCell ?_ ?_ _ | with_reducible exact Nat.le_refl _ | (focus (simp; done)) | (focus (simp; omega)) | omega))) (hb.mono (by first | omega | (simp; done) | (simp; omega)))); replace HB := HB.trans (Below.trans (by (repeat (first | with_reducible exact Below.refl _ _ | assumption | with_reducible refine below_drewN ?_ _ | with_reducible refine Below.drew ?_ | with_reducible refine Below.setRow ?_ ?_ _ | with_reducible refine Below.alloc ?_ ?_ _ | with_reducible refine Below.setCell ?_ ?_ _ | with_reducible exact Nat.le_refl _ | (focus (simp; done)) | (focus (simp; omega)) | omega))) (hb.mono (by first | omega | (simp; done) | (simp; omega)))); clear hb)) | (go_at_call 60; (with_reducible refine (number_any _ _ _ _ _ _ _ hn (fun h0 => wide0 (by assumption) h0)).mono ?_); rintro e w1 ⟨rfl, hb⟩; (have hsz := HB.size; replace HX := HX.below (Below.trans (by (repeat (first | with_reducible exact Below.refl _ _ | assumption | with_reducible refine below_drewN ?_ _ | with_reducible refine Below.drew ?_ | with_reducible refine Below.setRow ?_ ?_ _ | with_reducible refine Below.alloc ?_ ?_ _ | with_reducible refine Below.setCell ?_ ?_ _ | with_reducible exact Nat.le_refl _ | (focus (simp; done)) | (focus (simp; omega)) | omega))) (hb.mono (by first | omega | (simp; done) | (simp; omega)))); replace HB := HB.trans (Below.trans (by (repeat (first | with_reducible exact Below.refl _ _ | assumption | with_reducible refine below_drewN ?_ _ | with_reducible refine Below.drew ?_ | with_reducible refine Below.setRow ?_ ?_ _ | with_reducible refine Below.alloc ?_ ?_ _ | with_reducible refine Below.setCell ?_ ?_ _ | with_reducible exact Nat.le_refl _ | (focus (simp; done)) | (focus (simp; omega)) | omega))) (hb.mono (by first | omega | (simp; done) | (simp; omega)))); clear hb)) | ((with_reducible refine wl_id ?_); refine wl_ldNd HX (by (repeat (first | with_reducible exact Below.refl _ _ | assumption | with_reducible refine below_drewN ?_ _ | with_reducible refine Below.drew ?_ | with_reducible refine Below.setRow ?_ ?_ _ | with_reducible refine Below.alloc ?_ ?_ _ | with_reducible refine Below.setCell ?_ ?_ _ | with_reducible exact Nat.le_refl _ | (focus (simp; done)) | (focus (simp; omega)) | omega))) 0 _ rfl rfl _ rfl rfl ?_; simp only [Act.put, qz4, qz5, qz6]; (try dsimp only)) | go_values | go_skip | go_guarded | go_step | go_upon | go_back | ((with_reducible show Oper.upon _ _ _ _ _ _); go_simp) | (dsimp only)))
  all_goals
    have hsz := HB.size
    go_ret
    refine ⟨ret_int ?_, by first | ((repeat (first | with_reducible exact Below.refl _ _ | assumption | with_reducible refine below_drewN ?_ _ | with_reducible refine Below.drew ?_ | with_reducible refine Below.setRow ?_ ?_ _ | with_reducible refine Below.alloc ?_ ?_ _ | with_reducible refine Below.setCell ?_ ?_ _ | with_reducible exact Nat.le_refl _ | (focus (simp; done)) | (focus (simp; omega)) | omega)); done) | exact HB | exact HB.trans (by (repeat (first | with_reducible exact Below.refl _ _ | assumption | with_reducible refine below_drewN ?_ _ | with_reducible refine Below.drew ?_ | with_reducible refine Below.setRow ?_ ?_ _ | with_reducible refine Below.alloc ?_ ?_ _ | with_reducible refine Below.setCell ?_ ?_ _ | with_reducible exact Nat.le_refl _ | (focus (simp; done)) | (focus (simp; omega)) | omega)))⟩
    unfold rightE
    simp_all
end Go.Proofs.YtmaogkgjiplckaaGreat
namespace Go.Proofs.YtmaogkgjiplckaaGreat
open Go.RowKit
section
variable {P : Program} {ops : Array Oper} {C : World → Prop} {o : Oper} {a : Act} {K : Act → Prop} {W : World}
theorem wp_abs {c : Code} {Q : Exit → Act → World → Prop} {U : World} (F : World → Prop) (hF : F U) (h : ∀ w, F w → c.wp P Q a w) : c.wp P Q a U := h U hF
end
theorem ld46 (w : World) (p : Addr) (n : Int) (h : w.cell? p = some (.int .u64 n)) : (Instr.loadAt 24 (.pointer (some p))).run Tryz.prog w = .ok (.int .u64 n) w := by go_simp
section
variable {ops : Array Oper} {o : Oper} {a : Act} {K : Act → Prop} {W : World}
theorem quiet_ld3 {p : Addr} {n : Int} (hc : W.cell? p = some (.int .i64 n)) (x : Operand) (ho : o.op = .load 3 x) (hx : a.eval x = .pointer (some p)) (hk : K (a.put o.dst (.int .i64 n))) : o.quiet Tryz.prog a (Cls W) K :=
  quiet_load 3 x ho p hx _ (fun w hw => cell_keep hw hc) (fun w h => ld3 w _ _ h) hk
theorem quiet_ld46 {p : Addr} {n : Int} (hc : W.cell? p = some (.int .u64 n)) (x : Operand) (ho : o.op = .load 24 x) (hx : a.eval x = .pointer (some p)) (hk : K (a.put o.dst (.int .u64 n))) : o.quiet Tryz.prog a (Cls W) K :=
  quiet_load 24 x ho p hx _ (fun w hw => cell_keep hw hc) (fun w h => ld46 w _ _ h) hk
theorem quiet_ldNd {b off : Nat} {ls : List Nd} (HR : RowAt 6 Nd.cells W b off ls) (i : Nat) (d : Nd) (hi : ls[i]? = some d) (x : Operand) (ho : o.op = .load 49 x)
    (hx : a.eval x = .pointer (some ⟨b, off + 6 * i, none⟩)) (hk : K (a.put o.dst (.agg #[.int .i64 d.op, .int .i64 d.w, .int .u64 d.n, .int .i64 d.k0, .int .i64 d.k1, .int .i64 d.k2]))) : o.quiet Tryz.prog a (Cls W) K := by
  refine ⟨_, fun w hw => ?_, hk⟩
  have hc := fun j c hj => cell_keep hw (HR i d hi j c hj)
  simp only [← Nat.add_assoc] at hc
  unfold Oper.quietAt execOp
  simp only [ho, hx, Sem.run_bind, ld49 w _ _ _ hc, Result.andThen_ok]
  exact ⟨rfl, rfl⟩
end
end Go.Proofs.YtmaogkgjiplckaaGreat
namespace Go.Proofs.YtmaogkgjiplckaaGreat
open Go.RowKit
theorem wAt_nn {ls : List Nd} (h : ∀ d ∈ ls, 0 ≤ d.w) (k : Int) : 0 ≤ wAt ls k := by
  unfold wAt
  cases e : ls[k.toNat]? with
  | none => simp
  | some d => simpa using h d (List.mem_of_getElem? e)
theorem cell_x (w : World) (d : Nd) (b : Nat) (h : RowAt 6 Nd.cells w b 0 [d]) : w.cell? ⟨b, 1, none⟩ = some (.int .i64 d.w) ∧ w.cell? ⟨b, 2, none⟩ = some (.int .u64 d.n) :=
  ⟨h 0 d rfl 1 _ rfl, h 0 d rfl 2 _ rfl⟩
def NdWf (d : Nd) : Prop :=
  (-9223372036854775808 ≤ d.op ∧ d.op ≤ 9223372036854775807) ∧ (-9223372036854775808 ≤ d.w ∧ d.w ≤ 9223372036854775807) ∧ (0 ≤ d.n ∧ d.n < 18446744073709551616) ∧
  (-9223372036854775808 ≤ d.k0 ∧ d.k0 ≤ 9223372036854775807) ∧ (-9223372036854775808 ≤ d.k1 ∧ d.k1 ≤ 9223372036854775807) ∧ (-9223372036854775808 ≤ d.k2 ∧ d.k2 ≤ 9223372036854775807)
def chk : List Nd → List Nd → Int × Int
  | _, [] => (0, 0)
  | pre, d :: rest => if pre.length = 65536 then (10, 65536) else if rightE d pre ≠ 0 then (rightE d pre, pre.length) else chk (pre ++ [d]) rest
def tchk (ls : List Nd) : Int × Int := if ls = [] then (11, 0) else chk [] ls
theorem chk_step {ls : List Nd} {k : Nat} {d : Nd} (h : ls[k]? = some d) : chk (ls.take k) (ls.drop k) = if k = 65536 then (10, 65536) else if rightE d (ls.take k) ≠ 0 then (rightE d (ls.take k), (k : Int)) else chk (ls.take (k + 1)) (ls.drop (k + 1)) := by
  have hlt : k < ls.length := by
    rcases Nat.lt_or_ge k ls.length with h1 | h1
    · exact h1
    · rw [List.getElem?_eq_none h1] at h; cases h
  have hd : ls.drop k = d :: ls.drop (k + 1) := by
    rw [List.drop_eq_getElem_cons hlt]
    rw [List.getElem?_eq_getElem hlt] at h
    injection h with h; rw [h]
  have ht : ls.take (k + 1) = ls.take k ++ [d] := by rw [List.take_add_one, h]; rfl
  rw [hd, ht]
  simp only [chk, List.length_take, Nat.min_eq_left (Nat.le_of_lt hlt)]
end Go.Proofs.YtmaogkgjiplckaaGreat
namespace Go.Proofs.YtmaogkgjiplckaaGreat
open Go.RowKit
structure BS where
  g : G
  ws : List (List Int)
  inp : List (List Int)
  reg : List (List Int)
def bs0 : BS := ⟨newG, [], List.replicate 16 [], List.replicate 8 []⟩
def BS.at (b : BS) (k : Int) : List Int := b.ws.getD k.toNat []
def bword (b : BS) (d : Nd) : BS × List Int :=
  if d.op = 0 then (b, constL d.w.toNat d.n.toNat)
  else if d.op = 1 then (if b.inp.getD d.n.toNat [] = [] then (⟨addV b.g 8, b.ws, b.inp.set d.n.toNat (freeL b.g.n 8), b.reg⟩, freeL b.g.n 8) else (b, b.inp.getD d.n.toNat []))
  else if d.op = 2 then (if b.reg.getD d.n.toNat [] = [] then (⟨addV b.g 64, b.ws, b.inp, b.reg.set d.n.toNat (freeL b.g.n 64)⟩, freeL b.g.n 64) else (b, b.reg.getD d.n.toNat []))
  else if d.op = 6 then (b, b.at d.k0 ++ constL (64 - (b.at d.k0).length) 0)
  else if d.op = 7 then (b, (b.at d.k0).take 8)
  else if d.op = 22 then (⟨(chooseG b.g ((b.at d.k0).getD 0 0) (b.at d.k1) (b.at d.k2)).1, b.ws, b.inp, b.reg⟩, (chooseG b.g ((b.at d.k0).getD 0 0) (b.at d.k1) (b.at d.k2)).2)
  else (⟨(resG d.op b.g (b.at d.k0).length (b.at d.k0) (b.at d.k1)).1, b.ws, b.inp, b.reg⟩, (resG d.op b.g (b.at d.k0).length (b.at d.k0) (b.at d.k1)).2)
def BS.push (r : BS × List Int) : BS := ⟨r.1.g, r.1.ws ++ [r.2], r.1.inp, r.1.reg⟩
def bK (ls : List Nd) : Nat → BS
  | 0 => bs0
  | k + 1 => match ls[k]? with
    | some d => .push (bword (bK ls k) d)
    | none => bK ls k
def valD (I R : Nat → Nat) (ls : List Nd) (vs : List Nat) (d : Nd) : Nat :=
  if d.op = 0 then d.n.toNat
  else if d.op = 1 then I d.n.toNat
  else if d.op = 2 then R d.n.toNat
  else if d.op = 6 then vs.getD d.k0.toNat 0
  else if d.op = 7 then vs.getD d.k0.toNat 0 % 256
  else if d.op = 22 then (if vs.getD d.k0.toNat 0 = 1 then vs.getD d.k1.toNat 0 else vs.getD d.k2.toNat 0)
  else (opI d.op (wAt ls d.k0).toNat (vs.getD d.k0.toNat 0 : Nat) (vs.getD d.k1.toNat 0 : Nat)).toNat
def vK (I R : Nat → Nat) (ls : List Nd) : Nat → List Nat
  | 0 => []
  | k + 1 => match ls[k]? with
    | some d => vK I R ls k ++ [valD I R ls (vK I R ls k) d]
    | none => vK I R ls k
theorem vK_len {I R : Nat → Nat} {ls : List Nd} : ∀ k, k ≤ ls.length → (vK I R ls k).length = k := by
  intro k
  induction k with
  | zero => intro _; rfl
  | succ k ih =>
    intro h
    rw [vK, List.getElem?_eq_getElem (show k < ls.length by omega)]
    dsimp only
    rw [List.length_append, ih (by omega)]; rfl
def sayL : List Int → Nat → List Int
  | [], _ => []
  | v :: l, x => (if x % 2 = 1 then v else -v) :: sayL l (x / 2)
theorem sayL_len : ∀ (l : List Int) (x : Nat), (sayL l x).length = l.length
  | [], _ => rfl
  | _ :: l, x => by rw [sayL, List.length_cons, List.length_cons, sayL_len l]
theorem sayL_range (f : Nat → Int) : ∀ (k x : Nat), sayL ((List.range k).map f) x = (List.range k).map fun i => if x.testBit i then f i else -f i := by
  intro k
  induction k generalizing f with
  | zero => intro x; rfl
  | succ k ih =>
    intro x
    rw [List.range_succ_eq_map, List.map_cons, List.map_cons, List.map_map, List.map_map, sayL]
    have h := ih (fun i => f (i + 1)) (x / 2)
    congr 1
    · rw [Nat.testBit_zero]; simp
    · have e : (List.range k).map (f ∘ Nat.succ) = (List.range k).map (fun i => f (i + 1)) := rfl
      rw [e, h]
      refine List.map_congr_left fun i _ => ?_
      show _ = if x.testBit (i + 1) then f (i + 1) else -f (i + 1)
      rw [Nat.testBit_succ]
theorem sayL_free (n k x : Nat) : sayL (freeL n k) x = fromL n k x := by
  unfold freeL fromL
  rw [sayL_range]
def frB (I R : Nat → Nat) (b : BS) : List Int := (List.range 16).flatMap (fun i => sayL (b.inp.getD i []) (I i)) ++ (List.range 8).flatMap (fun i => sayL (b.reg.getD i []) (R i))
theorem GI.congr {g : G} {fr fr' : List Int} {s : Nat → Bool} (h : GI g fr s) (e : ∀ x, x ∈ fr' ↔ x ∈ fr) : GI g fr' s :=
  ⟨h.pos, h.one, h.sat, h.rng, fun v h1 h2 => (h.det v h1 h2).mono (fun _ hc => hc) (fun x hx => (e x).2 hx), fun x hx => h.frm x ((e x).1 hx), h.an, h.xo, h.len⟩
theorem mem_set_flat {f : Nat → Nat} {l : List (List Int)} {i m : Nat} {v : List Int} (hi : i < m) (hl : l.length = m) (h0 : l.getD i [] = []) (x : Int) :
    x ∈ (List.range m).flatMap (fun j => sayL ((l.set i v).getD j []) (f j)) ↔ x ∈ (List.range m).flatMap (fun j => sayL (l.getD j []) (f j)) ∨ x ∈ sayL v (f i) := by
  simp only [List.mem_flatMap, List.mem_range]
  constructor
  · rintro ⟨j, hj, hx⟩
    by_cases e : j = i
    · subst e
      right
      rwa [List.getD_eq_getElem?_getD, List.getElem?_set_self (by omega), Option.getD_some] at hx
    · left
      refine ⟨j, hj, ?_⟩
      rwa [List.getD_eq_getElem?_getD, List.getElem?_set_ne (Ne.symm e), ← List.getD_eq_getElem?_getD] at hx
  · rintro (⟨j, hj, hx⟩ | hx)
    · by_cases e : j = i
      · subst e
        rw [h0] at hx
        simp [sayL] at hx
      · refine ⟨j, hj, ?_⟩
        rwa [List.getD_eq_getElem?_getD, List.getElem?_set_ne (Ne.symm e), ← List.getD_eq_getElem?_getD]
    · refine ⟨i, hi, ?_⟩
      rwa [List.getD_eq_getElem?_getD, List.getElem?_set_self (by omega), Option.getD_some]
inductive NF (ls : List Nd) (j : Nat) (d : Nd) : Prop
  | const (h : d.op = 0) (hw : d.w = 1 ∨ d.w = 8 ∨ d.w = 64) (hn : 0 ≤ d.n) (hN : d.n.toNat < 2 ^ d.w.toNat) (z : d.k0 = 0 ∧ d.k1 = 0 ∧ d.k2 = 0)
  | input (h : d.op = 1) (hw : d.w = 8) (hn : 0 ≤ d.n) (hN : d.n < 16)
  | reg (h : d.op = 2) (hw : d.w = 64) (hn : 0 ≤ d.n) (hN : d.n < 8)
  | not (h : d.op = 5) (a : Nat) (ha : d.k0 = a) (haj : a < j) (hw : wAt ls a = d.w) (h0 : d.w ≠ 0) (z : d.k1 = 0)
  | wide (h : d.op = 6) (a : Nat) (ha : d.k0 = a) (haj : a < j) (hw : d.w = 64) (hx : wAt ls a = 1 ∨ wAt ls a = 8)
  | low (h : d.op = 7) (a : Nat) (ha : d.k0 = a) (haj : a < j) (hw : d.w = 8) (hx : wAt ls a = 64)
  | two (h : 8 ≤ d.op ∧ d.op ≤ 18) (a b : Nat) (ha : d.k0 = a) (hb : d.k1 = b) (haj : a < j) (hbj : b < j) (hx : wAt ls a = d.w) (hy : wAt ls b = d.w) (h0 : d.w ≠ 0)
  | test (h : 19 ≤ d.op ∧ d.op ≤ 21) (a b : Nat) (ha : d.k0 = a) (hb : d.k1 = b) (haj : a < j) (hbj : b < j) (hx : wAt ls b = wAt ls a) (h0 : wAt ls a ≠ 0) (hw : d.w = 1)
  | choice (h : d.op = 22) (a b c : Nat) (ha : d.k0 = a) (hb : d.k1 = b) (hc : d.k2 = c) (haj : a < j) (hbj : b < j) (hcj : c < j) (h1 : wAt ls a = 1) (hx : wAt ls b = d.w) (hy : wAt ls c = d.w) (h0 : d.w ≠ 0)
def noArr (d : Nd) : Prop := d.op ≠ 3 ∧ d.op ≠ 4 ∧ d.op ≠ 23 ∧ d.op ≠ 24
theorem wAt_take {ls : List Nd} {j a : Nat} (h : a < j) : wAt (ls.take j) a = wAt ls a := by
  unfold wAt
  rw [List.getElem?_take, if_pos (by simpa using h)]
theorem kidW_in {has j : Int} {K x : Int} {ls : List Nd} (h : kidW has j K ls = some x) (hj : j < has) : ∃ a : Nat, K = a ∧ a < ls.length ∧ x = wAt ls a := by
  unfold kidW at h
  rw [if_neg (by omega)] at h
  split at h
  · cases h
  · injection h with h
    exact ⟨K.toNat, by omega, by omega, by rw [← h]; congr 1; omega⟩
theorem kidW_out {has j : Int} {K x : Int} {ls : List Nd} (h : kidW has j K ls = some x) (hj : has ≤ j) : K = 0 ∧ x = 0 := by
  unfold kidW at h
  rw [if_pos hj] at h
  split at h
  · rename_i h0
    injection h with h
    exact ⟨h0, h.symm⟩
  · cases h
theorem nf_of {ls : List Nd} {j : Nat} {d : Nd} (hj : j ≤ ls.length) (h : rightE d (ls.take j) = 0) (ha : noArr d) (hwf : NdWf d) : NF ls j d := by
  have hl : (ls.take j).length = j := by rw [List.length_take]; omega
  obtain ⟨n3, n4, n23, n24⟩ := ha
  obtain ⟨-, -, ⟨hn0, hn1⟩, -⟩ := hwf
  unfold rightE at h
  split at h
  · cases h
  rename_i hop
  split at h
  · cases h
  rename_i a b c hk
  split at h
  case isFalse => cases h
  rename_i hw
  split at h
  case isFalse => cases h
  rename_i hnum
  unfold kidsR at hk
  split at hk
  case h_2 => cases hk
  rename_i x y z hx hy hz
  injection hk with hk
  injection hk with e1 e2
  injection e2 with e2 e3
  subst e1; subst e2; subst e3
  have hc : d.op = 0 ∨ d.op = 1 ∨ d.op = 2 ∨ d.op = 5 ∨ d.op = 6 ∨ d.op = 7 ∨ (8 ≤ d.op ∧ d.op ≤ 18) ∨ (19 ≤ d.op ∧ d.op ≤ 21) ∨ d.op = 22 := by omega
  rcases hc with e | e | e | e | e | e | e | e | e
  · have hK : kidsI d.op = 0 := by rw [e]; rfl
    rw [hK] at hx hy hz
    rw [e] at hw hnum
    simp only [wideB, leafB, numB, kidsI] at hw hnum
    simp at hw hnum
    refine .const e (by omega) hn0 ?_ ⟨(kidW_out hx (by decide)).1, (kidW_out hy (by decide)).1, (kidW_out hz (by decide)).1⟩
    rcases hw with (h | h) | h
    all_goals
      rw [h] at hnum ⊢
      simp at hnum ⊢
      try omega
  · rw [e] at hw hnum
    simp only [wideB, leafB, numB, kidsI] at hw hnum
    simp at hw hnum
    exact .input e hw hn0 hnum
  · rw [e] at hw hnum
    simp only [wideB, leafB, numB, kidsI] at hw hnum
    simp at hw hnum
    exact .reg e hw hn0 hnum
  · have hK : kidsI d.op = 1 := by rw [e]; rfl
    rw [hK] at hx hy hz
    obtain ⟨A, h1, h2, rfl⟩ := kidW_in hx (by decide)
    rw [hl] at h2
    rw [wAt_take h2] at hw
    rw [e] at hw
    simp only [wideB] at hw
    simp at hw
    exact .not e A h1 h2 hw.2.symm (by rw [hw.2]; exact hw.1) (kidW_out hy (by decide)).1
  · have hK : kidsI d.op = 1 := by rw [e]; rfl
    rw [hK] at hx hy hz
    obtain ⟨A, h1, h2, rfl⟩ := kidW_in hx (by decide)
    rw [hl] at h2
    rw [wAt_take h2] at hw
    rw [e] at hw
    simp only [wideB] at hw
    simp at hw
    exact .wide e A h1 h2 hw.1 hw.2
  · have hK : kidsI d.op = 1 := by rw [e]; rfl
    rw [hK] at hx hy hz
    obtain ⟨A, h1, h2, rfl⟩ := kidW_in hx (by decide)
    rw [hl] at h2
    rw [wAt_take h2] at hw
    rw [e] at hw
    simp only [wideB] at hw
    simp at hw
    exact .low e A h1 h2 hw.1 hw.2
  · have hK : kidsI d.op = 2 := by unfold kidsI; rw [if_neg (by omega), if_neg (by omega), if_pos (by omega)]
    rw [hK] at hx hy hz
    obtain ⟨A, h1, h2, rfl⟩ := kidW_in hx (by decide)
    obtain ⟨B, h3, h4, rfl⟩ := kidW_in hy (by decide)
    rw [hl] at h2 h4
    rw [wAt_take h2, wAt_take h4] at hw
    unfold wideB at hw
    rw [if_neg (by omega), if_neg (by omega), if_neg (by omega), if_neg (by omega), if_neg (by omega), if_neg (by omega), if_neg (by omega), if_neg (by omega)] at hw
    simp at hw
    exact .two e A B h1 h3 h2 h4 hw.2.symm (by rw [← hw.1.2]; exact hw.2.symm) (by rw [hw.2]; exact hw.1.1)
  · have hK : kidsI d.op = 2 := by unfold kidsI; rw [if_neg (by omega), if_neg (by omega), if_pos (by omega)]
    rw [hK] at hx hy hz
    obtain ⟨A, h1, h2, rfl⟩ := kidW_in hx (by decide)
    obtain ⟨B, h3, h4, rfl⟩ := kidW_in hy (by decide)
    rw [hl] at h2 h4
    rw [wAt_take h2, wAt_take h4] at hw
    unfold wideB at hw
    rw [if_neg (by omega), if_neg (by omega), if_neg (by omega), if_pos (by omega)] at hw
    simp at hw
    exact .test e A B h1 h3 h2 h4 hw.2.symm hw.1.2 hw.1.1
  · have hK : kidsI d.op = 3 := by rw [e]; rfl
    rw [hK] at hx hy hz
    obtain ⟨A, h1, h2, rfl⟩ := kidW_in hx (by decide)
    obtain ⟨B, h3, h4, rfl⟩ := kidW_in hy (by decide)
    obtain ⟨C, h5, h6, rfl⟩ := kidW_in hz (by decide)
    rw [hl] at h2 h4 h6
    rw [wAt_take h2, wAt_take h4, wAt_take h6] at hw
    rw [e] at hw
    simp only [wideB] at hw
    simp at hw
    exact .choice e A B C h1 h3 h5 h2 h4 h6 hw.1.1.1 hw.2.symm (by rw [← hw.1.2]; exact hw.2.symm) (by rw [hw.2]; exact hw.1.1.2)
theorem NF.wd {ls : List Nd} {j : Nat} {d : Nd} (h : NF ls j d) (hp : ∀ a, a < j → wAt ls a = 1 ∨ wAt ls a = 8 ∨ wAt ls a = 64) : d.w = 1 ∨ d.w = 8 ∨ d.w = 64 := by
  cases h with
  | const _ hw => exact hw
  | input _ hw => exact .inr (.inl hw)
  | reg _ hw => exact .inr (.inr hw)
  | not _ a _ haj hw => rw [← hw]; exact hp a haj
  | wide _ _ _ _ hw => exact .inr (.inr hw)
  | low _ _ _ _ hw => exact .inr (.inl hw)
  | two _ a _ _ _ haj _ hx => rw [← hx]; exact hp a haj
  | test _ _ _ _ _ _ _ _ _ hw => exact .inl hw
  | choice _ _ b _ _ _ _ _ hbj _ _ hx => rw [← hx]; exact hp b hbj
def TF (ls : List Nd) : Prop := ∀ j d, ls[j]? = some d → NF ls j d
theorem wAt_get {ls : List Nd} {j : Nat} {d : Nd} (h : ls[j]? = some d) : wAt ls j = d.w := by
  unfold wAt
  rw [Int.toNat_natCast, h]
  rfl
theorem TF.wd {ls : List Nd} (h : TF ls) : ∀ (j : Nat), j < ls.length → wAt ls j = 1 ∨ wAt ls j = 8 ∨ wAt ls j = 64 := by
  intro j
  induction j using Nat.strongRecOn with
  | _ j ih =>
    intro hj
    have hd := List.getElem?_eq_getElem hj
    rw [wAt_get hd]
    exact (h j _ hd).wd fun a ha => ih a ha (by omega)
theorem chk_ok {ls : List Nd} : ∀ k, k ≤ ls.length → ls.length ≤ 65536 → chk (ls.take k) (ls.drop k) = (0, 0) → ∀ j d, k ≤ j → ls[j]? = some d → rightE d (ls.take j) = 0 := by
  intro k hk hm h j d hkj hd
  have hjl : j < ls.length := by
    rcases Nat.lt_or_ge j ls.length with h1 | h1
    · exact h1
    · rw [List.getElem?_eq_none h1] at hd; cases hd
  obtain ⟨m, rfl⟩ : ∃ m, j = k + m := ⟨j - k, by omega⟩
  induction m generalizing k with
  | zero =>
    simp only [Nat.add_zero] at hd hjl ⊢
    rw [chk_step hd, if_neg (by omega)] at h
    split at h
    · rename_i hne
      exact absurd (congrArg Prod.fst h) hne
    · rename_i hne
      exact Decidable.not_not.1 hne
  | succ m ih =>
    have hk2 : k < ls.length := by omega
    rw [chk_step (List.getElem?_eq_getElem hk2), if_neg (by omega)] at h
    split at h
    · rename_i hne
      exact absurd (congrArg Prod.fst h) hne
    · have e : k + (m + 1) = k + 1 + m := by omega
      rw [e] at hd hjl ⊢
      exact ih (k + 1) (by omega) h (by omega) hd hjl
theorem tf_of {ls : List Nd} (h : tchk ls = (0, 0)) (hm : ls.length ≤ 65536) (ha : ∀ d ∈ ls, noArr d) (hwf : ∀ d ∈ ls, NdWf d) : TF ls ∧ ls ≠ [] := by
  unfold tchk at h
  split at h
  · injection h with h1 _; cases h1
  rename_i hne
  refine ⟨fun j d hd => ?_, hne⟩
  have hjl : j < ls.length := by
    rcases Nat.lt_or_ge j ls.length with h1 | h1
    · exact h1
    · rw [List.getElem?_eq_none h1] at hd; cases hd
  exact nf_of (by omega) (chk_ok 0 (by omega) hm (by simpa using h) j d (by omega) hd) (ha d (List.mem_of_getElem? hd)) (hwf d (List.mem_of_getElem? hd))
end Go.Proofs.YtmaogkgjiplckaaGreat
namespace Go.Proofs.YtmaogkgjiplckaaGreat
open Go.RowKit
section
variable {g : G} {fr : List Int} {s : Nat → Bool} {n : Nat} {xs ys : List Int}
theorem shift_small (hn : n ≤ 64) : (3 * n + 1) * n + 3 * n ≤ 13000 := by
  have := Nat.mul_le_mul (show 3 * n + 1 ≤ 193 by omega) hn
  omega
theorem applyG_small {op : Int} (hI : GI g fr s) (hx : ∀ x ∈ xs, isL g.n x) (hy : ∀ y ∈ ys, isL g.n y) (hxn : xs.length = n) (hyn : ys.length = n) (hn1 : 1 ≤ n) (hn : n ≤ 64) (h8 : 8 ≤ op) (h21 : op ≤ 21) (hs : op < 10 ∨ 12 < op ∨ n ≤ 8) : (applyG op g n xs ys).1.n ≤ g.n + 13000 := by
  have hl := hxn.trans hyn.symm
  have hz := constL_isL (n := n) (x := 0) hI.pos
  have hsz := shift_small hn
  have hr : ∀ a ∈ xs.reverse, isL g.n a := fun a ha => hx a (List.mem_reverse.1 ha)
  have hdiv : n ≤ 8 → 8 * (n + 1) * n ≤ 13000 := fun h => Nat.le_trans (Nat.mul_le_mul (Nat.mul_le_mul_left 8 (show n + 1 ≤ 9 by omega)) h) (by decide)
  have hmul : n ≤ 8 → 6 * n * n ≤ 13000 := fun h => Nat.le_trans (Nat.mul_le_mul (Nat.mul_le_mul_left 6 h) h) (by decide)
  have hc : op = 8 ∨ op = 9 ∨ op = 10 ∨ op = 11 ∨ op = 12 ∨ op = 13 ∨ op = 14 ∨ op = 15 ∨ op = 16 ∨ op = 17 ∨ op = 18 ∨ op = 19 ∨ op = 20 ∨ op = 21 := by omega
  rcases hc with rfl | rfl | rfl | rfl | rfl | rfl | rfl | rfl | rfl | rfl | rfl | rfl | rfl | rfl
  · obtain ⟨_, _, _, h, _⟩ := sumN_ok hI (isL_one hI).neg hx hy hl
    show (sumG g xs ys (-1)).1.n ≤ _
    omega
  · obtain ⟨_, _, _, h, _⟩ := sub_ok hI hx hy hl
    show (sumG g xs (notL ys) 1).1.n ≤ _
    omega
  · obtain ⟨_, _, _, h, _⟩ := prod_ok ys 0 g s (constL n 0) hI hx hz hy (by rw [constL_len, hxn])
    rw [hxn, hyn] at h
    have := hmul (by omega)
    show (prodG g (constL n 0) xs 0 ys).1.n ≤ _
    omega
  · obtain ⟨_, _, _, h, _⟩ := div_ok xs.reverse g s (constL n 0) [] hI hr hz hy (by simp) (by rw [constL_len, hyn])
    rw [List.length_reverse, hxn, hyn] at h
    have := hdiv (by omega)
    show (divG g xs.reverse (constL n 0) ys []).1.n ≤ _
    omega
  · obtain ⟨_, _, _, h, _⟩ := div_ok xs.reverse g s (constL n 0) [] hI hr hz hy (by simp) (by rw [constL_len, hyn])
    rw [List.length_reverse, hxn, hyn] at h
    have := hdiv (by omega)
    show (divG g xs.reverse (constL n 0) ys []).1.n ≤ _
    omega
  · obtain ⟨_, _, _, h, _⟩ := andN_ok hI hx hy hl
    show (zipG both g xs ys).1.n ≤ _
    omega
  · obtain ⟨_, _, _, h, _⟩ := orN_ok hI hx hy hl
    show (zipG either g xs ys).1.n ≤ _
    omega
  · obtain ⟨_, _, _, h, _⟩ := xorN_ok hI hx hy hl
    show (zipG odd g xs ys).1.n ≤ _
    omega
  · obtain ⟨_, _, _, h, _⟩ := shift_ok (fr := fr) (i := -1) hn ys 0 g s xs (-1) hI hxn hx hy (isL_one hI).neg (isL_one hI).neg
    rw [hyn] at h
    show (shiftG g xs ys 0 (-1) (-1)).1.n ≤ _
    omega
  · obtain ⟨_, _, _, h, _⟩ := shift_ok (fr := fr) (i := -1) hn ys 0 g s xs.reverse (-1) hI (by rw [List.length_reverse, hxn]) hr hy (isL_one hI).neg (isL_one hI).neg
    rw [hyn] at h
    show (shiftG g xs.reverse ys 0 (-1) (-1)).1.n ≤ _
    omega
  · obtain ⟨_, _, _, h, _⟩ := shift_ok (fr := fr) (i := xs.getD (n - 1) 0) hn ys 0 g s xs.reverse (-1) hI (by rw [List.length_reverse, hxn]) hr hy (isL_one hI).neg (top_isL hx hxn hn1)
    rw [hyn] at h
    show (shiftG g xs.reverse ys 0 (-1) (xs.getD (n - 1) 0)).1.n ≤ _
    omega
  · obtain ⟨_, _, _, h, _⟩ := same_ok xs ys g s 1 hI (isL_one hI) hx hy hl
    show (sameG g 1 xs ys).1.n ≤ _
    omega
  · obtain ⟨_, _, _, h, _⟩ := less_ok hI hx hy hl
    show (lessG g xs ys).1.n ≤ _
    omega
  · obtain ⟨_, _, _, h, _⟩ := less_ok hI (set_isL (k := n - 1) hx (top_isL hx hxn hn1).neg) (set_isL (k := n - 1) hy (top_isL hy hyn hn1).neg) (by rw [List.length_set, List.length_set]; exact hl)
    rw [List.length_set] at h
    show (lessG g (xs.set (n - 1) (-(xs.getD (n - 1) 0))) (ys.set (n - 1) (-(ys.getD (n - 1) 0)))).1.n ≤ _
    omega
end
def heavyD (d : Nd) : Prop := 10 ≤ d.op ∧ d.op ≤ 12 ∧ d.w = 64
instance (d : Nd) : Decidable (heavyD d) := by unfold heavyD; exact inferInstance
def costD (d : Nd) : Nat := if heavyD d then 40000 else 13000
structure WInv (g : G) (s : Nat → Bool) (l : List Int) (w v : Nat) : Prop where
  len : l.length = w
  isl : ∀ x ∈ l, isL g.n x
  num : num s l = v
theorem WInv.step {g g' : G} {s s' : Nat → Bool} {l : List Int} {w v : Nat} (h : WInv g s l w v) (k : Step g s g' s') : WInv g' s' l w v :=
  ⟨h.len, fun x hx => k.isL (h.isl x hx), (numS k h.isl).trans h.num⟩
structure BI (I R : Nat → Nat) (ls : List Nd) (k : Nat) (b : BS) (s : Nat → Bool) : Prop where
  gi : GI b.g (frB I R b) s
  len : b.ws.length = k
  il : b.inp.length = 16
  rl : b.reg.length = 8
  ws : ∀ j : Nat, j < k → WInv b.g s (b.at j) (wAt ls j).toNat ((vK I R ls k).getD j 0)
  inp : ∀ i, i < 16 → b.inp.getD i [] = [] ∨ WInv b.g s (b.inp.getD i []) 8 (I i)
  reg : ∀ i, i < 8 → b.reg.getD i [] = [] ∨ WInv b.g s (b.reg.getD i []) 64 (R i)
theorem bi_start (I R : Nat → Nat) (ls : List Nd) : BI I R ls 0 bs0 (fun _ => true) := by
  refine ⟨?_, rfl, rfl, rfl, fun j h => absurd h (by omega), fun i hi => .inl ?_, fun i hi => .inl ?_⟩
  · have e : frB I R bs0 = [] := rfl
    rw [e]; exact newG_ok
  · show (List.replicate 16 ([] : List Int)).getD i [] = []
    rw [List.getD_eq_getElem?_getD, List.getElem?_replicate, if_pos hi]; rfl
  · show (List.replicate 8 ([] : List Int)).getD i [] = []
    rw [List.getD_eq_getElem?_getD, List.getElem?_replicate, if_pos hi]; rfl
theorem at_push (r : BS × List Int) {k : Nat} (hl : r.1.ws.length = k) (j : Nat) (hj : j ≤ k) : (BS.push r).at j = if j = k then r.2 else r.1.at j := by
  unfold BS.at BS.push
  simp only [Int.toNat_natCast]
  rw [List.getD_eq_getElem?_getD, List.getElem?_append, hl]
  split
  · rw [if_neg (by omega), List.getD_eq_getElem?_getD]
  · rw [if_pos (by omega), show j - k = 0 by omega]; rfl
structure StepOk (I R : Nat → Nat) (ls : List Nd) (k : Nat) (b : BS) (s : Nat → Bool) (d : Nd) (r : BS × List Int) (s' : Nat → Bool) : Prop where
  ws : r.1.ws = b.ws
  gi : GI r.1.g (frB I R r.1) s'
  st : Step b.g s r.1.g s'
  il : r.1.inp.length = 16
  rl : r.1.reg.length = 8
  inp : ∀ i, i < 16 → r.1.inp.getD i [] = [] ∨ WInv r.1.g s' (r.1.inp.getD i []) 8 (I i)
  reg : ∀ i, i < 8 → r.1.reg.getD i [] = [] ∨ WInv r.1.g s' (r.1.reg.getD i []) 64 (R i)
  wd : WInv r.1.g s' r.2 d.w.toNat (valD I R ls (vK I R ls k) d)
  n : r.1.g.n ≤ b.g.n + costD d
theorem StepOk.push {I R : Nat → Nat} {ls : List Nd} {k : Nat} {b : BS} {s s' : Nat → Bool} {d : Nd} {r : BS × List Int} (h : StepOk I R ls k b s d r s') (hB : BI I R ls k b s) (hd : ls[k]? = some d) : BI I R ls (k + 1) (.push r) s' := by
  have hkl : k < ls.length := by
    rcases Nat.lt_or_ge k ls.length with h1 | h1
    · exact h1
    · rw [List.getElem?_eq_none h1] at hd; cases hd
  have hvl := vK_len (I := I) (R := R) (ls := ls) k (by omega)
  have hrl : r.1.ws.length = k := by rw [h.ws]; exact hB.len
  have hv : vK I R ls (k + 1) = vK I R ls k ++ [valD I R ls (vK I R ls k) d] := by rw [vK, hd]
  refine ⟨h.gi, by show (r.1.ws ++ [r.2]).length = k + 1; rw [List.length_append, hrl]; rfl, h.il, h.rl, fun j hj => ?_, h.inp, h.reg⟩
  rw [at_push r hrl j (by omega), hv, List.getD_eq_getElem?_getD, List.getElem?_append, hvl]
  by_cases e : j = k
  · subst e
    rw [if_pos rfl, if_neg (by omega), Nat.sub_self, wAt_get hd]
    exact h.wd
  · rw [if_neg e, if_pos (by omega), ← List.getD_eq_getElem?_getD]
    have := (hB.ws j (by omega)).step h.st
    have ea : r.1.at j = b.at j := by unfold BS.at; rw [h.ws]
    rw [ea]
    exact this
theorem bv_app0 (l m : List Bool) : bv (l ++ m) = bv l + 2 ^ l.length * bv m := by
  induction l with
  | nil => simp [bv]
  | cons a l ih => rw [List.cons_append, bv, ih, bv, List.length_cons, Nat.pow_succ, Nat.mul_add, Nat.mul_comm (2 ^ l.length) 2, Nat.mul_assoc]; omega
theorem constL_num0 {s : Nat → Bool} (h : s 1 = true) (n x : Nat) : num s (constL n x) = x % 2 ^ n := by
  unfold num
  rw [constL_lit h, bv_bits]
theorem getD_set_self {l : List (List Int)} {i : Nat} (v : List Int) (hi : i < l.length) : (l.set i v).getD i [] = v := by
  rw [List.getD_eq_getElem?_getD, List.getElem?_set_self hi]; rfl
theorem getD_set_ne {l : List (List Int)} {i j : Nat} (v : List Int) (hi : i ≠ j) : (l.set i v).getD j [] = l.getD j [] := by
  rw [List.getD_eq_getElem?_getD, List.getElem?_set_ne hi, ← List.getD_eq_getElem?_getD]
theorem step_gate {I R : Nat → Nat} {ls : List Nd} {k : Nat} {b : BS} {s s' : Nat → Bool} {d : Nd} {g' : G} {l : List Int} (hB : BI I R ls k b s) (hi : GI g' (frB I R b) s') (hs : Step b.g s g' s') (hw : WInv g' s' l d.w.toNat (valD I R ls (vK I R ls k) d)) (hn : g'.n ≤ b.g.n + costD d) :
    StepOk I R ls k b s d (⟨g', b.ws, b.inp, b.reg⟩, l) s' :=
  ⟨rfl, hi, hs, hB.il, hB.rl, fun i h => (hB.inp i h).imp id (fun w => w.step hs), fun i h => (hB.reg i h).imp id (fun w => w.step hs), hw, hn⟩
theorem step_same {I R : Nat → Nat} {ls : List Nd} {k : Nat} {b : BS} {s : Nat → Bool} {d : Nd} {l : List Int} (hB : BI I R ls k b s) (hw : WInv b.g s l d.w.toNat (valD I R ls (vK I R ls k) d)) : StepOk I R ls k b s d (b, l) s :=
  ⟨rfl, hB.gi, Step.refl _ _, hB.il, hB.rl, hB.inp, hB.reg, hw, Nat.le_add_right _ _⟩
theorem cost_13 (d : Nd) : 13000 ≤ costD d := by unfold costD; split <;> omega
theorem step_ok {I R : Nat → Nat} {ls : List Nd} {k : Nat} {b : BS} {s : Nat → Bool} {d : Nd} (hT : TF ls) (hB : BI I R ls k b s) (hd : ls[k]? = some d) (hI : ∀ i, I i < 256) (hR : ∀ i, R i < 18446744073709551616) : ∃ s', StepOk I R ls k b s d (bword b d) s' := by
  have hkl : k < ls.length := by
    rcases Nat.lt_or_ge k ls.length with h1 | h1
    · exact h1
    · rw [List.getElem?_eq_none h1] at hd; cases hd
  have hc13 := cost_13 d
  have wd : ∀ a : Nat, a < k → wAt ls a = 1 ∨ wAt ls a = 8 ∨ wAt ls a = 64 := fun a ha => hT.wd a (by omega)
  have kw : ∀ {K : Int} {a : Nat}, K = a → a < k → WInv b.g s (b.at K) (wAt ls a).toNat ((vK I R ls k).getD K.toNat 0) := fun {K a} e ha => by rw [e, Int.toNat_natCast]; exact hB.ws a ha
  have hdw := (hT k d hd).wd wd
  have hres : ∀ (m : Nat), okOp d.op → (b.at d.k0).length = m → (d.op = 5 ∨ (b.at d.k1).length = m) → 1 ≤ m → m ≤ 64 → (∀ x ∈ b.at d.k0, isL b.g.n x) → (d.op = 5 ∨ ∀ x ∈ b.at d.k1, isL b.g.n x) → (d.w.toNat = if 19 ≤ d.op then 1 else m) → (wAt ls d.k0).toNat = m → num s (b.at d.k0) = (vK I R ls k).getD d.k0.toNat 0 → (d.op = 5 ∨ num s (b.at d.k1) = (vK I R ls k).getD d.k1.toNat 0) → (10 ≤ d.op ∧ d.op ≤ 12 → (m : Int) = d.w) → (m = 1 ∨ m = 8 ∨ m = 64) →
      d.op ≠ 0 → d.op ≠ 1 → d.op ≠ 2 → d.op ≠ 6 → d.op ≠ 7 → d.op ≠ 22 → ∃ s', StepOk I R ls k b s d (bword b d) s' := by
    intro m ho hl0 hl1 h1 h64 hx hy hw hwm hv0 hv1 hm hm3 n0 n1 n2 n6 n7 n22
    have e : bword b d = (⟨(resG d.op b.g m (b.at d.k0) (b.at d.k1)).1, b.ws, b.inp, b.reg⟩, (resG d.op b.g m (b.at d.k0) (b.at d.k1)).2) := by
      unfold bword; rw [if_neg n0, if_neg n1, if_neg n2, if_neg n6, if_neg n7, if_neg n22, hl0]
    have ev : valD I R ls (vK I R ls k) d = (opI d.op m ((vK I R ls k).getD d.k0.toNat 0 : Nat) ((vK I R ls k).getD d.k1.toNat 0 : Nat)).toNat := by
      unfold valD; rw [if_neg n0, if_neg n1, if_neg n2, if_neg n6, if_neg n7, if_neg n22, hwm]
    by_cases h5 : d.op = 5
    · have e5 : resG d.op b.g m (b.at d.k0) (b.at d.k1) = resG d.op b.g m (b.at d.k0) (b.at d.k0) := by unfold resG; rw [if_pos h5, if_pos h5]
      obtain ⟨s', a1, a2, a3, a4, a5, a6⟩ := resG_ok hB.gi hx hx hl0 hl0 h1 h64 ho
      rw [e, e5]
      refine ⟨s', step_gate hB a1 a2 ⟨by rw [a5, hw], a4, ?_⟩ ?_⟩
      · have eo : ∀ y z : Int, opI d.op m (num s (b.at d.k0)) y = opI d.op m (num s (b.at d.k0)) z := by intro y z; unfold opI; rw [if_pos h5, if_pos h5]
        rw [ev, ← hv0, eo _ (num s (b.at d.k0))]
        omega
      · have : (resG d.op b.g m (b.at d.k0) (b.at d.k0)).1 = b.g := by unfold resG; rw [if_pos h5]
        rw [this]; omega
    · replace hl1 := hl1.resolve_left h5
      replace hy := hy.resolve_left h5
      replace hv1 := hv1.resolve_left h5
      obtain ⟨s', a1, a2, a3, a4, a5, a6⟩ := resG_ok hB.gi hx hy hl0 hl1 h1 h64 ho
      rw [e]
      refine ⟨s', step_gate hB a1 a2 ⟨by rw [a5, hw], a4, ?_⟩ ?_⟩
      · rw [ev, ← hv0, ← hv1]
        omega
      · by_cases hh : heavyD d
        · unfold costD; rw [if_pos hh]; exact a3
        · have hsm : d.op < 10 ∨ 12 < d.op ∨ m ≤ 8 := by
            unfold heavyD at hh
            rcases Decidable.em (d.op < 10) with h | h
            · exact .inl h
            rcases Decidable.em (12 < d.op) with h' | h'
            · exact .inr (.inl h')
            have := hm ⟨by omega, by omega⟩
            right; right
            rcases hm3 with h3 | h3 | h3
            · omega
            · omega
            · exact absurd ⟨by omega, by omega, by omega⟩ hh
          have ho2 : 8 ≤ d.op ∧ d.op ≤ 21 := by unfold okOp at ho; omega
          have er : resG d.op b.g m (b.at d.k0) (b.at d.k1) = applyG d.op b.g m (b.at d.k0) (b.at d.k1) := by unfold resG; rw [if_neg h5]
          rw [er]
          have := applyG_small hB.gi hx hy hl0 hl1 h1 h64 ho2.1 ho2.2 hsm
          omega
  cases hT k d hd with
  | const h hw hn hN _ =>
    have e : bword b d = (b, constL d.w.toNat d.n.toNat) := by unfold bword; rw [if_pos h]
    have ev : valD I R ls (vK I R ls k) d = d.n.toNat := by unfold valD; rw [if_pos h]
    rw [e]
    exact ⟨s, step_same hB ⟨constL_len _ _, constL_isL hB.gi.pos, by rw [constL_num0 hB.gi.one, ev, Nat.mod_eq_of_lt hN]⟩⟩
  | input h hw hn hN =>
    obtain ⟨i, hi⟩ : ∃ i, d.n.toNat = i := ⟨_, rfl⟩
    have hi16 : i < 16 := by omega
    have ev : valD I R ls (vK I R ls k) d = I i := by unfold valD; rw [if_neg (by omega), if_pos h, hi]
    have ew : d.w.toNat = 8 := by omega
    by_cases h0 : b.inp.getD i [] = []
    · have e : bword b d = (⟨addV b.g 8, b.ws, b.inp.set i (freeL b.g.n 8), b.reg⟩, freeL b.g.n 8) := by unfold bword; rw [if_neg (by omega), if_pos h, hi, if_pos h0]
      obtain ⟨s', a1, a2, a3⟩ := free_many hB.gi (I i) 8
      have hw8 : WInv (addV b.g 8) s' (freeL b.g.n 8) 8 (I i) := ⟨freeL_len _ _, freeL_isL _ _ _ (Nat.le_refl _), by
        unfold num
        rw [freeL_lit _ _ _ a3, bv_bits, Nat.mod_eq_of_lt (hI i)]⟩
      rw [e]
      refine ⟨s', rfl, a1.congr fun x => ?_, a2, by show (b.inp.set i _).length = 16; rw [List.length_set]; exact hB.il, hB.rl, fun j hj => ?_, fun j hj => (hB.reg j hj).imp id fun w => w.step a2, by rw [ew, ev]; exact hw8, by show b.g.n + 8 ≤ _; omega⟩
      · show x ∈ frB I R ⟨addV b.g 8, b.ws, b.inp.set i (freeL b.g.n 8), b.reg⟩ ↔ _
        unfold frB
        rw [List.mem_append, mem_set_flat hi16 hB.il h0, sayL_free, List.mem_append, List.mem_append]
        exact or_right_comm
      · show (b.inp.set i (freeL b.g.n 8)).getD j [] = [] ∨ _
        by_cases ej : i = j
        · subst ej
          right
          show WInv _ _ ((b.inp.set i (freeL b.g.n 8)).getD i []) 8 _
          rw [getD_set_self _ (by rw [hB.il]; exact hi16)]
          exact hw8
        · show _ ∨ WInv _ _ ((b.inp.set i (freeL b.g.n 8)).getD j []) 8 _
          rw [getD_set_ne _ ej]
          exact (hB.inp j hj).imp id fun w => w.step a2
    · have e : bword b d = (b, b.inp.getD i []) := by unfold bword; rw [if_neg (by omega), if_pos h, hi, if_neg h0]
      rw [e]
      exact ⟨s, step_same hB (by rw [ew, ev]; exact (hB.inp i hi16).resolve_left h0)⟩
  | reg h hw hn hN =>
    obtain ⟨i, hi⟩ : ∃ i, d.n.toNat = i := ⟨_, rfl⟩
    have hi8 : i < 8 := by omega
    have ev : valD I R ls (vK I R ls k) d = R i := by unfold valD; rw [if_neg (by omega), if_neg (by omega), if_pos h, hi]
    have ew : d.w.toNat = 64 := by omega
    by_cases h0 : b.reg.getD i [] = []
    · have e : bword b d = (⟨addV b.g 64, b.ws, b.inp, b.reg.set i (freeL b.g.n 64)⟩, freeL b.g.n 64) := by unfold bword; rw [if_neg (by omega), if_neg (by omega), if_pos h, hi, if_pos h0]
      obtain ⟨s', a1, a2, a3⟩ := free_many hB.gi (R i) 64
      have hw8 : WInv (addV b.g 64) s' (freeL b.g.n 64) 64 (R i) := ⟨freeL_len _ _, freeL_isL _ _ _ (Nat.le_refl _), by
        unfold num
        rw [freeL_lit _ _ _ a3, bv_bits, Nat.mod_eq_of_lt (hR i)]⟩
      rw [e]
      refine ⟨s', rfl, a1.congr fun x => ?_, a2, hB.il, by show (b.reg.set i _).length = 8; rw [List.length_set]; exact hB.rl, fun j hj => (hB.inp j hj).imp id fun w => w.step a2, fun j hj => ?_, by rw [ew, ev]; exact hw8, by show b.g.n + 64 ≤ _; omega⟩
      · show x ∈ frB I R ⟨addV b.g 64, b.ws, b.inp, b.reg.set i (freeL b.g.n 64)⟩ ↔ _
        unfold frB
        rw [List.mem_append, mem_set_flat hi8 hB.rl h0, sayL_free, List.mem_append, List.mem_append]
        exact or_assoc.symm
      · show (b.reg.set i (freeL b.g.n 64)).getD j [] = [] ∨ _
        by_cases ej : i = j
        · subst ej
          right
          show WInv _ _ ((b.reg.set i (freeL b.g.n 64)).getD i []) 64 _
          rw [getD_set_self _ (by rw [hB.rl]; exact hi8)]
          exact hw8
        · show _ ∨ WInv _ _ ((b.reg.set i (freeL b.g.n 64)).getD j []) 64 _
          rw [getD_set_ne _ ej]
          exact (hB.reg j hj).imp id fun w => w.step a2
    · have e : bword b d = (b, b.reg.getD i []) := by unfold bword; rw [if_neg (by omega), if_neg (by omega), if_pos h, hi, if_neg h0]
      rw [e]
      exact ⟨s, step_same hB (by rw [ew, ev]; exact (hB.reg i hi8).resolve_left h0)⟩
  | wide h a ha haj hw hx =>
    have W := kw ha haj
    have e : bword b d = (b, b.at d.k0 ++ constL (64 - (b.at d.k0).length) 0) := by unfold bword; rw [if_neg (by omega), if_neg (by omega), if_neg (by omega), if_pos h]
    have ev : valD I R ls (vK I R ls k) d = (vK I R ls k).getD d.k0.toNat 0 := by unfold valD; rw [if_neg (by omega), if_neg (by omega), if_neg (by omega), if_pos h]
    rw [e]
    refine ⟨s, step_same hB ⟨by rw [List.length_append, constL_len, W.len]; omega, fun x hx => (List.mem_append.1 hx).elim (W.isl x) (constL_isL hB.gi.pos x), ?_⟩⟩
    have h0 : bv ((constL (64 - (b.at d.k0).length) 0).map (lit s)) = 0 := (constL_num0 hB.gi.one _ 0).trans (Nat.zero_mod _)
    rw [ev, ← W.num]
    unfold num
    rw [List.map_append, bv_app0, h0]
    omega
  | low h a ha haj hw hx =>
    have W := kw ha haj
    have e : bword b d = (b, (b.at d.k0).take 8) := by unfold bword; rw [if_neg (by omega), if_neg (by omega), if_neg (by omega), if_neg (by omega), if_pos h]
    have ev : valD I R ls (vK I R ls k) d = (vK I R ls k).getD d.k0.toNat 0 % 256 := by unfold valD; rw [if_neg (by omega), if_neg (by omega), if_neg (by omega), if_neg (by omega), if_pos h]
    rw [e]
    exact ⟨s, step_same hB ⟨by rw [List.length_take, W.len]; omega, fun x hx => W.isl x (List.mem_of_mem_take hx), by rw [num_take, ev, W.num]⟩⟩
  | choice h a c e ha hc he haj hcj hej h1 hx hy h0 =>
    have W0 := kw ha haj
    have W1 := kw hc hcj
    have W2 := kw he hej
    have hl0 : (b.at d.k0).length = 1 := by rw [W0.len, h1]; rfl
    obtain ⟨z, hz⟩ : ∃ z, b.at d.k0 = [z] := List.length_eq_one_iff.1 hl0
    have hzl : isL b.g.n z := W0.isl z (by rw [hz]; exact List.mem_singleton.2 rfl)
    have eb : bword b d = (⟨(chooseG b.g z (b.at d.k1) (b.at d.k2)).1, b.ws, b.inp, b.reg⟩, (chooseG b.g z (b.at d.k1) (b.at d.k2)).2) := by
      unfold bword; rw [if_neg (by omega), if_neg (by omega), if_neg (by omega), if_neg (by omega), if_neg (by omega), if_pos h, hz]; rfl
    have ev : valD I R ls (vK I R ls k) d = if (vK I R ls k).getD d.k0.toNat 0 = 1 then (vK I R ls k).getD d.k1.toNat 0 else (vK I R ls k).getD d.k2.toNat 0 := by
      unfold valD; rw [if_neg (by omega), if_neg (by omega), if_neg (by omega), if_neg (by omega), if_neg (by omega), if_pos h]
    have hlen : (b.at d.k1).length = (b.at d.k2).length := by rw [W1.len, W2.len, hx, hy]
    obtain ⟨s', a1, a2, a3, a4, a5⟩ := chooseG_ok hB.gi hzl W1.isl W2.isl hlen
    have hv0 := W0.num
    rw [hz, num_one] at hv0
    rw [eb]
    refine ⟨s', step_gate hB a1 a2 ⟨?_, a4, ?_⟩ ?_⟩
    · have := zipG_len (fun g x y => choice g z x y) (b.at d.k1) (b.at d.k2) b.g hlen
      show (zipG (fun g x y => choice g z x y) b.g (b.at d.k1) (b.at d.k2)).2.length = _
      rw [this, W1.len, hx]
    · unfold num
      rw [a5, ev, ← hv0, ← W1.num, ← W2.num]
      unfold num
      cases lit s z <;> simp
    · have : (b.at d.k1).length ≤ 64 := by rw [W1.len, hx]; omega
      omega
  | not h a ha haj hw h0 z =>
    have W := kw ha haj
    have := wd a haj
    refine hres (wAt ls a).toNat (.inl h) W.len (.inl h) (by omega) (by omega) W.isl (.inl h) (by rw [if_neg (by omega), hw]) (by rw [ha]) W.num (.inl h) (by omega) (by omega) (by omega) (by omega) (by omega) (by omega) (by omega) (by omega)
  | two h a c ha hc haj hcj hx hy h0 =>
    have W := kw ha haj
    have V := kw hc hcj
    have := wd a haj
    refine hres (wAt ls a).toNat (.inr (by omega)) W.len (.inr (by rw [V.len, hx, hy])) (by omega) (by omega) W.isl (.inr V.isl) (by rw [if_neg (by omega), hx]) (by rw [ha]) W.num (.inr V.num) (by omega) (by omega) (by omega) (by omega) (by omega) (by omega) (by omega) (by omega)
  | test h a c ha hc haj hcj hx h0 hw =>
    have W := kw ha haj
    have V := kw hc hcj
    have := wd a haj
    refine hres (wAt ls a).toNat (.inr (by omega)) W.len (.inr (by rw [V.len, hx])) (by omega) (by omega) W.isl (.inr V.isl) (by rw [if_pos (by omega), hw]; rfl) (by rw [ha]) W.num (.inr V.num) (by omega) (by omega) (by omega) (by omega) (by omega) (by omega) (by omega) (by omega)
theorem blast_ok {I R : Nat → Nat} {ls : List Nd} (hT : TF ls) (hI : ∀ i, I i < 256) (hR : ∀ i, R i < 18446744073709551616) : ∀ k, k ≤ ls.length → ∃ s, BI I R ls k (bK ls k) s := by
  intro k
  induction k with
  | zero => intro _; exact ⟨_, bi_start I R ls⟩
  | succ k ih =>
    intro hk
    obtain ⟨s, hs⟩ := ih (by omega)
    have hd := List.getElem?_eq_getElem (show k < ls.length by omega)
    obtain ⟨s', h⟩ := step_ok hT hs hd hI hR
    refine ⟨s', ?_⟩
    have e : bK ls (k + 1) = .push (bword (bK ls k) ls[k]) := by rw [bK, hd]
    rw [e]
    exact h.push hs hd
def costL (ls : List Nd) : Nat := (ls.map costD).sum
theorem blast_n {ls : List Nd} (hT : TF ls) : ∀ k, k ≤ ls.length → (bK ls k).g.n ≤ 1 + costL (ls.take k) := by
  intro k
  induction k with
  | zero => intro _; exact Nat.le_refl _
  | succ k ih =>
    intro hk
    have hd := List.getElem?_eq_getElem (show k < ls.length by omega)
    obtain ⟨s, hs⟩ := blast_ok (I := fun _ => 0) (R := fun _ => 0) hT (fun _ => by decide) (fun _ => by decide) k (by omega)
    obtain ⟨s', h⟩ := step_ok hT hs hd (fun _ => by decide) (fun _ => by decide)
    have e : bK ls (k + 1) = .push (bword (bK ls k) ls[k]) := by rw [bK, hd]
    have ec : costL (ls.take (k + 1)) = costL (ls.take k) + costD ls[k] := by
      unfold costL
      rw [List.take_add_one, hd, List.map_append, List.sum_append]
      simp
    have := h.n
    have := ih (by omega)
    rw [e, ec]
    show (bword (bK ls k) ls[k]).1.g.n ≤ _
    omega
end Go.Proofs.YtmaogkgjiplckaaGreat
namespace Go.Proofs.YtmaogkgjiplckaaGreat
open Go.RowKit
def bcells (c0 c1 c2 : Value) (iv rv : List Value) (lv wv : Value) (gb : Nat) : List Value := [c0, c1, c2] ++ (iv ++ (rv ++ [lv, .pointer (some ⟨gb, 0, none⟩), wv]))
section
variable {c0 c1 c2 : Value} {iv rv : List Value} {lv wv : Value} {gb : Nat}
theorem bc_inp (hi : iv.length = 16) {i : Nat} {v : Value} (h : iv[i]? = some v) : (bcells c0 c1 c2 iv rv lv wv gb)[3 + i]? = some v := by
  have hl := (List.getElem?_eq_some_iff.1 h).1
  unfold bcells
  rw [List.getElem?_append_right (by show 3 ≤ _; omega), show 3 + i - [c0, c1, c2].length = i by simp, List.getElem?_append_left hl]
  exact h
theorem bc_reg (hi : iv.length = 16) (hr : rv.length = 8) {i : Nat} {v : Value} (h : rv[i]? = some v) : (bcells c0 c1 c2 iv rv lv wv gb)[19 + i]? = some v := by
  have hl := (List.getElem?_eq_some_iff.1 h).1
  unfold bcells
  rw [List.getElem?_append_right (by show 3 ≤ _; omega), show 19 + i - [c0, c1, c2].length = 16 + i by simp; omega, List.getElem?_append_right (by omega), hi, show 16 + i - 16 = i by omega, List.getElem?_append_left hl]
  exact h
theorem bc_end (hi : iv.length = 16) (hr : rv.length = 8) (j : Nat) : (bcells c0 c1 c2 iv rv lv wv gb)[27 + j]? = [lv, .pointer (some ⟨gb, 0, none⟩), wv][j]? := by
  unfold bcells
  rw [List.getElem?_append_right (by show 3 ≤ _; omega), show 27 + j - [c0, c1, c2].length = 24 + j by simp; omega, List.getElem?_append_right (by omega), hi, show 24 + j - 16 = 8 + j by omega, List.getElem?_append_right (by omega), hr, show 8 + j - 8 = j by omega]
theorem bc_set_inp (hi : iv.length = 16) (v : Value) {i : Nat} (h : i < 16) : (bcells c0 c1 c2 iv rv lv wv gb).set (3 + i) v = bcells c0 c1 c2 (iv.set i v) rv lv wv gb := by
  unfold bcells
  rw [List.set_append_right _ _ (by show 3 ≤ _; omega), show 3 + i - [c0, c1, c2].length = i by simp, List.set_append_left _ _ (by omega)]
theorem bc_set_reg (hi : iv.length = 16) (hr : rv.length = 8) (v : Value) {i : Nat} (h : i < 8) : (bcells c0 c1 c2 iv rv lv wv gb).set (19 + i) v = bcells c0 c1 c2 iv (rv.set i v) lv wv gb := by
  unfold bcells
  rw [List.set_append_right _ _ (by show 3 ≤ _; omega), show 19 + i - [c0, c1, c2].length = 16 + i by simp; omega, List.set_append_right _ _ (by omega), hi, show 16 + i - 16 = i by omega, List.set_append_left _ _ (by omega)]
theorem bc_set_w (hi : iv.length = 16) (hr : rv.length = 8) (v : Value) : (bcells c0 c1 c2 iv rv lv wv gb).set 29 v = bcells c0 c1 c2 iv rv lv v gb := by
  unfold bcells
  rw [List.set_append_right _ _ (by show 3 ≤ _; omega), show 29 - [c0, c1, c2].length = 26 by simp, List.set_append_right _ _ (by omega), hi, List.set_append_right _ _ (by omega), hr]
  rfl
end
def BZ (X : Nat → Prop) (bb : Nat) (wv : Value) : Nat → Prop := fun k => X k ∧ k ≠ bb ∧ some k ≠ wv.ownBlock
structure BRep (X : Nat → Prop) (base : Nat) (w : World) (bb gb : Nat) (b : BS) (lv : Value) (iv rv : List Value) (wv : Value) (vs : List Value) : Prop where
  box : w.heap[bb]? = some (.cells (bcells (.slice none 0 0) (.int .i64 0) (.slice none 0 0) iv rv lv wv gb).toArray 71 (0, 0))
  xb : X bb
  gr : GR X base w gb b.g
  il : iv.length = 16
  rl : rv.length = 8
  inp : SlsX (BZ X bb wv) w iv b.inp
  reg : SlsX (BZ X bb wv) w rv b.reg
  ni : ∀ (i : Nat) (v : Value), iv[i]? = some v → b.inp[i]? = some [] → v = .slice none 0 0
  nr : ∀ (i : Nat) (v : Value), rv[i]? = some v → b.reg[i]? = some [] → v = .slice none 0 0
  row : w.ownsRow base 31 1 wv vs.length vs
  xw : ∀ k, wv.ownBlock = some k → X k ∧ k ≠ bb
  words : SlsX (BZ X bb wv) w vs b.ws
section
variable {X Y : Nat → Prop} {base bb gb : Nat} {w w' : World} {b : BS} {lv wv : Value} {iv rv vs : List Value}
theorem BRep.cell (h : BRep X base w bb gb b lv iv rv wv vs) (j : Nat) : w.cell? ⟨bb, j, none⟩ = (bcells (.slice none 0 0) (.int .i64 0) (.slice none 0 0) iv rv lv wv gb)[j]? := by
  rw [cell_of_row w bb j _ _ _ h.box, List.getElem?_toArray]
theorem BRep.cg (h : BRep X base w bb gb b lv iv rv wv vs) : w.cell? ⟨bb, 28, none⟩ = some (.pointer (some ⟨gb, 0, none⟩)) := by rw [h.cell, bc_end h.il h.rl 1]; rfl
theorem BRep.cw (h : BRep X base w bb gb b lv iv rv wv vs) : w.cell? ⟨bb, 29, none⟩ = some wv := by rw [h.cell, bc_end h.il h.rl 2]; rfl
theorem BRep.ci (h : BRep X base w bb gb b lv iv rv wv vs) {i : Nat} {v : Value} (hv : iv[i]? = some v) : w.cell? ⟨bb, 3 + i, none⟩ = some v := by rw [h.cell, bc_inp h.il hv]
theorem BRep.cr (h : BRep X base w bb gb b lv iv rv wv vs) {i : Nat} {v : Value} (hv : rv[i]? = some v) : w.cell? ⟨bb, 19 + i, none⟩ = some v := by rw [h.cell, bc_reg h.il h.rl hv]
theorem BRep.lt (h : BRep X base w bb gb b lv iv rv wv vs) : bb < w.heap.size := lt_of_block h.box
theorem BRep.turn (h : BRep X base w bb gb b lv iv rv wv vs) (hk : Kept X w w') {g' : G} (hG : GR Y base w' gb g') (hXY : ∀ k, X k → Y k) : BRep Y base w' bb gb ⟨g', b.ws, b.inp, b.reg⟩ lv iv rv wv vs := by
  have up : ∀ k, k < w.heap.size → BZ X bb wv k → BZ Y bb wv k := fun k _ hz => ⟨hXY k hz.1, hz.2⟩
  have kz : Kept (BZ X bb wv) w w' := hk.mono fun k _ hz => hz.1
  have hs := hk.size
  have mv : ∀ {xs : List Value} {cl : List (List Int)}, SlsX (BZ X bb wv) w xs cl → SlsX (BZ Y bb wv) w' xs cl := fun hx => (hx.kept kz).mono fun k _ hz => ⟨hXY k hz.1, hz.2⟩
  exact ⟨hk.at h.box h.xb, hXY _ h.xb, hG, h.il, h.rl, mv h.inp, mv h.reg, h.ni, h.nr, owns_kept h.row hk fun k e => (h.xw k e).1, fun k e => ⟨hXY k (h.xw k e).1, (h.xw k e).2⟩, mv h.words⟩
theorem BRep.below (h : BRep X base w bb gb b lv iv rv wv vs) (hb : Below w.heap.size w w') : BRep X base w' bb gb b lv iv rv wv vs :=
  h.turn (Kept.ofBelow hb) (h.gr.below hb) fun _ hx => hx
theorem BRep.drew (h : BRep X base w bb gb b lv iv rv wv vs) : BRep X base ({ w with drawn := w.drawn + 1 } : World) bb gb b lv iv rv wv vs :=
  h.below ⟨rfl, rfl, rfl, Nat.le_refl _, fun _ _ => rfl⟩
theorem BRep.word (h : BRep X base w bb gb b lv iv rv wv vs) (a : Nat) (ha : a < b.ws.length) : ∃ q n c x m c', wv = .slice (some ⟨q, 0, none⟩) n c ∧ a < n ∧ w.cell? ⟨q, a, none⟩ = some (.slice x m c') ∧ SlX (BZ X bb wv) w (.slice x m c') (b.at a) ∧ m = (b.at a).length := by
  have hl := h.words.1
  obtain ⟨v, hv⟩ : ∃ v, vs[a]? = some v := ⟨_, List.getElem?_eq_getElem (by omega)⟩
  obtain ⟨l, hl2⟩ : ∃ l, b.ws[a]? = some l := ⟨_, List.getElem?_eq_getElem ha⟩
  have hs := h.words.2 a v l hv hl2
  have el : b.at a = l := by unfold BS.at; rw [Int.toNat_natCast, List.getD_eq_getElem?_getD, hl2]; rfl
  obtain ⟨x, c', rfl⟩ := hs.shape
  rcases h.row with ⟨e1, ⟨rfl, e2⟩ | ⟨q, cap, cur, rfl, e2, e3, e4, e5, e6, e7⟩⟩
  · omega
  · refine ⟨q, vs.length, cap, x, l.length, c', rfl, by omega, ?_, by rw [el]; exact hs, by rw [el]⟩
    have := cell_of_row w q a _ _ _ e3
    rw [this, ← Array.getElem?_toList]
    rw [← e7, List.getElem?_take] at hv
    split at hv
    · exact hv
    · cases hv
end
theorem kid_any (d : Nd) (bb q n c a : Nat) (x : Option Addr) (m c' : Nat) (kk : Int) (w : World) (hw : w.cell? ⟨bb, 29, none⟩ = some (.slice (some ⟨q, 0, none⟩) n c)) (hv : w.cell? ⟨q, a, none⟩ = some (.slice x m c')) (han : a < n) (hk : (kk = 0 ∧ d.k0 = a) ∨ (kk = 1 ∧ d.k1 = a) ∨ (kk = 2 ∧ d.k2 = a)) :
    Calls Tryz.prog 64 #[.pointer (some ⟨bb, 0, none⟩), .agg #[.int .i64 d.op, .int .i64 d.w, .int .u64 d.n, .int .i64 d.k0, .int .i64 d.k1, .int .i64 d.k2], .int .i64 kk] w fun e w' => e = .returned (.slice x m c') ∧ Below w.heap.size w w' := by
  have hb : Below w.heap.size w (w.alloc (.cells #[.int .i64 d.op, .int .i64 d.w, .int .u64 d.n, .int .i64 d.k0, .int .i64 d.k1, .int .i64 d.k2] 49)) := by (repeat (first | with_reducible exact Below.refl _ _ | assumption | with_reducible refine below_drewN ?_ _ | with_reducible refine Below.drew ?_ | with_reducible refine Below.setRow ?_ ?_ _ | with_reducible refine Below.alloc ?_ ?_ _ | with_reducible refine Below.setCell ?_ ?_ _ | with_reducible exact Nat.le_refl _ | (focus (simp; done)) | (focus (simp; omega)) | omega))
  have hw' := cell_keep hb hw
  have hv' := cell_keep hb hv
  have hai : (a : Int) < (n : Int) := by omega
  have HB := Lib.hid hb
  clear hb
  obtain ⟨op, wd, nn, k0, k1, k2⟩ := d
  dsimp only at hk hw' hv' HB ⊢
  rcases hk with ⟨rfl, rfl⟩ | ⟨rfl, rfl⟩ | ⟨rfl, rfl⟩
  all_goals
    go_enter Tryz.func64, Tryz.ntmps64
    (repeat (first | (with_reducible first | refine xA ?_ | refine xB ?_ | refine xC ?_ | refine xD ?_ | refine xH ?_ | refine xI rfl ?_ | refine xE ?_ | refine xF ?_ | refine xG ?_) | go_values | go_skip | go_guarded | go_step | go_upon | go_back | ((with_reducible show Oper.upon _ _ _ _ _ _); go_simp) | (dsimp only)))
    go_quiet (fail)
    (repeat (first | (with_reducible first | refine xA ?_ | refine xB ?_ | refine xC ?_ | refine xD ?_ | refine xH ?_ | refine xI rfl ?_ | refine xE ?_ | refine xF ?_ | refine xG ?_) | go_values | go_skip | go_guarded | go_step | go_upon | go_back | ((with_reducible show Oper.upon _ _ _ _ _ _); go_simp) | (dsimp only)))
    go_ret
    exact ⟨rfl, by first | exact HB.out | ((repeat (first | with_reducible exact Below.refl _ _ | assumption | with_reducible refine below_drewN ?_ _ | with_reducible refine Below.drew ?_ | with_reducible refine Below.setRow ?_ ?_ _ | with_reducible refine Below.alloc ?_ ?_ _ | with_reducible refine Below.setCell ?_ ?_ _ | with_reducible exact Nat.le_refl _ | (focus (simp; done)) | (focus (simp; omega)) | omega)))⟩
end Go.Proofs.YtmaogkgjiplckaaGreat
namespace Go.Proofs.YtmaogkgjiplckaaGreat
open Go.RowKit
theorem keep_cell {w w' : World} {q : Nat} {p : Addr} {c : Value} (hg : w.grownBy w' (some q)) (h : w.cell? p = some c) (hne : p.block ≠ q) : w'.cell? p = some c :=
  (World.cell?_of_block (hg.block p.block (World.block_lt_of_cell? w p h) (fun e => hne (by injection e)))).trans h
def WordB (X : Nat → Prop) (base bb gb : Nat) (lv wv : Value) (vs : List Value) (w : World) (r : BS × List Int) (e : Ending) (w' : World) : Prop :=
  ∃ (v : Value) (Y : Nat → Prop) (iv rv : List Value), e = .returned v ∧ (∀ k, X k → Y k) ∧ BRep Y base w' bb gb r.1 lv iv rv wv vs ∧ SlX (BZ Y bb wv) w' v r.2 ∧ Kept (fun k => X k ∧ k ≠ bb) w w'
theorem freeV {X : Nat → Prop} {base gb : Nat} {g : G} (w : World) (hG : GR X base w gb g) (V : Int) (hV : Hid ((g.n : Int) + 1 = V)) (hn : Hid (g.n < 1048576)) :
    Calls Tryz.prog 75 #[.pointer (some ⟨gb, 0, none⟩)] w fun e w' => e = .returned (.int .i64 V) ∧ GR X base w' gb (addV g 1) ∧ Kept X w w' := by
  rw [← hV.out]; exact Free_any w hG hn.out
set_option maxRecDepth 100000 in
set_option maxHeartbeats 1000000 in
theorem bfree_any {X : Nat → Prop} {base bb gb : Nat} {g : G} (w : World) (hG : GR X base w gb g) (hc : w.cell? ⟨bb, 28, none⟩ = some (.pointer (some ⟨gb, 0, none⟩))) (hx : X bb) (n : Nat) (hn1 : 1 ≤ n) (hn2 : n ≤ 64) (hn : g.n + n ≤ 1048576) :
    Calls Tryz.prog 62 #[.pointer (some ⟨bb, 0, none⟩), .int .i64 n] w fun e w' => e = .returned (.slice (some ⟨w.heap.size, 0, none⟩) n n) ∧ OwnI w' w.heap.size n (freeL g.n n) ∧ GR (fun k => X k ∨ k = w.heap.size) base w' gb (addV g n) ∧ Kept X w w' := by
  have Hn1 := Lib.hid (show n ≤ 1000000 by omega)
  have Hn := Lib.hid hn
  have hnb : (n : Int) ≤ 64 := by omega
  have HG := Lib.hid hG
  have hbl := hG.xb bb hx
  clear hG hn
  go_enter Tryz.func62, Tryz.ntmps62
  (repeat (first | (with_reducible first | refine xA ?_ | refine xB ?_ | refine xC ?_ | refine xD ?_ | refine xH ?_ | refine xI rfl ?_ | refine xE ?_ | refine xF ?_ | refine xG ?_) | go_skip | go_guarded | (at_make; refine wl_make_own rfl _ _ rfl n rfl rfl Hn1.out ?_; intro w1 hO hg; (try simp only [Act.put, qz4, qz5, qz6])) | go_values | go_skip | go_guarded | go_step | go_upon | go_back | ((with_reducible show Oper.upon _ _ _ _ _ _); go_simp) | (dsimp only)))
  have hG1 := HG.out.owned hg (Nat.le_refl _) hO.lt
  have hK1 : Kept X w w1 := ⟨hg.os, hg.tape, hg.output, hg.size, fun i hi _ => hg.block i hi (by simp)⟩
  have hO1 : OwnI w1 w.heap.size n (filled (freeL g.n 0) n) := by simpa [filled, freeL] using hO
  have hc1 := hK1.cell hc hx
  clear hO hg hc
  go_loopw [11] (fun i wr => ∃ k : Nat, k ≤ n ∧ i = .int .i64 k ∧ Hid (OwnI wr w.heap.size n (filled (freeL g.n k) n)) ∧ GR (fun k => X k ∨ k = w.heap.size) base wr gb (addV g k) ∧ Kept X w wr ∧ wr.cell? ⟨bb, 28, none⟩ = some (.pointer (some ⟨gb, 0, none⟩))) (fun i _ => n - (intOf i).toNat)
  case atStart => exact ⟨0, Nat.zero_le _, rfl, Lib.hid hO1, hG1, hK1, hc1⟩
  case round =>
    clear hO1 hG1 hK1 hc1
    obtain ⟨k, hk, rfl, HO, hG, hK, hc⟩ := hrel
    rcases Nat.lt_or_ge k n with hlt | hge
    · obtain ⟨V, hV⟩ : ∃ V : Int, Hid (((addV g k).n : Int) + 1 = V) := ⟨_, Lib.hid rfl⟩
      have hV2 : ((g.n + 1 + k : Nat) : Int) = V := by rw [← hV.out]; show _ = ((g.n + k : Nat) : Int) + 1; omega
      have f0 : (V == 0) = false := by simp; omega
      have HV2 := Lib.hid hV2
      clear hV2
      have HN := Lib.hid (show (addV g k).n < 1048576 by have := Hn.out; show g.n + k < _; omega)
      have hlk : (filled (freeL g.n k) n).length = n := filled_len (by rw [freeL_len]; omega)
      have Hlk := Lib.hid hlk
      clear hlk
      (repeat (first | (with_reducible first | refine xA ?_ | refine xB ?_ | refine xC ?_ | refine xD ?_ | refine xH ?_ | refine xI rfl ?_ | refine xE ?_ | refine xF ?_ | refine xG ?_) | go_skip | go_guarded | (go_at_call 75; (with_reducible refine (freeV _ hG V hV HN).mono ?_); rintro _ w2 ⟨rfl, hG2, hk2⟩; have HO2 := Lib.hid (HO.out.kept hk2 (.inr rfl)); have hK2 := hK.trans (hk2.mono fun _ _ h => .inl h); have hc2 := hk2.cell hc (.inl hx); clear hG hK hc HO hk2) | ((with_reducible refine wl_id ?_); refine wl_store_own rfl _ _ rfl w.heap.size n _ k rfl V rfl HO2.out hlt ?_; intro w3 hO3 hg3; have hG3 := hG2.other hg3 (.inr rfl); have hK3 := hK2.owned hg3 (Nat.le_refl _); have hc3 := keep_cell hg3 hc2 (by show bb ≠ w.heap.size; omega); have hr3 := hO3.row k V (by rw [List.getElem?_set_self (by rw [Hlk.out]; exact hlt)]); rw [Nat.zero_add] at hr3; have HO3 := Lib.hid hO3; clear hO3 hg3 hG2 hK2 hc2 HO2; (try simp only [Act.put, qz4, qz5, qz6])) | go_values | go_skip | go_guarded | go_step | go_upon | go_back | ((with_reducible show Oper.upon _ _ _ _ _ _); go_simp) | (dsimp only)))
      refine ⟨⟨k + 1, by omega, by go_num, Lib.hid ?_, hG3, hK3, hc3⟩, by simp [intOf]; omega⟩
      have h := HO3.out
      rw [freeL_succ, HV2.out]
      have e := filled_set (outs := freeL g.n k) (n := n) (by rw [freeL_len]; exact hlt) V
      rw [freeL_len] at e
      rw [← e]
      exact h
    · obtain rfl : k = n := by omega
      have h := HO.out
      rw [filled_full (freeL_len _ _)] at h
      have HO' := Lib.hid h
      clear h
      (repeat (first | (with_reducible first | refine xA ?_ | refine xB ?_ | refine xC ?_ | refine xD ?_ | refine xH ?_ | refine xI rfl ?_ | refine xE ?_ | refine xF ?_ | refine xG ?_) | go_values | go_skip | go_guarded | go_step | go_upon | go_back | ((with_reducible show Oper.upon _ _ _ _ _ _); go_simp) | (dsimp only)))
      go_ret
      exact ⟨rfl, HO'.out, hG, hK⟩
end Go.Proofs.YtmaogkgjiplckaaGreat
namespace Go.Proofs.YtmaogkgjiplckaaGreat
open Go.RowKit
theorem nd_cells {u : World} {q : Nat} {d : Nd} (h : RowAt 6 Nd.cells u q 0 [d]) : u.cell? ⟨q, 0, none⟩ = some (.int .i64 d.op) ∧ u.cell? ⟨q, 1, none⟩ = some (.int .i64 d.w) ∧ u.cell? ⟨q, 2, none⟩ = some (.int .u64 d.n) ∧ u.cell? ⟨q, 3, none⟩ = some (.int .i64 d.k0) ∧ u.cell? ⟨q, 4, none⟩ = some (.int .i64 d.k1) ∧ u.cell? ⟨q, 5, none⟩ = some (.int .i64 d.k2) :=
  ⟨h 0 d rfl 0 _ rfl, h 0 d rfl 1 _ rfl, h 0 d rfl 2 _ rfl, h 0 d rfl 3 _ rfl, h 0 d rfl 4 _ rfl, h 0 d rfl 5 _ rfl⟩
section
variable {X : Nat → Prop} {base bb gb : Nat} {b : BS} {lv wv : Value} {iv rv vs : List Value}
theorem BRep.owned {w w' : World} (h : BRep X base w bb gb b lv iv rv wv vs) (hb : Below w.heap.size w w') {q : Nat} (h1 : w.heap.size ≤ q) (h2 : q < w'.heap.size) : BRep (fun k => X k ∨ k = q) base w' bb gb b lv iv rv wv vs ∧ BZ (fun k => X k ∨ k = q) bb wv q := by
  refine ⟨h.turn (Kept.ofBelow hb) (h.gr.owned (below_own hb) h1 h2) fun _ hx => .inl hx, .inr rfl, by have := h.lt; omega, fun e => ?_⟩
  have := h.gr.xb _ (h.xw q e.symm).1
  omega
set_option maxRecDepth 100000 in
theorem constant_any (w : World) (h : BRep X base w bb gb b lv iv rv wv vs) (d : Nd) (N : Nat) (hw : d.w = N) (hN : 1 ≤ N ∧ N ≤ 64) (hn0 : 0 ≤ d.n) (hn1 : d.n < 18446744073709551616) :
    Calls Tryz.prog 43 #[.pointer (some ⟨bb, 0, none⟩), .agg #[.int .i64 d.op, .int .i64 d.w, .int .u64 d.n, .int .i64 d.k0, .int .i64 d.k1, .int .i64 d.k2]] w (WordB X base bb gb lv wv vs w (b, constL N d.n.toNat)) := by
  have Hmx := Lib.hid (show max 1 (min d.w 64) = (N : Int) by omega)
  have hcg := h.cg
  have H := Lib.hid h
  clear h hw
  go_enter Tryz.func43, Tryz.ntmps43
  (repeat (first | (with_reducible first | refine xA ?_ | refine xB ?_ | refine xC ?_ | refine xD ?_ | refine xH ?_ | refine xI rfl ?_ | refine xE ?_ | refine xF ?_ | refine xG ?_) | go_values | go_skip | go_guarded | go_step | go_upon | go_back | ((with_reducible show Oper.upon _ _ _ _ _ _); go_simp) | (dsimp only)))
  refine wp_abs (fun u => Below w.heap.size w u ∧ RowAt 6 Nd.cells u w.heap.size 0 [d]) ⟨by (repeat (first | with_reducible exact Below.refl _ _ | assumption | with_reducible refine below_drewN ?_ _ | with_reducible refine Below.drew ?_ | with_reducible refine Below.setRow ?_ ?_ _ | with_reducible refine Below.alloc ?_ ?_ _ | with_reducible refine Below.setCell ?_ ?_ _ | with_reducible exact Nat.le_refl _ | (focus (simp; done)) | (focus (simp; omega)) | omega)), box_row w d 49⟩ ?_; rintro w1 ⟨hb1, HR⟩
  refine wp_region_held (S := fun u => u.cell? ⟨bb, 28, none⟩ = some (.pointer (some ⟨gb, 0, none⟩)) ∧ RowAt 6 Nd.cells u w.heap.size 0 [d]) (by kernel_rfl) ?_; replace HR : RowAt 6 Nd.cells ({ w1 with drawn := w1.drawn + 1 } : World) w.heap.size 0 [d] := HR; replace hb1 : Below w.heap.size w ({ w1 with drawn := w1.drawn + 1 } : World) := hb1.trans ⟨rfl, rfl, rfl, Nat.le_refl _, fun _ _ => rfl⟩; generalize ({ w1 with drawn := w1.drawn + 1 } : World) = u0 at *; have HSC : u0.cell? ⟨bb, 28, none⟩ = some (.pointer (some ⟨gb, 0, none⟩)) ∧ RowAt 6 Nd.cells u0 w.heap.size 0 [d] := ⟨cell_keep hb1 hcg, HR⟩
  refine wpAnyH_take (i := 0) (v := .pointer (some ⟨bb, 0, none⟩)) rfl (by kernel_rfl) (by kernel_rfl) (by kernel_rfl) (fun _ _ _ h => h) (Or.inl ⟨rfl, fun w _ => by go_simp⟩) HSC ?_; simp only [Act.put, qz1, qz2, qz3, qz4, qz5, qz6]
  refine wpAnyH_take (i := 1) (v := .pointer (some ⟨bb, 0, none⟩)) rfl (by kernel_rfl) (by kernel_rfl) (by kernel_rfl) (fun _ _ _ h => h) (Or.inl ⟨rfl, fun w _ => by go_simp⟩) HSC ?_; simp only [Act.put, qz1, qz2, qz3, qz4, qz5, qz6]
  refine wpAnyH_take (i := 2) (v := .pointer (some ⟨bb, 28, none⟩)) rfl (by kernel_rfl) (by kernel_rfl) (by kernel_rfl) (fun _ _ _ h => h) (Or.inl ⟨rfl, fun w _ => by go_simp⟩) HSC ?_; simp only [Act.put, qz1, qz2, qz3, qz4, qz5, qz6]
  refine wpAnyH_take (i := 3) (v := .pointer (some ⟨gb, 0, none⟩)) rfl (by kernel_rfl) (by kernel_rfl) (by kernel_rfl) (fun _ _ _ h => h) (Or.inl ⟨rfl, fun w hw => by have h := hw.1; go_simp⟩) HSC ?_; simp only [Act.put, qz1, qz2, qz3, qz4, qz5, qz6]
  refine wpAnyH_take (i := 4) (v := .pointer (some ⟨w.heap.size, 1, none⟩)) rfl (by kernel_rfl) (by kernel_rfl) (by kernel_rfl) (fun _ _ _ h => h) (Or.inl ⟨rfl, fun w _ => by go_simp⟩) HSC ?_; simp only [Act.put, qz1, qz2, qz3, qz4, qz5, qz6]
  refine wpAnyH_take (i := 5) (v := .int .i64 d.w) rfl (by kernel_rfl) (by kernel_rfl) (by kernel_rfl) (fun _ _ _ h => h) (Or.inl ⟨rfl, fun w hw => by obtain ⟨n0, n1, n2, n3, n4, n5⟩ := nd_cells hw.2; go_simp⟩) HSC ?_; simp only [Act.put, qz1, qz2, qz3, qz4, qz5, qz6]
  refine wpAnyH_take (i := 6) (v := .pointer (some ⟨w.heap.size, 2, none⟩)) rfl (by kernel_rfl) (by kernel_rfl) (by kernel_rfl) (fun _ _ _ h => h) (Or.inl ⟨rfl, fun w _ => by go_simp⟩) HSC ?_; simp only [Act.put, qz1, qz2, qz3, qz4, qz5, qz6]
  refine wpAnyH_take (i := 7) (v := .int .u64 d.n) rfl (by kernel_rfl) (by kernel_rfl) (by kernel_rfl) (fun _ _ _ h => h) (Or.inl ⟨rfl, fun w hw => by obtain ⟨n0, n1, n2, n3, n4, n5⟩ := nd_cells hw.2; go_simp⟩) HSC ?_; simp only [Act.put, qz1, qz2, qz3, qz4, qz5, qz6]
  refine wpAnyH_all (rs := [8]) (by kernel_rfl) (by simp) (fun i hi => ?_)
  obtain rfl : i = 8 := by simpa using hi
  refine wpOp_one rfl ?_
  (repeat (first | (with_reducible first | refine xA ?_ | refine xB ?_ | refine xC ?_ | refine xD ?_ | refine xH ?_ | refine xI rfl ?_ | refine xE ?_ | refine xF ?_ | refine xG ?_) | go_skip | go_guarded | (go_at_call 61; (with_reducible refine (WordC_any u0 _ d.w d.n hn0 hn1 N Hmx.out).mono ?_); rintro _ w2 ⟨rfl, hO2, hb2⟩; replace HSC := And.intro (cell_keep hb2 HSC.1) (HSC.2.below hb2)) | go_values | go_skip | go_guarded | go_step | go_upon | go_back | ((with_reducible show Oper.upon _ _ _ _ _ _); go_simp) | (dsimp only)))
  refine ⟨HSC, ?_⟩
  refine wpAnyH_all (rs := [9]) (by kernel_rfl) (by simp) (fun i hi => ?_)
  obtain rfl : i = 9 := by simpa using hi
  refine wpOp_one rfl ?_
  (repeat (first | (with_reducible first | refine xA ?_ | refine xB ?_ | refine xC ?_ | refine xD ?_ | refine xH ?_ | refine xI rfl ?_ | refine xE ?_ | refine xF ?_ | refine xG ?_) | go_values | go_skip | go_guarded | go_step | go_upon | go_back | ((with_reducible show Oper.upon _ _ _ _ _ _); go_simp) | (dsimp only)))
  refine ⟨HSC, ?_⟩
  refine wpAnyH_done (by kernel_rfl) ?_ _
  (repeat (first | (with_reducible first | refine xA ?_ | refine xB ?_ | refine xC ?_ | refine xD ?_ | refine xH ?_ | refine xI rfl ?_ | refine xE ?_ | refine xF ?_ | refine xG ?_) | go_values | go_skip | go_guarded | go_step | go_upon | go_back | ((with_reducible show Oper.upon _ _ _ _ _ _); go_simp) | (dsimp only)))
  go_ret
  have hb := hb1.trans (hb2.mono hb1.size)
  obtain ⟨r1, r2⟩ := H.out.owned hb hb1.size hO2.lt
  exact ⟨_, _, iv, rv, rfl, fun k hk => .inl hk, r1, hO2.slX r2, Kept.ofBelow hb⟩
end
end Go.Proofs.YtmaogkgjiplckaaGreat
namespace Go.Proofs.YtmaogkgjiplckaaGreat
open Go.RowKit
section
variable {X : Nat → Prop} {base bb gb : Nat} {b : BS} {lv wv : Value} {iv rv vs : List Value}
theorem row_lt {u : World} {q : Nat} {d : Nd} (h : RowAt 6 Nd.cells u q 0 [d]) : q < u.heap.size := World.block_lt_of_cell? u _ (nd_cells h).1
theorem row_kept {Z : Nat → Prop} {u u' : World} {q : Nat} {d : Nd} (h : RowAt 6 Nd.cells u q 0 [d]) (hk : Kept Z u u') (hz : Z q) : RowAt 6 Nd.cells u' q 0 [d] := fun i e hi j c hj => hk.cell (h i e hi j c hj) hz
theorem slx_take {Z : Nat → Prop} {w : World} {bq o n c : Nat} {l : List Int} (h : SlX Z w (.slice (some ⟨bq, o, none⟩) l.length c) l) (hn : n ≤ l.length) : SlX Z w (.slice (some ⟨bq, o, none⟩) n c) (l.take n) := by
  obtain ⟨ao, cap, e, hc, h0, hr⟩ := h
  injection e with e1 e2 e3
  subst e1; subst e3
  refine ⟨_, c, by rw [List.length_take, Nat.min_eq_left hn], by rw [List.length_take]; omega, h0, fun hne => ?_⟩
  obtain ⟨b', o', e, hz, hl, hR⟩ := hr (by rintro rfl; simp at hne)
  refine ⟨b', o', e, hz, hl, fun i x hi => ?_⟩
  rw [List.getElem?_take] at hi
  split at hi
  · exact hR i x hi
  · cases hi
theorem WordB.of_below {w w' : World} (h : BRep X base w bb gb b lv iv rv wv vs) (hb : Below w.heap.size w w') {v : Value} {l : List Int} (hs : SlX (BZ X bb wv) w v l) : WordB X base bb gb lv wv vs w (b, l) (.returned v) w' :=
  ⟨v, X, iv, rv, rfl, fun _ hk => hk, h.below hb, hs.kept (Kept.ofBelow hb), Kept.ofBelow hb⟩
theorem blastB_of {Y : Nat → Prop} {w u w2 : World} {r : G × List Int} {v : Value} (h : BRep X base w bb gb b lv iv rv wv vs) (hb : Below w.heap.size w u) (hXY : ∀ k, X k → Y k) (hS : SlX (fun k => Y k ∧ u.heap.size ≤ k) w2 v r.2) (hG : GR Y base w2 gb r.1) (hK : Kept X u w2) :
    WordB X base bb gb lv wv vs w (⟨r.1, b.ws, b.inp, b.reg⟩, r.2) (.returned v) w2 := by
  have hk := (Kept.ofBelow (X := X) hb).trans hK
  refine ⟨v, Y, iv, rv, rfl, hXY, h.turn hk hG hXY, hS.mono fun k _ hz => ⟨hz.1, ?_, fun e => ?_⟩, hk.mono fun k _ hz => hz.1⟩
  · have := h.lt
    have := hb.size
    have := hz.2
    omega
  · have := h.gr.xb k (h.xw k e.symm).1
    have := hb.size
    have := hz.2
    omega
set_option maxRecDepth 100000 in
theorem low_any (w : World) (h : BRep X base w bb gb b lv iv rv wv vs) (d : Nd) (a0 : Nat) (hk0 : d.k0 = a0) (ha : a0 < b.ws.length) (hl : (b.at a0).length = 64) :
    Calls Tryz.prog 48 #[.pointer (some ⟨bb, 0, none⟩), .agg #[.int .i64 d.op, .int .i64 d.w, .int .u64 d.n, .int .i64 d.k0, .int .i64 d.k1, .int .i64 d.k2]] w (WordB X base bb gb lv wv vs w (b, (b.at a0).take 8)) := by
  obtain ⟨q, n, c, x0, m0, e0, hwv, han0, hv0, hS, hm⟩ := h.word a0 ha
  have hcw := h.cw
  rw [hwv] at hcw
  subst hm
  obtain ⟨bq, oq, rfl, -, -, hcap, -⟩ := hS.row (by omega)
  have H := Lib.hid h
  have HS := Lib.hid hS
  have hc8 : (64 : Int) ≤ e0 := by omega
  have hb1 : Below w.heap.size w (w.alloc (.cells #[.int .i64 d.op, .int .i64 d.w, .int .u64 d.n, .int .i64 d.k0, .int .i64 d.k1, .int .i64 d.k2] 49)) := by (repeat (first | with_reducible exact Below.refl _ _ | assumption | with_reducible refine below_drewN ?_ _ | with_reducible refine Below.drew ?_ | with_reducible refine Below.setRow ?_ ?_ _ | with_reducible refine Below.alloc ?_ ?_ _ | with_reducible refine Below.setCell ?_ ?_ _ | with_reducible exact Nat.le_refl _ | (focus (simp; done)) | (focus (simp; omega)) | omega))
  have HL := Lib.hid hl
  have HK0 := Lib.hid hk0
  clear h hS hwv hk0 hl
  go_enter Tryz.func48, Tryz.ntmps48
  (repeat (first | (with_reducible first | refine xA ?_ | refine xB ?_ | refine xC ?_ | refine xD ?_ | refine xH ?_ | refine xI rfl ?_ | refine xE ?_ | refine xF ?_ | refine xG ?_) | go_skip | go_guarded | (go_at_call 64; (with_reducible refine (kid_any d bb q n c a0 (some ⟨bq, oq, none⟩) (b.at a0).length e0 0 _ (cell_keep hb1 hcw) (cell_keep hb1 hv0) han0 (.inl ⟨rfl, HK0.out⟩)).mono ?_); rintro _ u1 ⟨rfl, hbk⟩; replace hb1 := hb1.trans (hbk.mono hb1.size); clear hbk) | go_values | go_skip | go_guarded | go_step | go_upon | go_back | ((with_reducible show Oper.upon _ _ _ _ _ _); go_simp) | (dsimp only)))
  go_ret
  exact WordB.of_below H.out hb1 (slx_take HS.out (by rw [HL.out]; omega))
set_option maxRecDepth 100000 in
set_option maxHeartbeats 1000000 in
theorem apply_b {fr : List Int} {s : Nat → Bool} (w : World) (hba : base ≤ w.heap.size) (h : BRep X base w bb gb b lv iv rv wv vs) (d : Nd) (a0 a1 : Nat) (hk0 : d.k0 = a0) (hk1 : d.k1 = a1) (ha0 : a0 < b.ws.length) (ha1 : a1 < b.ws.length) (N : Nat) (hN : 1 ≤ N ∧ N ≤ 64) (hl0 : (b.at a0).length = N) (hl1 : d.op = 5 ∨ (b.at a1).length = N)
    (hx : ∀ x ∈ b.at a0, isL b.g.n x) (hy : d.op = 5 ∨ ∀ x ∈ b.at a1, isL b.g.n x) (hI : GI b.g fr s) (ho : okOp d.op) (hn : b.g.n + 40000 ≤ 1048576) (r : G × List Int) (hr : Hid (resG d.op b.g N (b.at a0) (b.at a1) = r)) :
    Calls Tryz.prog 46 #[.pointer (some ⟨bb, 0, none⟩), .agg #[.int .i64 d.op, .int .i64 d.w, .int .u64 d.n, .int .i64 d.k0, .int .i64 d.k1, .int .i64 d.k2]] w (WordB X base bb gb lv wv vs w (⟨r.1, b.ws, b.inp, b.reg⟩, r.2)) := by
  obtain ⟨q, n, c, x0, m0, e0, hwv, han0, hv0, hS0, hm0⟩ := h.word a0 ha0
  obtain ⟨q', n', c', x1, m1, e1, hwv', han1, hv1, hS1, hm1⟩ := h.word a1 ha1
  rw [hwv] at hwv'
  injection hwv' with hq1 hq2 hq3
  injection hq1 with hq1
  injection hq1 with hq1
  subst hq1; subst hq2; subst hq3
  have hcw := h.cw
  rw [hwv] at hcw
  have hcg := h.cg
  have hs0 := hS0.mono (Y := X) fun _ _ hz => hz.1
  have hs1 := hS1.mono (Y := X) fun _ _ hz => hz.1
  have HA : Hid (∀ u : World, Below w.heap.size w u → w.heap.size < u.heap.size → Calls Tryz.prog 63 #[.pointer (some ⟨gb, 0, none⟩), .int .i64 d.op, .slice x0 m0 e0, .slice x1 m1 e1] u (WordY (fun k => X k ∨ k = w.heap.size) base gb u r)) := Lib.hid (fun u hb hlt => by
    rw [← hr.out]
    have g0 := (hs0.kept (Kept.ofBelow hb)).mono (Y := fun k => X k ∨ k = w.heap.size) fun _ _ hz => .inl hz
    have g1 := (hs1.kept (Kept.ofBelow hb)).mono (Y := fun k => X k ∨ k = w.heap.size) fun _ _ hz => .inl hz
    have hG := h.gr.owned (below_own hb) (Nat.le_refl _) hlt
    rcases ho with h5 | ⟨h8, h21⟩
    · rw [h5]
      exact Apply_not u hG _ _ _ _ N g0 g1 hl0 hN.1 hN.2 hx
    · exact Apply_res d.op u hG (Nat.le_trans hba hb.size) _ _ _ _ N g0 g1 hl0 (hl1.resolve_left (by omega)) hN.1 hN.2 hn hx (hy.resolve_left (by omega)) hI (.inr ⟨h8, h21⟩))
  have H := Lib.hid h
  have HK0 := Lib.hid hk0
  have HK1 := Lib.hid hk1
  clear hk0 hk1 h hwv hS0 hS1 hs0 hs1 hx hy hI ho hn hr hl0 hl1 hba hm0 hm1
  go_enter Tryz.func46, Tryz.ntmps46
  (repeat (first | (with_reducible first | refine xA ?_ | refine xB ?_ | refine xC ?_ | refine xD ?_ | refine xH ?_ | refine xI rfl ?_ | refine xE ?_ | refine xF ?_ | refine xG ?_) | go_values | go_skip | go_guarded | go_step | go_upon | go_back | ((with_reducible show Oper.upon _ _ _ _ _ _); go_simp) | (dsimp only)))
  refine wp_abs (fun u => Below w.heap.size w u ∧ RowAt 6 Nd.cells u w.heap.size 0 [d]) ⟨by (repeat (first | with_reducible exact Below.refl _ _ | assumption | with_reducible refine below_drewN ?_ _ | with_reducible refine Below.drew ?_ | with_reducible refine Below.setRow ?_ ?_ _ | with_reducible refine Below.alloc ?_ ?_ _ | with_reducible refine Below.setCell ?_ ?_ _ | with_reducible exact Nat.le_refl _ | (focus (simp; done)) | (focus (simp; omega)) | omega)), box_row w d 49⟩ ?_; rintro w1 ⟨hb1, HR⟩
  refine wp_region_held (S := fun u => u.cell? ⟨bb, 28, none⟩ = some (.pointer (some ⟨gb, 0, none⟩)) ∧ RowAt 6 Nd.cells u w.heap.size 0 [d]) (by kernel_rfl) ?_; replace HR : RowAt 6 Nd.cells ({ w1 with drawn := w1.drawn + 1 } : World) w.heap.size 0 [d] := HR; replace hb1 : Below w.heap.size w ({ w1 with drawn := w1.drawn + 1 } : World) := hb1.trans ⟨rfl, rfl, rfl, Nat.le_refl _, fun _ _ => rfl⟩; generalize ({ w1 with drawn := w1.drawn + 1 } : World) = u0 at *; have HSC : u0.cell? ⟨bb, 28, none⟩ = some (.pointer (some ⟨gb, 0, none⟩)) ∧ RowAt 6 Nd.cells u0 w.heap.size 0 [d] := ⟨cell_keep hb1 hcg, HR⟩; clear HR
  refine wpAnyH_take (i := 0) (v := .pointer (some ⟨bb, 0, none⟩)) rfl (by kernel_rfl) (by kernel_rfl) (by kernel_rfl) (fun _ _ _ h => h) (Or.inl ⟨rfl, fun w _ => by go_simp⟩) HSC ?_; simp only [Act.put, qz1, qz2, qz3, qz4, qz5, qz6]
  refine wpAnyH_take (i := 1) (v := .pointer (some ⟨bb, 0, none⟩)) rfl (by kernel_rfl) (by kernel_rfl) (by kernel_rfl) (fun _ _ _ h => h) (Or.inl ⟨rfl, fun w _ => by go_simp⟩) HSC ?_; simp only [Act.put, qz1, qz2, qz3, qz4, qz5, qz6]
  refine wpAnyH_take (i := 2) (v := .pointer (some ⟨bb, 28, none⟩)) rfl (by kernel_rfl) (by kernel_rfl) (by kernel_rfl) (fun _ _ _ h => h) (Or.inl ⟨rfl, fun w _ => by go_simp⟩) HSC ?_; simp only [Act.put, qz1, qz2, qz3, qz4, qz5, qz6]
  refine wpAnyH_take (i := 3) (v := .pointer (some ⟨gb, 0, none⟩)) rfl (by kernel_rfl) (by kernel_rfl) (by kernel_rfl) (fun _ _ _ h => h) (Or.inl ⟨rfl, fun w hw => by have h := hw.1; go_simp⟩) HSC ?_; simp only [Act.put, qz1, qz2, qz3, qz4, qz5, qz6]
  refine wpAnyH_take (i := 4) (v := .pointer (some ⟨w.heap.size, 0, none⟩)) rfl (by kernel_rfl) (by kernel_rfl) (by kernel_rfl) (fun _ _ _ h => h) (Or.inl ⟨rfl, fun w _ => by go_simp⟩) HSC ?_; simp only [Act.put, qz1, qz2, qz3, qz4, qz5, qz6]
  refine wpAnyH_take (i := 5) (v := .int .i64 d.op) rfl (by kernel_rfl) (by kernel_rfl) (by kernel_rfl) (fun _ _ _ h => h) (Or.inl ⟨rfl, fun w hw => by obtain ⟨n0, n1, n2, n3, n4, n5⟩ := nd_cells hw.2; go_simp⟩) HSC ?_; simp only [Act.put, qz1, qz2, qz3, qz4, qz5, qz6]
  refine wpAnyH_take (i := 6) (v := .pointer (some ⟨bb, 0, none⟩)) rfl (by kernel_rfl) (by kernel_rfl) (by kernel_rfl) (fun _ _ _ h => h) (Or.inl ⟨rfl, fun w _ => by go_simp⟩) HSC ?_; simp only [Act.put, qz1, qz2, qz3, qz4, qz5, qz6]
  refine wpAnyH_take (i := 7) (v := .agg #[.int .i64 d.op, .int .i64 d.w, .int .u64 d.n, .int .i64 d.k0, .int .i64 d.k1, .int .i64 d.k2]) rfl (by kernel_rfl) (by kernel_rfl) (by kernel_rfl) (fun _ _ _ h => h) (Or.inl ⟨rfl, fun w hw => by obtain ⟨n0, n1, n2, n3, n4, n5⟩ := nd_cells hw.2; go_simp⟩) HSC ?_; simp only [Act.put, qz1, qz2, qz3, qz4, qz5, qz6]
  refine wpAnyH_take (i := 9) (v := .pointer (some ⟨bb, 0, none⟩)) rfl (by kernel_rfl) (by kernel_rfl) (by kernel_rfl) (fun _ _ _ h => h) (Or.inl ⟨rfl, fun w _ => by go_simp⟩) HSC ?_; simp only [Act.put, qz1, qz2, qz3, qz4, qz5, qz6]
  refine wpAnyH_take (i := 10) (v := .agg #[.int .i64 d.op, .int .i64 d.w, .int .u64 d.n, .int .i64 d.k0, .int .i64 d.k1, .int .i64 d.k2]) rfl (by kernel_rfl) (by kernel_rfl) (by kernel_rfl) (fun _ _ _ h => h) (Or.inl ⟨rfl, fun w hw => by obtain ⟨n0, n1, n2, n3, n4, n5⟩ := nd_cells hw.2; go_simp⟩) HSC ?_; simp only [Act.put, qz1, qz2, qz3, qz4, qz5, qz6]
  refine wpAnyH_all (rs := [8]) (by kernel_rfl) (by simp) (fun i hi => ?_)
  obtain rfl : i = 8 := by simpa using hi
  refine wpOp_one rfl ?_
  (repeat (first | (with_reducible first | refine xA ?_ | refine xB ?_ | refine xC ?_ | refine xD ?_ | refine xH ?_ | refine xI rfl ?_ | refine xE ?_ | refine xF ?_ | refine xG ?_) | go_skip | go_guarded | (go_at_call 64; (with_reducible refine (kid_any d bb q n c a0 x0 m0 e0 0 _ (cell_keep hb1 hcw) (cell_keep hb1 hv0) han0 (.inl ⟨rfl, HK0.out⟩)).mono ?_); rintro _ u1 ⟨rfl, hbk⟩; replace hb1 := hb1.trans (hbk.mono hb1.size); replace HSC := And.intro (cell_keep hbk HSC.1) (HSC.2.below hbk); clear hbk) | go_values | go_skip | go_guarded | go_step | go_upon | go_back | ((with_reducible show Oper.upon _ _ _ _ _ _); go_simp) | (dsimp only)))
  refine ⟨HSC, ?_⟩
  refine wpAnyH_all (rs := [11]) (by kernel_rfl) (by simp) (fun i hi => ?_)
  obtain rfl : i = 11 := by simpa using hi
  refine wpOp_one rfl ?_
  (repeat (first | (with_reducible first | refine xA ?_ | refine xB ?_ | refine xC ?_ | refine xD ?_ | refine xH ?_ | refine xI rfl ?_ | refine xE ?_ | refine xF ?_ | refine xG ?_) | go_skip | go_guarded | (go_at_call 64; (with_reducible refine (kid_any d bb q n c a1 x1 m1 e1 1 _ (cell_keep hb1 hcw) (cell_keep hb1 hv1) han1 (.inr (.inl ⟨rfl, HK1.out⟩))).mono ?_); rintro _ u1 ⟨rfl, hbk⟩; replace hb1 := hb1.trans (hbk.mono hb1.size); replace HSC := And.intro (cell_keep hbk HSC.1) (HSC.2.below hbk); clear hbk) | go_values | go_skip | go_guarded | go_step | go_upon | go_back | ((with_reducible show Oper.upon _ _ _ _ _ _); go_simp) | (dsimp only)))
  refine ⟨HSC, ?_⟩
  refine wpAnyH_all (rs := [12]) (by kernel_rfl) (by simp) (fun i hi => ?_)
  obtain rfl : i = 12 := by simpa using hi
  refine wpOp_one rfl ?_
  have hlt := row_lt HSC.2
  (repeat (first | (with_reducible first | refine xA ?_ | refine xB ?_ | refine xC ?_ | refine xD ?_ | refine xH ?_ | refine xI rfl ?_ | refine xE ?_ | refine xF ?_ | refine xG ?_) | go_skip | go_guarded | (go_at_call 63; (with_reducible refine (HA.out _ hb1 hlt).mono ?_); rintro _ w2 ⟨v, Y, rfl, hXY, hS, hG, hK⟩) | go_values | go_skip | go_guarded | go_step | go_upon | go_back | ((with_reducible show Oper.upon _ _ _ _ _ _); go_simp) | (dsimp only)))
  refine ⟨⟨hK.cell HSC.1 (.inl H.out.xb), row_kept HSC.2 hK (.inr rfl)⟩, ?_⟩
  refine wpAnyH_all (rs := [13]) (by kernel_rfl) (by simp) (fun i hi => ?_)
  obtain rfl : i = 13 := by simpa using hi
  refine wpOp_one rfl ?_
  (repeat (first | (with_reducible first | refine xA ?_ | refine xB ?_ | refine xC ?_ | refine xD ?_ | refine xH ?_ | refine xI rfl ?_ | refine xE ?_ | refine xF ?_ | refine xG ?_) | go_values | go_skip | go_guarded | go_step | go_upon | go_back | ((with_reducible show Oper.upon _ _ _ _ _ _); go_simp) | (dsimp only)))
  refine ⟨⟨hK.cell HSC.1 (.inl H.out.xb), row_kept HSC.2 hK (.inr rfl)⟩, ?_⟩
  refine wpAnyH_done (by kernel_rfl) ?_ _
  (repeat (first | (with_reducible first | refine xA ?_ | refine xB ?_ | refine xC ?_ | refine xD ?_ | refine xH ?_ | refine xI rfl ?_ | refine xE ?_ | refine xF ?_ | refine xG ?_) | go_values | go_skip | go_guarded | go_step | go_upon | go_back | ((with_reducible show Oper.upon _ _ _ _ _ _); go_simp) | (dsimp only)))
  go_ret
  exact blastB_of H.out hb1 (fun k h => hXY k (.inl h)) hS hG (hK.mono fun k _ h => .inl h)
end
end Go.Proofs.YtmaogkgjiplckaaGreat
namespace Go.Proofs.YtmaogkgjiplckaaGreat
open Go.RowKit
section
variable {X : Nat → Prop} {base bb gb : Nat} {b : BS} {lv wv : Value} {iv rv vs : List Value}
set_option maxRecDepth 100000 in
set_option maxHeartbeats 1000000 in
theorem choice_b {fr : List Int} {s : Nat → Bool} (w : World) (hba : base ≤ w.heap.size) (h : BRep X base w bb gb b lv iv rv wv vs) (d : Nd) (a0 a1 a2 : Nat) (hk0 : d.k0 = a0) (hk1 : d.k1 = a1) (hk2 : d.k2 = a2) (ha0 : a0 < b.ws.length) (ha1 : a1 < b.ws.length) (ha2 : a2 < b.ws.length) (z : Int) (hz : b.at a0 = [z]) (N : Nat) (hN : 1 ≤ N ∧ N ≤ 64) (hl1 : (b.at a1).length = N) (hl2 : (b.at a2).length = N)
    (hzl : isL b.g.n z) (hx : ∀ x ∈ b.at a1, isL b.g.n x) (hy : ∀ x ∈ b.at a2, isL b.g.n x) (hI : GI b.g fr s) (hn : b.g.n + 192 ≤ 1048576) (r : G × List Int) (hr : Hid (chooseG b.g z (b.at a1) (b.at a2) = r)) :
    Calls Tryz.prog 49 #[.pointer (some ⟨bb, 0, none⟩), .agg #[.int .i64 d.op, .int .i64 d.w, .int .u64 d.n, .int .i64 d.k0, .int .i64 d.k1, .int .i64 d.k2]] w (WordB X base bb gb lv wv vs w (⟨r.1, b.ws, b.inp, b.reg⟩, r.2)) := by
  obtain ⟨q, n, c, x0, m0, e0, hwv, han0, hv0, hS0, hm0⟩ := h.word a0 ha0
  obtain ⟨q', n', c', x1, m1, e1, hwv', han1, hv1, hS1, hm1⟩ := h.word a1 ha1
  obtain ⟨q'', n'', c'', x2, m2, e2, hwv'', han2, hv2, hS2, hm2⟩ := h.word a2 ha2
  rw [hwv] at hwv' hwv''
  injection hwv' with hq1 hq2 hq3
  injection hq1 with hq1
  injection hq1 with hq1
  subst hq1; subst hq2; subst hq3
  injection hwv'' with hq1 hq2 hq3
  injection hq1 with hq1
  injection hq1 with hq1
  subst hq1; subst hq2; subst hq3
  have hcw := h.cw
  rw [hwv] at hcw
  have hcg := h.cg
  rw [hz] at hS0 hm0
  obtain ⟨bz, oz, rfl, xbz, lbz, cbz, hRz⟩ := hS0.row (Nat.zero_lt_one)
  have hcz := hRz 0 z rfl
  rw [Nat.add_zero] at hcz
  have hbzX : X bz := xbz.1
  obtain rfl : m0 = 1 := hm0
  obtain rfl : m1 = N := by rw [hm1, hl1]
  obtain rfl : m2 = m1 := by rw [hm2, hl2]
  have hs1 := hS1.mono (Y := X) fun _ _ hz => hz.1
  have hs2 := hS2.mono (Y := X) fun _ _ hz => hz.1
  have HA : Hid (∀ u : World, Below w.heap.size w u → w.heap.size < u.heap.size → Calls Tryz.prog 65 #[.pointer (some ⟨gb, 0, none⟩), .int .i64 z, .slice x1 m2 e1, .slice x2 m2 e2] u fun e w' => ∃ q, e = .returned (.slice (some ⟨q, 0, none⟩) m2 m2) ∧ OwnI w' q m2 r.2 ∧ u.heap.size ≤ q ∧ GR (fun k => (X k ∨ k = w.heap.size) ∨ k = q) base w' gb r.1 ∧ Kept (fun k => X k ∨ k = w.heap.size) u w') := Lib.hid (fun u hb hlt => by
    have g1 := (hs1.kept (Kept.ofBelow hb)).mono (Y := fun k => X k ∨ k = w.heap.size) fun _ _ hz => .inl hz
    have g2 := (hs2.kept (Kept.ofBelow hb)).mono (Y := fun k => X k ∨ k = w.heap.size) fun _ _ hz => .inl hz
    have hG := h.gr.owned (below_own hb) (Nat.le_refl _) hlt
    exact choose_law u hG (Nat.le_trans hba hb.size) z m2 _ _ _ _ _ _ hl1 hl2 g1 g2 hN.1 hN.2 hn hI hzl hx hy r hr)
  have H := Lib.hid h
  have HK0 := Lib.hid hk0
  have HK1 := Lib.hid hk1
  have HK2 := Lib.hid hk2
  clear hk0 hk1 hk2 h hwv hS0 hS1 hS2 hs1 hs2 hx hy hI hn hr hl1 hl2 hba hm1 hm2 hRz hz hzl xbz
  go_enter Tryz.func49, Tryz.ntmps49
  (repeat (first | (with_reducible first | refine xA ?_ | refine xB ?_ | refine xC ?_ | refine xD ?_ | refine xH ?_ | refine xI rfl ?_ | refine xE ?_ | refine xF ?_ | refine xG ?_) | go_values | go_skip | go_guarded | go_step | go_upon | go_back | ((with_reducible show Oper.upon _ _ _ _ _ _); go_simp) | (dsimp only)))
  refine wp_abs (fun u => Below w.heap.size w u ∧ RowAt 6 Nd.cells u w.heap.size 0 [d]) ⟨by (repeat (first | with_reducible exact Below.refl _ _ | assumption | with_reducible refine below_drewN ?_ _ | with_reducible refine Below.drew ?_ | with_reducible refine Below.setRow ?_ ?_ _ | with_reducible refine Below.alloc ?_ ?_ _ | with_reducible refine Below.setCell ?_ ?_ _ | with_reducible exact Nat.le_refl _ | (focus (simp; done)) | (focus (simp; omega)) | omega)), box_row w d 49⟩ ?_; rintro w1 ⟨hb1, HR⟩
  refine wp_region_held (S := fun u => u.cell? ⟨bb, 28, none⟩ = some (.pointer (some ⟨gb, 0, none⟩)) ∧ RowAt 6 Nd.cells u w.heap.size 0 [d] ∧ u.cell? ⟨bz, oz, none⟩ = some (.int .i64 z)) (by kernel_rfl) ?_; replace HR : RowAt 6 Nd.cells ({ w1 with drawn := w1.drawn + 1 } : World) w.heap.size 0 [d] := HR; replace hb1 : Below w.heap.size w ({ w1 with drawn := w1.drawn + 1 } : World) := hb1.trans ⟨rfl, rfl, rfl, Nat.le_refl _, fun _ _ => rfl⟩; generalize ({ w1 with drawn := w1.drawn + 1 } : World) = u0 at *; have HSC : u0.cell? ⟨bb, 28, none⟩ = some (.pointer (some ⟨gb, 0, none⟩)) ∧ RowAt 6 Nd.cells u0 w.heap.size 0 [d] ∧ u0.cell? ⟨bz, oz, none⟩ = some (.int .i64 z) := ⟨cell_keep hb1 hcg, HR, cell_keep hb1 hcz⟩; clear HR
  refine wpAnyH_take (i := 0) (v := .pointer (some ⟨bb, 0, none⟩)) rfl (by kernel_rfl) (by kernel_rfl) (by kernel_rfl) (fun _ _ _ h => h) (Or.inl ⟨rfl, fun w _ => by go_simp⟩) HSC ?_; simp only [Act.put, qz1, qz2, qz3, qz4, qz5, qz6]
  refine wpAnyH_take (i := 1) (v := .pointer (some ⟨bb, 0, none⟩)) rfl (by kernel_rfl) (by kernel_rfl) (by kernel_rfl) (fun _ _ _ h => h) (Or.inl ⟨rfl, fun w _ => by go_simp⟩) HSC ?_; simp only [Act.put, qz1, qz2, qz3, qz4, qz5, qz6]
  refine wpAnyH_take (i := 2) (v := .pointer (some ⟨bb, 28, none⟩)) rfl (by kernel_rfl) (by kernel_rfl) (by kernel_rfl) (fun _ _ _ h => h) (Or.inl ⟨rfl, fun w _ => by go_simp⟩) HSC ?_; simp only [Act.put, qz1, qz2, qz3, qz4, qz5, qz6]
  refine wpAnyH_take (i := 3) (v := .pointer (some ⟨gb, 0, none⟩)) rfl (by kernel_rfl) (by kernel_rfl) (by kernel_rfl) (fun _ _ _ h => h) (Or.inl ⟨rfl, fun w hw => by have h := hw.1; go_simp⟩) HSC ?_; simp only [Act.put, qz1, qz2, qz3, qz4, qz5, qz6]
  refine wpAnyH_take (i := 4) (v := .pointer (some ⟨bb, 0, none⟩)) rfl (by kernel_rfl) (by kernel_rfl) (by kernel_rfl) (fun _ _ _ h => h) (Or.inl ⟨rfl, fun w _ => by go_simp⟩) HSC ?_; simp only [Act.put, qz1, qz2, qz3, qz4, qz5, qz6]
  refine wpAnyH_take (i := 5) (v := .agg #[.int .i64 d.op, .int .i64 d.w, .int .u64 d.n, .int .i64 d.k0, .int .i64 d.k1, .int .i64 d.k2]) rfl (by kernel_rfl) (by kernel_rfl) (by kernel_rfl) (fun _ _ _ h => h) (Or.inl ⟨rfl, fun w hw => by obtain ⟨n0, n1, n2, n3, n4, n5⟩ := nd_cells hw.2.1; go_simp⟩) HSC ?_; simp only [Act.put, qz1, qz2, qz3, qz4, qz5, qz6]
  refine wpAnyH_take (i := 9) (v := .pointer (some ⟨bb, 0, none⟩)) rfl (by kernel_rfl) (by kernel_rfl) (by kernel_rfl) (fun _ _ _ h => h) (Or.inl ⟨rfl, fun w _ => by go_simp⟩) HSC ?_; simp only [Act.put, qz1, qz2, qz3, qz4, qz5, qz6]
  refine wpAnyH_take (i := 10) (v := .agg #[.int .i64 d.op, .int .i64 d.w, .int .u64 d.n, .int .i64 d.k0, .int .i64 d.k1, .int .i64 d.k2]) rfl (by kernel_rfl) (by kernel_rfl) (by kernel_rfl) (fun _ _ _ h => h) (Or.inl ⟨rfl, fun w hw => by obtain ⟨n0, n1, n2, n3, n4, n5⟩ := nd_cells hw.2.1; go_simp⟩) HSC ?_; simp only [Act.put, qz1, qz2, qz3, qz4, qz5, qz6]
  refine wpAnyH_take (i := 12) (v := .pointer (some ⟨bb, 0, none⟩)) rfl (by kernel_rfl) (by kernel_rfl) (by kernel_rfl) (fun _ _ _ h => h) (Or.inl ⟨rfl, fun w _ => by go_simp⟩) HSC ?_; simp only [Act.put, qz1, qz2, qz3, qz4, qz5, qz6]
  refine wpAnyH_take (i := 13) (v := .agg #[.int .i64 d.op, .int .i64 d.w, .int .u64 d.n, .int .i64 d.k0, .int .i64 d.k1, .int .i64 d.k2]) rfl (by kernel_rfl) (by kernel_rfl) (by kernel_rfl) (fun _ _ _ h => h) (Or.inl ⟨rfl, fun w hw => by obtain ⟨n0, n1, n2, n3, n4, n5⟩ := nd_cells hw.2.1; go_simp⟩) HSC ?_; simp only [Act.put, qz1, qz2, qz3, qz4, qz5, qz6]
  refine wpAnyH_all (rs := [6]) (by kernel_rfl) (by simp) (fun i hi => ?_)
  obtain rfl : i = 6 := by simpa using hi
  refine wpOp_one rfl ?_
  (repeat (first | (with_reducible first | refine xA ?_ | refine xB ?_ | refine xC ?_ | refine xD ?_ | refine xH ?_ | refine xI rfl ?_ | refine xE ?_ | refine xF ?_ | refine xG ?_) | go_skip | go_guarded | (go_at_call 64; (with_reducible refine (kid_any d bb q n c a0 (some ⟨bz, oz, none⟩) 1 e0 0 _ (cell_keep hb1 hcw) (cell_keep hb1 hv0) han0 (.inl ⟨rfl, HK0.out⟩)).mono ?_); rintro _ u1 ⟨rfl, hbk⟩; replace hb1 := hb1.trans (hbk.mono hb1.size); replace HSC := And.intro (cell_keep hbk HSC.1) (And.intro (HSC.2.1.below hbk) (cell_keep hbk HSC.2.2)); clear hbk) | go_values | go_skip | go_guarded | go_step | go_upon | go_back | ((with_reducible show Oper.upon _ _ _ _ _ _); go_simp) | (dsimp only)))
  refine ⟨HSC, ?_⟩
  refine wpAnyH_take (i := 7) (v := .pointer (some ⟨bz, oz, none⟩)) rfl (by kernel_rfl) (by kernel_rfl) (by kernel_rfl) (fun _ _ _ h => h) (Or.inl ⟨rfl, fun w _ => by go_simp⟩) HSC ?_; simp only [Act.put, qz1, qz2, qz3, qz4, qz5, qz6]
  refine wpAnyH_take (i := 8) (v := .int .i64 z) rfl (by kernel_rfl) (by kernel_rfl) (by kernel_rfl) (fun _ _ _ h => h) (Or.inl ⟨rfl, fun w hw => by have h := hw.2.2; go_simp⟩) HSC ?_; simp only [Act.put, qz1, qz2, qz3, qz4, qz5, qz6]
  refine wpAnyH_all (rs := [11]) (by kernel_rfl) (by simp) (fun i hi => ?_)
  obtain rfl : i = 11 := by simpa using hi
  refine wpOp_one rfl ?_
  (repeat (first | (with_reducible first | refine xA ?_ | refine xB ?_ | refine xC ?_ | refine xD ?_ | refine xH ?_ | refine xI rfl ?_ | refine xE ?_ | refine xF ?_ | refine xG ?_) | go_skip | go_guarded | (go_at_call 64; (with_reducible refine (kid_any d bb q n c a1 x1 m2 e1 1 _ (cell_keep hb1 hcw) (cell_keep hb1 hv1) han1 (.inr (.inl ⟨rfl, HK1.out⟩))).mono ?_); rintro _ u1 ⟨rfl, hbk⟩; replace hb1 := hb1.trans (hbk.mono hb1.size); replace HSC := And.intro (cell_keep hbk HSC.1) (And.intro (HSC.2.1.below hbk) (cell_keep hbk HSC.2.2)); clear hbk) | go_values | go_skip | go_guarded | go_step | go_upon | go_back | ((with_reducible show Oper.upon _ _ _ _ _ _); go_simp) | (dsimp only)))
  refine ⟨HSC, ?_⟩
  refine wpAnyH_all (rs := [14]) (by kernel_rfl) (by simp) (fun i hi => ?_)
  obtain rfl : i = 14 := by simpa using hi
  refine wpOp_one rfl ?_
  (repeat (first | (with_reducible first | refine xA ?_ | refine xB ?_ | refine xC ?_ | refine xD ?_ | refine xH ?_ | refine xI rfl ?_ | refine xE ?_ | refine xF ?_ | refine xG ?_) | go_skip | go_guarded | (go_at_call 64; (with_reducible refine (kid_any d bb q n c a2 x2 m2 e2 2 _ (cell_keep hb1 hcw) (cell_keep hb1 hv2) han2 (.inr (.inr ⟨rfl, HK2.out⟩))).mono ?_); rintro _ u1 ⟨rfl, hbk⟩; replace hb1 := hb1.trans (hbk.mono hb1.size); replace HSC := And.intro (cell_keep hbk HSC.1) (And.intro (HSC.2.1.below hbk) (cell_keep hbk HSC.2.2)); clear hbk) | go_values | go_skip | go_guarded | go_step | go_upon | go_back | ((with_reducible show Oper.upon _ _ _ _ _ _); go_simp) | (dsimp only)))
  refine ⟨HSC, ?_⟩
  refine wpAnyH_all (rs := [15]) (by kernel_rfl) (by simp) (fun i hi => ?_)
  obtain rfl : i = 15 := by simpa using hi
  refine wpOp_one rfl ?_
  have hlt := row_lt HSC.2.1
  (repeat (first | (with_reducible first | refine xA ?_ | refine xB ?_ | refine xC ?_ | refine xD ?_ | refine xH ?_ | refine xI rfl ?_ | refine xE ?_ | refine xF ?_ | refine xG ?_) | go_skip | go_guarded | (go_at_call 65; (with_reducible refine (HA.out _ hb1 hlt).mono ?_); rintro _ w2 ⟨qr, rfl, hO, hqr, hG, hK⟩) | go_values | go_skip | go_guarded | go_step | go_upon | go_back | ((with_reducible show Oper.upon _ _ _ _ _ _); go_simp) | (dsimp only)))
  refine ⟨⟨hK.cell HSC.1 (.inl H.out.xb), row_kept HSC.2.1 hK (.inr rfl), hK.cell HSC.2.2 (.inl hbzX)⟩, ?_⟩
  refine wpAnyH_all (rs := [16]) (by kernel_rfl) (by simp) (fun i hi => ?_)
  obtain rfl : i = 16 := by simpa using hi
  refine wpOp_one rfl ?_
  (repeat (first | (with_reducible first | refine xA ?_ | refine xB ?_ | refine xC ?_ | refine xD ?_ | refine xH ?_ | refine xI rfl ?_ | refine xE ?_ | refine xF ?_ | refine xG ?_) | go_values | go_skip | go_guarded | go_step | go_upon | go_back | ((with_reducible show Oper.upon _ _ _ _ _ _); go_simp) | (dsimp only)))
  refine ⟨⟨hK.cell HSC.1 (.inl H.out.xb), row_kept HSC.2.1 hK (.inr rfl), hK.cell HSC.2.2 (.inl hbzX)⟩, ?_⟩
  refine wpAnyH_done (by kernel_rfl) ?_ _
  (repeat (first | (with_reducible first | refine xA ?_ | refine xB ?_ | refine xC ?_ | refine xD ?_ | refine xH ?_ | refine xI rfl ?_ | refine xE ?_ | refine xF ?_ | refine xG ?_) | go_values | go_skip | go_guarded | go_step | go_upon | go_back | ((with_reducible show Oper.upon _ _ _ _ _ _); go_simp) | (dsimp only)))
  go_ret
  exact blastB_of H.out hb1 (fun k h => .inl (.inl h)) (hO.slX ⟨.inr rfl, hqr⟩) hG (hK.mono fun k _ h => .inl h)
end
end Go.Proofs.YtmaogkgjiplckaaGreat
namespace Go.Proofs.YtmaogkgjiplckaaGreat
open Go.RowKit
section
variable {X : Nat → Prop} {base bb gb : Nat} {b : BS} {lv wv : Value} {iv rv vs : List Value}
theorem keep_cellr {w w' : World} {r : Option Nat} {p : Addr} {c : Value} (hg : w.grownBy w' r) (h : w.cell? p = some c) (hne : some p.block ≠ r) : w'.cell? p = some c :=
  (World.cell?_of_block (hg.block p.block (World.block_lt_of_cell? w p h) hne)).trans h
theorem own_some {w : World} {B T n : Nat} {v : Value} {l : List Value} (h : w.ownsRow B T 1 v n l) (hn : 1 ≤ n) : ∃ k, v.ownBlock = some k := by
  rcases h.2 with ⟨e, h0⟩ | ⟨g, cap, cur, e, _⟩
  · omega
  · subst e; exact ⟨g, rfl⟩
theorem below_grown {w u w' : World} {r : Option Nat} (hb : Below w.heap.size w u) (hg : u.grownBy w' r) (hr : ∀ k, r = some k → w.heap.size ≤ k) : Below w.heap.size w w' :=
  ⟨hg.os.trans hb.os, hg.tape.trans hb.tape, hg.output.trans hb.output, Nat.le_trans hb.size hg.size, fun k hk => (hg.block k (Nat.lt_of_lt_of_le hk hb.size) (fun e => by have := hr k e.symm; omega)).trans (hb.block k hk)⟩
set_option maxRecDepth 100000 in
set_option maxHeartbeats 1000000 in
theorem wide_b (w : World) (h : BRep X base w bb gb b lv iv rv wv vs) (d : Nd) (a0 : Nat) (hk0 : d.k0 = a0) (ha : a0 < b.ws.length) (hl : (b.at a0).length = 1 ∨ (b.at a0).length = 8) :
    Calls Tryz.prog 47 #[.pointer (some ⟨bb, 0, none⟩), .agg #[.int .i64 d.op, .int .i64 d.w, .int .u64 d.n, .int .i64 d.k0, .int .i64 d.k1, .int .i64 d.k2]] w (WordB X base bb gb lv wv vs w (b, b.at a0 ++ constL (64 - (b.at a0).length) 0)) := by
  obtain ⟨q, n, c, x0, m0, e0, hwv, han0, hv0, hS, hm⟩ := h.word a0 ha
  have hcw := h.cw
  have hcg := h.cg
  rw [hwv] at hcw
  have hbb := h.lt
  rw [← hm] at hl
  have hm64 : m0 ≤ 8 := by omega
  have hm1 : 1 ≤ m0 := by omega
  have hmI : (64 : Int) - (m0 : Int) = ((64 - m0 : Nat) : Int) := by omega
  have Hmx := Lib.hid (show max 1 (min ((64 - m0 : Nat) : Int) 64) = ((64 - m0 : Nat) : Int) by omega)
  have H := Lib.hid h
  have HK0 := Lib.hid hk0
  have HC : Hid (∀ u : World, Below w.heap.size w u → Calls Tryz.prog 25 #[.slice x0 m0 e0] u fun e w' => ∃ v', e = .returned v' ∧ w'.ownsRow u.heap.size 3 1 v' m0 ((b.at a0).map (Value.int .i64)) ∧ Below u.heap.size u w') := Lib.hid (fun u hb => by
    have := clone_any _ _ u (hS.kept (Kept.ofBelow hb)) (by rintro e; rw [e] at hm; simp at hm; omega) (by omega)
    rw [← hm] at this
    exact this)
  have HM := Lib.hid hm
  clear h hS hwv hk0 hl hm
  have hb1 : Below w.heap.size w (w.alloc (.cells #[.int .i64 d.op, .int .i64 d.w, .int .u64 d.n, .int .i64 d.k0, .int .i64 d.k1, .int .i64 d.k2] 49)) := by (repeat (first | with_reducible exact Below.refl _ _ | assumption | with_reducible refine below_drewN ?_ _ | with_reducible refine Below.drew ?_ | with_reducible refine Below.setRow ?_ ?_ _ | with_reducible refine Below.alloc ?_ ?_ _ | with_reducible refine Below.setCell ?_ ?_ _ | with_reducible exact Nat.le_refl _ | (focus (simp; done)) | (focus (simp; omega)) | omega))
  go_enter Tryz.func47, Tryz.ntmps47
  (repeat (first | (with_reducible first | refine xA ?_ | refine xB ?_ | refine xC ?_ | refine xD ?_ | refine xH ?_ | refine xI rfl ?_ | refine xE ?_ | refine xF ?_ | refine xG ?_) | go_skip | go_guarded | (go_at_call 64; (with_reducible refine (kid_any d bb q n c a0 x0 m0 e0 0 _ (cell_keep hb1 hcw) (cell_keep hb1 hv0) han0 (.inl ⟨rfl, HK0.out⟩)).mono ?_); rintro _ u1 ⟨rfl, hbk⟩; replace hb1 := hb1.trans (hbk.mono hb1.size); clear hbk) | go_values | go_skip | go_guarded | go_step | go_upon | go_back | ((with_reducible show Oper.upon _ _ _ _ _ _); go_simp) | (dsimp only)))
  refine wp_region_held (S := fun u => u.cell? ⟨bb, 28, none⟩ = some (.pointer (some ⟨gb, 0, none⟩))) (by kernel_rfl) ?_; replace hb1 : Below w.heap.size w ({ u1 with drawn := u1.drawn + 1 } : World) := hb1.trans ⟨rfl, rfl, rfl, Nat.le_refl _, fun _ _ => rfl⟩; generalize ({ u1 with drawn := u1.drawn + 1 } : World) = u0 at *; have HSC : u0.cell? ⟨bb, 28, none⟩ = some (.pointer (some ⟨gb, 0, none⟩)) := cell_keep hb1 hcg
  refine wpAnyH_take (i := 0) (v := .slice x0 m0 e0) rfl (by kernel_rfl) (by kernel_rfl) (by kernel_rfl) (fun _ _ _ h => h) (Or.inl ⟨rfl, fun w _ => by go_simp⟩) HSC ?_; simp only [Act.put, qz1, qz2, qz3, qz4, qz5, qz6]
  refine wpAnyH_take (i := 2) (v := .pointer (some ⟨bb, 0, none⟩)) rfl (by kernel_rfl) (by kernel_rfl) (by kernel_rfl) (fun _ _ _ h => h) (Or.inl ⟨rfl, fun w _ => by go_simp⟩) HSC ?_; simp only [Act.put, qz1, qz2, qz3, qz4, qz5, qz6]
  refine wpAnyH_take (i := 3) (v := .pointer (some ⟨bb, 0, none⟩)) rfl (by kernel_rfl) (by kernel_rfl) (by kernel_rfl) (fun _ _ _ h => h) (Or.inl ⟨rfl, fun w _ => by go_simp⟩) HSC ?_; simp only [Act.put, qz1, qz2, qz3, qz4, qz5, qz6]
  refine wpAnyH_take (i := 4) (v := .pointer (some ⟨bb, 28, none⟩)) rfl (by kernel_rfl) (by kernel_rfl) (by kernel_rfl) (fun _ _ _ h => h) (Or.inl ⟨rfl, fun w _ => by go_simp⟩) HSC ?_; simp only [Act.put, qz1, qz2, qz3, qz4, qz5, qz6]
  refine wpAnyH_take (i := 5) (v := .pointer (some ⟨gb, 0, none⟩)) rfl (by kernel_rfl) (by kernel_rfl) (by kernel_rfl) (fun _ _ _ h => h) (Or.inl ⟨rfl, fun w hw => by have h := hw; go_simp⟩) HSC ?_; simp only [Act.put, qz1, qz2, qz3, qz4, qz5, qz6]
  refine wpAnyH_take (i := 6) (v := .slice x0 m0 e0) rfl (by kernel_rfl) (by kernel_rfl) (by kernel_rfl) (fun _ _ _ h => h) (Or.inl ⟨rfl, fun w _ => by go_simp⟩) HSC ?_; simp only [Act.put, qz1, qz2, qz3, qz4, qz5, qz6]
  refine wpAnyH_take (i := 7) (v := .int .i64 m0) rfl (by kernel_rfl) (by kernel_rfl) (by kernel_rfl) (fun _ _ _ h => h) (Or.inl ⟨rfl, fun w _ => by go_simp⟩) HSC ?_; simp only [Act.put, qz1, qz2, qz3, qz4, qz5, qz6]
  refine wpAnyH_take (i := 8) (v := .int .i64 ((64 - m0 : Nat) : Int)) rfl (by kernel_rfl) (by kernel_rfl) (by kernel_rfl) (fun _ _ _ h => h) (Or.inl ⟨rfl, fun w _ => by have e : IntKind.i64.wrap ((64 - m0 : Nat) : Int) = ((64 - m0 : Nat) : Int) := IntWalk.i64_in _ ⟨by omega, by omega⟩; go_simp⟩) HSC ?_
  simp only [Act.put, qz1, qz2, qz3, qz4, qz5, qz6]
  refine wpAnyH_all (rs := [1]) (by kernel_rfl) (by simp) (fun i hi => ?_)
  obtain rfl : i = 1 := by simpa using hi
  refine wpOp_one rfl ?_
  (repeat (first | (with_reducible first | refine xA ?_ | refine xB ?_ | refine xC ?_ | refine xD ?_ | refine xH ?_ | refine xI rfl ?_ | refine xE ?_ | refine xF ?_ | refine xG ?_) | go_skip | go_guarded | (go_at_call 25; (with_reducible refine (HC.out _ hb1).mono ?_); rintro _ u2 ⟨v2, rfl, hO2, hbk⟩; have hu0 := hb1.size; have hs02 := hbk.size; replace hb1 := hb1.trans (hbk.mono hb1.size); replace HSC := cell_keep hbk HSC; clear hbk) | go_values | go_skip | go_guarded | go_step | go_upon | go_back | ((with_reducible show Oper.upon _ _ _ _ _ _); go_simp) | (dsimp only)))
  refine ⟨HSC, ?_⟩
  refine wpAnyH_all (rs := [9]) (by kernel_rfl) (by simp) (fun i hi => ?_)
  obtain rfl : i = 9 := by simpa using hi
  refine wpOp_one rfl ?_
  (repeat (first | (with_reducible first | refine xA ?_ | refine xB ?_ | refine xC ?_ | refine xD ?_ | refine xH ?_ | refine xI rfl ?_ | refine xE ?_ | refine xF ?_ | refine xG ?_) | go_skip | go_guarded | (go_at_call 61; (with_reducible refine (WordC_any u2 _ ((64 - m0 : Nat) : Int) 0 (Int.le_refl 0) (by decide) (64 - m0) Hmx.out).mono ?_); rintro _ u3 ⟨rfl, hO3, hbk⟩; replace hb1 := hb1.trans (hbk.mono hb1.size); replace HSC := cell_keep hbk HSC; have hO2' := owns_kept hO2 (Kept.ofBelow (X := fun _ => True) hbk) (fun _ _ => trivial); have hsz := hbk.size; clear hbk) | go_values | go_skip | go_guarded | go_step | go_upon | go_back | ((with_reducible show Oper.upon _ _ _ _ _ _); go_simp) | (dsimp only)))
  refine ⟨HSC, ?_⟩
  have hu3 : u0.heap.size ≤ u3.heap.size := by omega
  refine wpAnyH_all (rs := [10]) (by kernel_rfl) (by simp) (fun i hi => ?_)
  obtain rfl : i = 10 := by simpa using hi
  refine wpOp_one rfl ?_
  (repeat (first | (with_reducible first | refine xA ?_ | refine xB ?_ | refine xC ?_ | refine xD ?_ | refine xH ?_ | refine xI rfl ?_ | refine xE ?_ | refine xF ?_ | refine xG ?_) | go_skip | go_guarded | ((with_reducible refine wl_id ?_); refine wl_appendI rfl _ _ rfl u0.heap.size v2 m0 _ rfl hO2' u2.heap.size 0 (64 - m0) (64 - m0) _ rfl (constL_len _ _) hO3.row (by omega) hu3 ?_; intro v4 w4 hO4 hg4 hl4; (try simp only [Act.put, qz4, qz5, qz6])) | go_values | go_skip | go_guarded | go_step | go_upon | go_back | ((with_reducible show Oper.upon _ _ _ _ _ _); go_simp) | (dsimp only)))
  obtain ⟨k2, hk2⟩ : ∃ k2, v2.ownBlock = some k2 := own_some hO2' (by omega)
  have hk2b := hO2'.lt k2 hk2
  have hne : some bb ≠ v2.ownBlock := fun e => by rw [hk2] at e; injection e with e; omega
  have HSC4 := keep_cellr hg4 HSC hne
  refine ⟨HSC4, ?_⟩
  refine wpAnyH_all (rs := [11]) (by kernel_rfl) (by simp) (fun i hi => ?_)
  obtain rfl : i = 11 := by simpa using hi
  refine wpOp_one rfl ?_
  (repeat (first | (with_reducible first | refine xA ?_ | refine xB ?_ | refine xC ?_ | refine xD ?_ | refine xH ?_ | refine xI rfl ?_ | refine xE ?_ | refine xF ?_ | refine xG ?_) | go_values | go_skip | go_guarded | go_step | go_upon | go_back | ((with_reducible show Oper.upon _ _ _ _ _ _); go_simp) | (dsimp only)))
  refine ⟨HSC4, ?_⟩
  refine wpAnyH_done (by kernel_rfl) ?_ _
  (repeat (first | (with_reducible first | refine xA ?_ | refine xB ?_ | refine xC ?_ | refine xD ?_ | refine xH ?_ | refine xI rfl ?_ | refine xE ?_ | refine xF ?_ | refine xG ?_) | go_values | go_skip | go_guarded | go_step | go_upon | go_back | ((with_reducible show Oper.upon _ _ _ _ _ _); go_simp) | (dsimp only)))
  go_ret
  have hb4 := below_grown hb1 hg4 (fun k e => by rw [hk2] at e; injection e with e; omega)
  obtain ⟨k4, hk4⟩ : ∃ k4, v4.ownBlock = some k4 := own_some hO4 (by omega)
  have hk4b := hO4.lt k4 hk4
  obtain ⟨r1, r2⟩ := H.out.owned hb4 (q := k4) (by omega) hk4b.2
  rw [← HM.out]
  exact ⟨v4, _, iv, rv, rfl, fun k hk => .inl hk, r1, own_sl hO4 (fun k e => by rw [hk4] at e; injection e with e; subst e; exact r2), Kept.ofBelow hb4⟩
end
end Go.Proofs.YtmaogkgjiplckaaGreat

