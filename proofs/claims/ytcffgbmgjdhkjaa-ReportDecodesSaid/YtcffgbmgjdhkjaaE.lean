import Derived.Test.YtcffgbmgjdhkjaaD
set_option linter.unusedSimpArgs false
set_option linter.unusedVariables false
namespace Go.Proofs.Ytcffgbmgjdhkjaa
open Go.RowKit

theorem SlIs.cases {s : Nat} {f : Nd → List Value} {w : World} {v : Value} {ls : List Nd} (h : SlIs s f w v ls) :
    (∃ ao cap, v = .slice ao 0 cap ∧ ls = []) ∨ (∃ b o cap, v = .slice (some ⟨b, o, none⟩) ls.length cap ∧ ls ≠ [] ∧ RowAt s f w b o ls) := by
  obtain ⟨ao, cap, rfl, _, _, h4⟩ := h
  by_cases e : ls = []
  · subst e; exact .inl ⟨_, _, rfl, rfl⟩
  · obtain ⟨b, o, rfl, hr⟩ := h4 e
    exact .inr ⟨b, o, cap, rfl, e, hr⟩

theorem kidsI_bd (op : Int) : kidsI op = 0 ∨ kidsI op = 1 ∨ kidsI op = 2 ∨ kidsI op = 3 := by
  unfold kidsI; split
  · simp
  · split
    · simp
    · split <;> simp

theorem kids55_any (op wd n k0 k1 k2 : Int) (v : Value) (ls : List Nd) (w : World) (h : SlIs 6 Nd.cells w v ls) :
    Calls Try.prog 55 #[.agg #[.int .i64 op, .int .i64 wd, .int .u64 n, .int .i64 k0, .int .i64 k1, .int .i64 k2], v] w fun e w' =>
      Kids55 op k0 k1 k2 ls e ∧ Below w.heap.size w w' := by
  rcases h.cases with ⟨ao, cap, rfl, rfl⟩ | ⟨b, o, cap, rfl, _, HR⟩
  · rcases kidsI_bd op with hk | hk | hk | hk
    · exact kids55n_0 op wd n k0 k1 k2 ao cap w hk
    · exact kids55n_1 op wd n k0 k1 k2 ao cap w hk
    · exact kids55n_2 op wd n k0 k1 k2 ao cap w hk
    · exact kids55n_3 op wd n k0 k1 k2 ao cap w hk
  · rcases kidsI_bd op with hk | hk | hk | hk
    · exact kids55_0 op wd n k0 k1 k2 b o cap ls w hk HR
    · exact kids55_1 op wd n k0 k1 k2 b o cap ls w hk HR
    · exact kids55_2 op wd n k0 k1 k2 b o cap ls w hk HR
    · exact kids55_3 op wd n k0 k1 k2 b o cap ls w hk HR

theorem box_row (w : World) (d : Nd) (t : TypeId) : RowAt 6 Nd.cells (w.alloc (.cells #[.int .i64 d.op, .int .i64 d.w, .int .u64 d.n, .int .i64 d.k0, .int .i64 d.k1, .int .i64 d.k2] t)) w.heap.size 0 [d] := by
  intro i e hi j c hj
  match i, hi with
  | 0, hi =>
    obtain rfl : d = e := by simpa using hi
    match j, hj with
    | 0, hj => obtain rfl : _ = c := by simpa [Nd.cells] using hj
               simp [go_sem]
    | 1, hj => obtain rfl : _ = c := by simpa [Nd.cells] using hj
               simp [go_sem]
    | 2, hj => obtain rfl : _ = c := by simpa [Nd.cells] using hj
               simp [go_sem]
    | 3, hj => obtain rfl : _ = c := by simpa [Nd.cells] using hj
               simp [go_sem]
    | 4, hj => obtain rfl : _ = c := by simpa [Nd.cells] using hj
               simp [go_sem]
    | 5, hj => obtain rfl : _ = c := by simpa [Nd.cells] using hj
               simp [go_sem]
    | j + 6, hj => simp [Nd.cells] at hj
  | i + 1, hi => simp at hi

section
variable {ops : Array Oper} {rest : List Oper} {o : Oper} {a : Act} {w : World} {Q : Exit → Act → World → Prop}
theorem wl_ldNd {w0 : World} {b off : Nat} {ls : List Nd} (HR : RowAt 6 Nd.cells w0 b off ls) (hb : Below w0.heap.size w0 w) (i : Nat) (d : Nd) (hi : ls[i]? = some d) (hgd : o.guard = none) (x : Operand) (ho : o.op = .load 49 x)
    (hx : a.eval x = .pointer (some ⟨b, off + 6 * i, none⟩)) (h : wpList Try.prog ops Q rest (a.put o.dst (.agg #[.int .i64 d.op, .int .i64 d.w, .int .u64 d.n, .int .i64 d.k0, .int .i64 d.k1, .int .i64 d.k2])) w) : wpList Try.prog ops Q (o :: rest) a w :=
  wpList_plain hgd fun _ hK => by
    have hc := fun j c hj => cell_keep hb (HR i d hi j c hj)
    simp only [← Nat.add_assoc] at hc
    unfold Oper.wp execOp
    simp only [ho, hx, Sem.run_bind, ld49 w _ _ _ hc, Result.andThen_ok]
    exact hK _ _ h
end

/-- a node's error, behind a list -/
def rightE (d : Nd) (ls : List Nd) : Int :=
  if d.op < 0 ∨ 24 < d.op then 4 else
  match kidsR d.op d.k0 d.k1 d.k2 ls with
  | none => 9
  | some (a, b, c) => if wideB d.op d.w a b c then (if numB d.op d.w d.n then 0 else 3) else 8

theorem wide0 {op wd a b c : Int} (h : (!wideB op wd a b c) = false) (h0 : op = 0) : wd = 1 ∨ wd = 8 ∨ wd = 64 := by
  subst h0
  simp [wideB, kidsI, leafB] at h
  omega

set_option maxHeartbeats 1000000 in
theorem right_any (op wd n k0 k1 k2 : Int) (v : Value) (ls : List Nd) (w : World) (h : SlIs 6 Nd.cells w v ls) (hn : 0 ≤ n) :
    Calls Try.prog 51 #[.agg #[.int .i64 op, .int .i64 wd, .int .u64 n, .int .i64 k0, .int .i64 k1, .int .i64 k2], v] w fun e w' => e = .returned (.int .i64 (rightE ⟨op, wd, n, k0, k1, k2⟩ ls)) ∧ Below w.heap.size w w' := by
  have HX := box_row w ⟨op, wd, n, k0, k1, k2⟩ 49
  dsimp only at HX
  have HB : Below w.heap.size w (w.alloc (.cells #[.int .i64 op, .int .i64 wd, .int .u64 n, .int .i64 k0, .int .i64 k1, .int .i64 k2] 49)) := by (repeat (first | with_reducible exact Below.refl _ _ | assumption | with_reducible refine below_drewN ?_ _ | with_reducible refine Below.drew ?_ | with_reducible refine Below.setRow ?_ ?_ _ | with_reducible refine Below.alloc ?_ ?_ _ | with_reducible refine Below.setCell ?_ ?_ _ | with_reducible exact Nat.le_refl _ | (focus (simp; done)) | (focus (simp; omega)) | omega))
  go_enter Try.func51, Try.ntmps51
  (repeat' (first | with_reducible refine xThenN ?_ | with_reducible refine xThenE ?_ | with_reducible refine xThenR ?_ | with_reducible refine xThenP ?_ | with_reducible refine xBlockEq ?_ | with_reducible refine xBlockNe rfl ?_ | with_reducible refine xBlockN ?_ | with_reducible refine xBlockR ?_ | with_reducible refine xBlockP ?_ | (go_at_call 55; (with_reducible refine (kids55_any _ _ _ _ _ _ _ ls _ (h.below (by (repeat (first | with_reducible exact Below.refl _ _ | assumption | with_reducible refine below_drewN ?_ _ | with_reducible refine Below.drew ?_ | with_reducible refine Below.setRow ?_ ?_ _ | with_reducible refine Below.alloc ?_ ?_ _ | with_reducible refine Below.setCell ?_ ?_ _ | with_reducible exact Nat.le_refl _ | (focus (simp; done)) | (focus (simp; omega)) | omega))))).mono ?_); rintro e w1 ⟨⟨x, y, z, ok, rfl, hR⟩, hb⟩; (have hsz := HB.size; replace HX := HX.below (Below.trans (by (repeat (first | with_reducible exact Below.refl _ _ | assumption | with_reducible refine below_drewN ?_ _ | with_reducible refine Below.drew ?_ | with_reducible refine Below.setRow ?_ ?_ _ | with_reducible refine Below.alloc ?_ ?_ _ | with_reducible refine Below.setCell ?_ ?_ _ | with_reducible exact Nat.le_refl _ | (focus (simp; done)) | (focus (simp; omega)) | omega))) (hb.mono (by first | omega | (simp; done) | (simp; omega)))); replace HB := HB.trans (Below.trans (by (repeat (first | with_reducible exact Below.refl _ _ | assumption | with_reducible refine below_drewN ?_ _ | with_reducible refine Below.drew ?_ | with_reducible refine Below.setRow ?_ ?_ _ | with_reducible refine Below.alloc ?_ ?_ _ | with_reducible refine Below.setCell ?_ ?_ _ | with_reducible exact Nat.le_refl _ | (focus (simp; done)) | (focus (simp; omega)) | omega))) (hb.mono (by first | omega | (simp; done) | (simp; omega)))); clear hb)) | (go_at_call 56; (with_reducible refine (wide_any _ _ _ _ _ _ _ _ _ _).mono ?_); rintro e w1 ⟨rfl, hb⟩; (have hsz := HB.size; replace HX := HX.below (Below.trans (by (repeat (first | with_reducible exact Below.refl _ _ | assumption | with_reducible refine below_drewN ?_ _ | with_reducible refine Below.drew ?_ | with_reducible refine Below.setRow ?_ ?_ _ | with_reducible refine Below.alloc ?_ ?_ _ | with_reducible refine Below.setCell ?_ ?_ _ | with_reducible exact Nat.le_refl _ | (focus (simp; done)) | (focus (simp; omega)) | omega))) (hb.mono (by first | omega | (simp; done) | (simp; omega)))); replace HB := HB.trans (Below.trans (by (repeat (first | with_reducible exact Below.refl _ _ | assumption | with_reducible refine below_drewN ?_ _ | with_reducible refine Below.drew ?_ | with_reducible refine Below.setRow ?_ ?_ _ | with_reducible refine Below.alloc ?_ ?_ _ | with_reducible refine Below.setCell ?_ ?_ _ | with_reducible exact Nat.le_refl _ | (focus (simp; done)) | (focus (simp; omega)) | omega))) (hb.mono (by first | omega | (simp; done) | (simp; omega)))); clear hb)) | (go_at_call 57; (with_reducible refine (number_any _ _ _ _ _ _ _ hn (fun h0 => wide0 (by assumption) h0)).mono ?_); rintro e w1 ⟨rfl, hb⟩; (have hsz := HB.size; replace HX := HX.below (Below.trans (by (repeat (first | with_reducible exact Below.refl _ _ | assumption | with_reducible refine below_drewN ?_ _ | with_reducible refine Below.drew ?_ | with_reducible refine Below.setRow ?_ ?_ _ | with_reducible refine Below.alloc ?_ ?_ _ | with_reducible refine Below.setCell ?_ ?_ _ | with_reducible exact Nat.le_refl _ | (focus (simp; done)) | (focus (simp; omega)) | omega))) (hb.mono (by first | omega | (simp; done) | (simp; omega)))); replace HB := HB.trans (Below.trans (by (repeat (first | with_reducible exact Below.refl _ _ | assumption | with_reducible refine below_drewN ?_ _ | with_reducible refine Below.drew ?_ | with_reducible refine Below.setRow ?_ ?_ _ | with_reducible refine Below.alloc ?_ ?_ _ | with_reducible refine Below.setCell ?_ ?_ _ | with_reducible exact Nat.le_refl _ | (focus (simp; done)) | (focus (simp; omega)) | omega))) (hb.mono (by first | omega | (simp; done) | (simp; omega)))); clear hb)) | ((with_reducible refine wl_id ?_); refine wl_ldNd HX (by (repeat (first | with_reducible exact Below.refl _ _ | assumption | with_reducible refine below_drewN ?_ _ | with_reducible refine Below.drew ?_ | with_reducible refine Below.setRow ?_ ?_ _ | with_reducible refine Below.alloc ?_ ?_ _ | with_reducible refine Below.setCell ?_ ?_ _ | with_reducible exact Nat.le_refl _ | (focus (simp; done)) | (focus (simp; omega)) | omega))) 0 _ rfl rfl _ rfl rfl ?_; simp only [Act.put, List.setIfInBounds_toArray, List.set_cons_succ, List.set_cons_zero]; (try dsimp only)) | go_values | go_skip | go_guarded | go_step | go_upon | go_back | (dsimp only)))
  all_goals
    have hsz := HB.size
    go_ret
    refine ⟨ret_int ?_, by first | ((repeat (first | with_reducible exact Below.refl _ _ | assumption | with_reducible refine below_drewN ?_ _ | with_reducible refine Below.drew ?_ | with_reducible refine Below.setRow ?_ ?_ _ | with_reducible refine Below.alloc ?_ ?_ _ | with_reducible refine Below.setCell ?_ ?_ _ | with_reducible exact Nat.le_refl _ | (focus (simp; done)) | (focus (simp; omega)) | omega)); done) | exact HB | exact HB.trans (by (repeat (first | with_reducible exact Below.refl _ _ | assumption | with_reducible refine below_drewN ?_ _ | with_reducible refine Below.drew ?_ | with_reducible refine Below.setRow ?_ ?_ _ | with_reducible refine Below.alloc ?_ ?_ _ | with_reducible refine Below.setCell ?_ ?_ _ | with_reducible exact Nat.le_refl _ | (focus (simp; done)) | (focus (simp; omega)) | omega)))⟩
    unfold rightE
    simp_all

end Go.Proofs.Ytcffgbmgjdhkjaa
