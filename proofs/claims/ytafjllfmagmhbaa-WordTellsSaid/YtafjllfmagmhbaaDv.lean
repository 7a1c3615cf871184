import Derived.Test.YtafjllfmagmhbaaZ
import Derived.Test.YtafjllfmagmhbaaTail
import Derived.OrdersHeld
set_option linter.unusedSimpArgs false
set_option linter.unusedVariables false
namespace Go.Proofs.Ytafjllfmagmhbaa
open Go.RowKit

section
variable {P : Program} {ops : Array Oper} {Q : Exit → Act → World → Prop} {a : Act} {w : World} {o : Oper} {i : Nat} {K : Act → World → Prop}
/-- one operation of a region that draws its order, walked as a list of one -/
theorem wpOp_one (hi : ops[i]? = some o) (h : wpList P ops (Exit.then K Q) [o] a w) : wpOp P ops Q i K a w := by
  unfold wpOp
  simp only [hi]
  unfold wpList at h
  split
  · rename_i hw
    rw [if_pos hw] at h
    rcases h with h | ⟨h1, a0, w0, h2⟩
    · refine .inl ?_
      unfold Oper.wp at *
      generalize (execOp a.eval o).run P w = r at *
      cases r with
      | ok n w' => cases n <;> simp only [Oper.upon] at h ⊢ <;> first | exact h | exact Calls.mono h (fun e w'' he => by cases e <;> first | exact he | (obtain ⟨a1, w1, h1⟩ := he; exact ⟨a1, w1, h1⟩)) | exact Rows.mono h (fun _ _ he => he)
      | halt x w' => cases x <;> simp only [Oper.upon] at h ⊢ <;> exact h
    · exact .inr ⟨h1, a0, w0, h2⟩
  · rename_i hw
    rw [if_neg hw] at h
    exact h
end

theorem res29two {fn : Func} {p q : Tmp} (h : fn.results = #[.cell p 29, .cell q 29]) (tmps : Array Value) (w : World) (b n c m : Nat)
    (hp : tmps.getD p undef = .pointer (some ⟨b, 0, none⟩)) (hq : tmps.getD q undef = .pointer (some ⟨c, 0, none⟩))
    (hb : w.heap[b]? = some (.cells (bw n) 29 (0, 0))) (hc : w.heap[c]? = some (.cells (bw m) 29 (0, 0))) : (results fn tmps).run Try.prog w = .ok (.tuple #[.agg (bw n), .agg (bw m)]) w := by
  have hp' : tmps[p]?.getD undef = .pointer (some ⟨b, 0, none⟩) := by simpa using hp
  have hq' : tmps[q]?.getD undef = .pointer (some ⟨c, 0, none⟩) := by simpa using hq
  have r1 := run_loadVar_row w b 29 29 (bw n) (0, 0) _ hb Try.underlying29 rfl (by rw [bw_size]; exact (zero_of_info zero29).2)
  have r2 := run_loadVar_row w c 29 29 (bw m) (0, 0) _ hc Try.underlying29 rfl (by rw [bw_size]; exact (zero_of_info zero29).2)
  simp [results, h, hp', hq', asAddr, r1, r2]

theorem yields_loadL {ops : Array Oper} {B : Nat} {l : List (Array Value × TypeId)} {S : World → Prop} {o : Oper} {a : Act} (hS : ∀ w, S w → MemL w B l) (i n : Nat) (hi : l[i]? = some (bw n, 29)) (hw : Region.wanted o (yielded ops a.tmps) = true)
    (x : Operand) (ho : o.op = .load 29 x) (hx : a.eval x = .pointer (some ⟨B + i, 0, none⟩)) : YieldsIf Try.prog ops S o (.agg (bw n)) a := by
  refine .inl ⟨hw, fun w hw' => ?_⟩
  unfold execOp
  simp only [ho, hx, Sem.run_bind, load29 w _ n ((hS w hw').get i hi), Result.andThen_ok]
  rfl

theorem build29 (w : World) : (Instr.build 29 #[]).run Try.prog w = .ok (.agg (bw 0)) w := by kernel_rfl

theorem yields_build {ops : Array Oper} {S : World → Prop} {o : Oper} {a : Act} (hw : Region.wanted o (yielded ops a.tmps) = true) (ho : o.op = .build 29 #[]) : YieldsIf Try.prog ops S o (.agg (bw 0)) a := by
  refine .inl ⟨hw, fun w _ => ?_⟩
  unfold execOp
  have e : (#[] : Array (Nat × Operand)).map (fun p => (p.1, a.eval p.2)) = #[] := by simp
  simp only [ho, e, Sem.run_bind, build29 w, Result.andThen_ok]
  rfl

set_option maxRecDepth 100000 in
set_option maxHeartbeats 1000000 in
theorem div_zero (W x : Nat) (w : World) (hW : W ≤ 64) :
    Calls Try.prog 32 #[.int .i64 W, .agg (bw x), .agg (bw 0)] w fun e w' => e = .returned (.tuple #[.agg (bw (2 ^ W - 1)), .agg (bw x)]) ∧ Below w.heap.size w w' := by
  have hz := (zero_of_info zero29).1
  have h064 : Hid (0 < 18446744073709551616) := Lib.hid (by decide)
  go_enter Try.func32, Try.ntmps32
  (repeat (first | with_reducible refine xThenN ?_ | with_reducible refine xThenE ?_ | with_reducible refine xThenR ?_ | with_reducible refine xThenP ?_ | with_reducible refine xBlockEq ?_ | with_reducible refine xBlockNe rfl ?_ | with_reducible refine xBlockN ?_ | with_reducible refine xBlockR ?_ | with_reducible refine xBlockP ?_ | ((with_reducible refine wl_load29 rfl _ rfl ?_); apply Exists.intro; apply Exists.intro; refine ⟨rfl, ?_, ?_⟩; (· (repeat (first | (with_reducible assumption) | ((with_reducible refine heap_new _ _ _ ?_); (simp; done)) | ((with_reducible refine (heap_old _ _ _ ?_).trans ?_); (· (first | (simp; done) | (simp; omega) | omega))) | (with_reducible refine row_same ?_ _) | ((with_reducible refine row_other ?_ _ ?_); rotate_left; (· (first | (simp; done) | (simp; omega) | omega))) | (with_reducible refine row_cell _ _ _ _ _ ?_) | ((with_reducible refine (heap_setCell_other _ _ _ _ ?_).trans ?_); (· (first | (simp; done) | (simp; omega) | omega))) | rw [heap_drew] | rw [World.heap_drewN]))); simp only [Act.put, List.setIfInBounds_toArray, List.set_cons_succ, List.set_cons_zero]) | (go_at_call 15; (with_reducible refine (num_any _ _ (by assumption)).mono ?_); rintro e w1 ⟨rfl, hb⟩) | go_values | go_skip | go_guarded | go_step | go_upon | go_back | (dsimp only)))
  have HM : MemL w1 w.heap.size [(bw x, 29), (bw 0, 29), (bw 0, 29), (bw 0, 29)] := (mem4 _ _ _ _ _ _ _ _ _).1.below hb
  have HB : Below w.heap.size w w1 := (by (repeat (first | with_reducible exact Below.refl _ _ | assumption | with_reducible refine below_drewN ?_ _ | with_reducible refine Below.drew ?_ | with_reducible refine Below.setRow ?_ ?_ _ | with_reducible refine Below.alloc ?_ ?_ _ | with_reducible refine Below.setCell ?_ ?_ _ | with_reducible exact Nat.le_refl _ | (focus (simp; done)) | (focus (simp; omega)) | omega)) : Below w.heap.size w _).trans (hb.mono (by simp; omega))
  clear hb
  refine wp_region_held (S := fun w' => MemL w' w.heap.size [(bw x, 29), (bw 0, 29)]) (by kernel_rfl) ?_
  have HD : Below w.heap.size w1 { w1 with drawn := w1.drawn + 1 } := ⟨rfl, rfl, rfl, Nat.le_refl _, fun _ _ => rfl⟩
  replace HM : MemL { w1 with drawn := w1.drawn + 1 } w.heap.size [(bw x, 29), (bw 0, 29), (bw 0, 29), (bw 0, 29)] := HM
  replace HB := HB.trans HD
  clear HD
  generalize ({ w1 with drawn := w1.drawn + 1 } : World) = w2 at *
  refine wpAnyH_take (i := 0) rfl (by kernel_rfl) (by kernel_rfl) (by kernel_rfl) (fun _ _ _ h => h) (Or.inl ⟨rfl, fun w _ => rfl⟩) (HM.pre 2) ?_
  simp only [Act.put, List.setIfInBounds_toArray, List.set_cons_succ, List.set_cons_zero]
  refine wpAnyH_take (i := 1) rfl (by kernel_rfl) (by kernel_rfl) (by kernel_rfl) (fun _ _ _ h => h) (yields_build rfl rfl) (HM.pre 2) ?_
  simp only [Act.put, List.setIfInBounds_toArray, List.set_cons_succ, List.set_cons_zero]
  refine wpAnyH_take (i := 3) rfl (by kernel_rfl) (by kernel_rfl) (by kernel_rfl) (fun _ _ _ h => h) (yields_loadL (fun _ h => h) 0 x rfl rfl _ rfl rfl) (HM.pre 2) ?_
  simp only [Act.put, List.setIfInBounds_toArray, List.set_cons_succ, List.set_cons_zero]
  refine wpAnyH_all (rs := [2]) (by kernel_rfl) (by simp) (fun i hi => ?_)
  obtain rfl : i = 2 := by simpa using hi
  refine wpOp_one rfl ?_
  (repeat (first | with_reducible refine xThenN ?_ | with_reducible refine xThenE ?_ | with_reducible refine xThenR ?_ | with_reducible refine xThenP ?_ | with_reducible refine xBlockEq ?_ | with_reducible refine xBlockNe rfl ?_ | with_reducible refine xBlockN ?_ | with_reducible refine xBlockR ?_ | with_reducible refine xBlockP ?_ | (go_at_call 24; (with_reducible refine (not_any _ _ _ hW).mono ?_); rintro e w1 ⟨rfl, hb⟩; (replace HM := HM.below hb; replace HB := HB.trans (hb.mono HB.size); clear hb)) | go_values | go_skip | go_guarded | go_step | go_upon | go_back | (dsimp only)))
  refine ⟨HM.pre 2, ?_⟩
  refine wpAnyH_all (rs := [4]) (by kernel_rfl) (by simp) (fun i hi => ?_)
  obtain rfl : i = 4 := by simpa using hi
  refine wpOp_one rfl ?_
  (repeat (first | with_reducible refine xThenN ?_ | with_reducible refine xThenE ?_ | with_reducible refine xThenR ?_ | with_reducible refine xThenP ?_ | with_reducible refine xBlockEq ?_ | with_reducible refine xBlockNe rfl ?_ | with_reducible refine xBlockN ?_ | with_reducible refine xBlockR ?_ | with_reducible refine xBlockP ?_ | ((with_reducible refine wl_id ?_); refine wl_storeL HM 2 _ _ rfl rfl _ _ rfl rfl rfl ?_; intro w1 HM1 hb; (simp only [List.set_cons_succ, List.set_cons_zero] at HM1); clear HM; have HM := HM1; clear HM1; replace HB := HB.trans hb; clear hb; simp only [Act.put, List.setIfInBounds_toArray, List.set_cons_succ, List.set_cons_zero]) | go_values | go_skip | go_guarded | go_step | go_upon | go_back | (dsimp only)))
  refine ⟨HM.pre 2, ?_⟩
  refine wpAnyH_all (rs := [5]) (by kernel_rfl) (by simp) (fun i hi => ?_)
  obtain rfl : i = 5 := by simpa using hi
  refine wpOp_one rfl ?_
  (repeat (first | with_reducible refine xThenN ?_ | with_reducible refine xThenE ?_ | with_reducible refine xThenR ?_ | with_reducible refine xThenP ?_ | with_reducible refine xBlockEq ?_ | with_reducible refine xBlockNe rfl ?_ | with_reducible refine xBlockN ?_ | with_reducible refine xBlockR ?_ | with_reducible refine xBlockP ?_ | ((with_reducible refine wl_id ?_); refine wl_storeL HM 3 _ _ rfl rfl _ _ rfl rfl rfl ?_; intro w1 HM1 hb; (simp only [List.set_cons_succ, List.set_cons_zero] at HM1); clear HM; have HM := HM1; clear HM1; replace HB := HB.trans hb; clear hb; simp only [Act.put, List.setIfInBounds_toArray, List.set_cons_succ, List.set_cons_zero]) | go_values | go_skip | go_guarded | go_step | go_upon | go_back | (dsimp only)))
  refine ⟨HM.pre 2, ?_⟩
  refine wpAnyH_done (by kernel_rfl) ?_ _
  (repeat (first | with_reducible refine xThenN ?_ | with_reducible refine xThenE ?_ | with_reducible refine xThenR ?_ | with_reducible refine xThenP ?_ | with_reducible refine xBlockEq ?_ | with_reducible refine xBlockNe rfl ?_ | with_reducible refine xBlockN ?_ | with_reducible refine xBlockR ?_ | with_reducible refine xBlockP ?_ | go_values | go_skip | go_guarded | go_step | go_upon | go_back | (dsimp only)))
  refine bodyPost_ret (res29two rfl _ _ _ _ _ _ rfl rfl (HM.get 2 rfl) (HM.get 3 rfl)) rfl ⟨?_, HB⟩
  simp

end Go.Proofs.Ytafjllfmagmhbaa
