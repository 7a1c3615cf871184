import Derived.Test.YtmaogkgjiplckaaGL
import Derived.Recover
import Derived.Defers
set_option linter.unusedSimpArgs false
set_option linter.unusedVariables false
namespace Go.Proofs.Ytmaogkgjiplckaa
open Go.RowKit

theorem idle_w (po : Addr) (w : World) :
    CallsD Try.prog 74 #[.pointer (some po)] .returning w fun e u' w' => e = .returned (.tuple #[]) ∧ u' = .returning ∧ w' = w := by
  refine callsD_of_wpS Try.func74 rfl fun c₀ cs hu => ?_
  have e : #[Value.pointer (some po)] ++ Array.replicate (Try.f74.ntmps - #[Value.pointer (some po)].size) undef = #[.pointer (some po), undef, undef, undef, undef, undef, undef, undef, undef, undef, undef, undef, undef, undef, undef, undef, undef] := by rw [Try.ntmps74]; rfl
  rw [e]
  apply wpS_seq
  apply wpS_region
  simp [wpOpsS, go_sem, recoverD, hu, Exit.thenS]
  refine wpS_of_wp ?_
  (repeat (first | (with_reducible first | refine xA ?_ | refine xB ?_ | refine xC ?_ | refine xD ?_ | refine xH ?_ | refine xI rfl ?_ | refine xE ?_ | refine xF ?_ | refine xG ?_) | go_values | go_skip | go_guarded | go_step | go_upon | go_back | ((with_reducible show Oper.upon _ _ _ _ _ _); go_simp) | (dsimp only)))
  refine ⟨rfl, .returning, ?_, _, results_none rfl _ _ _, rfl, rfl, rfl⟩
  cases c₀; simp_all

theorem idle_i (po : Addr) (w : World) :
    CallsD Try.prog 71 #[.pointer (some po)] .returning w fun e u' w' => e = .returned (.tuple #[]) ∧ u' = .returning ∧ w' = w := by
  refine callsD_of_wpS Try.func71 rfl fun c₀ cs hu => ?_
  have e : #[Value.pointer (some po)] ++ Array.replicate (Try.f71.ntmps - #[Value.pointer (some po)].size) undef = #[.pointer (some po), undef, undef, undef, undef, undef, undef, undef, undef, undef, undef, undef, undef, undef, undef, undef, undef] := by rw [Try.ntmps71]; rfl
  rw [e]
  apply wpS_seq
  apply wpS_region
  simp [wpOpsS, go_sem, recoverD, hu, Exit.thenS]
  refine wpS_of_wp ?_
  (repeat (first | (with_reducible first | refine xA ?_ | refine xB ?_ | refine xC ?_ | refine xD ?_ | refine xH ?_ | refine xI rfl ?_ | refine xE ?_ | refine xF ?_ | refine xG ?_) | go_values | go_skip | go_guarded | go_step | go_upon | go_back | ((with_reducible show Oper.upon _ _ _ _ _ _); go_simp) | (dsimp only)))
  refine ⟨rfl, .returning, ?_, _, results_none rfl _ _ _, rfl, rfl, rfl⟩
  cases c₀; simp_all

theorem ld_w (w : World) (b : Nat) (a : Option Addr) (n c : Nat) (h : w.cell? ⟨b, 0, none⟩ = some (.slice a n c)) : (loadVar 26 ⟨b, 0, none⟩).run Try.prog w = .ok (.slice a n c) w := by go_simp

theorem door_w {R : Ending → World → Prop} {tmps : Array Value} {w1 : World} {q : Nat} {a : Option Addr} {n c : Nat} (h2 : tmps.getD 2 undef = .pointer (some ⟨q, 0, none⟩))
    (HO : w1.cell? ⟨q, 0, none⟩ = some (.slice a n c)) (h : R (.returned (.slice a n c)) w1) :
    bodyPostD Try.prog Try.f39 R Exit.ret { tmps := tmps, defers := [{ target := Target.fn (Fn.func 74) #[.pointer (some ⟨q, 0, none⟩)], args := #[] }] } w1 := by
  refine leaves_cons (f := 74) (args := #[.pointer (some ⟨q, 0, none⟩)]) (by simp) (by simp [go_sem]) ?_
  refine (idle_w ⟨q, 0, none⟩ _).mono ?_
  rintro e u' w'' ⟨rfl, rfl, rfl⟩
  have h2' : tmps[2]?.getD undef = .pointer (some ⟨q, 0, none⟩) := by simpa using h2
  exact ⟨_, by simp [results, Try.results39, h2', asAddr, ld_w _ q a n c HO], h⟩

theorem chooseC_any {X : Nat → Prop} {base gb : Nat} {g : G} {fr : List Int} {s : Nat → Bool} (w : World) (hG : GR X base w gb g) (hba : base ≤ w.heap.size) (c : Int) (vx vy : Value) (xs ys : List Int) (hX : SlX X w vx xs) (hY : SlX X w vy ys) (hxy : ys.length = xs.length) (hn : g.n + 3 * xs.length ≤ 1048576) (hn1 : xs.length ≤ 1000000) (hc : isL g.n c) (hx : ∀ x ∈ xs, isL g.n x) (hy : ∀ y ∈ ys, isL g.n y) (hI : GI g fr s) (r : G × List Int) (hr : Hid (chooseG g c xs ys = r))
    (b0 b1 b2 b3 : Nat) (c0 : w.cell? ⟨b0, 0, none⟩ = some (.pointer (some ⟨gb, 0, none⟩))) (c1 : w.cell? ⟨b1, 0, none⟩ = some (.int .i64 c)) (c2 : w.cell? ⟨b2, 0, none⟩ = some vx) (c3 : w.cell? ⟨b3, 0, none⟩ = some vy) :
    Calls Try.prog 40 #[.pointer (some ⟨b0, 0, none⟩), .pointer (some ⟨b1, 0, none⟩), .pointer (some ⟨b2, 0, none⟩), .pointer (some ⟨b3, 0, none⟩)] w (Word1 X base gb xs.length w r) := by
  obtain ⟨ax, cx, rfl⟩ := hX.shape
  obtain ⟨ay, cy, rfl⟩ := hY.shape
  have H := Lib.hid (choose_any w hG hba c _ _ xs ys hX hY hxy hn hn1 hc hx hy hI r hr.out)
  clear hG hba hX hY hxy hn hn1 hc hx hy hI hr
  go_enter Try.func40, Try.ntmps40
  (repeat (first | (with_reducible first | refine xA ?_ | refine xB ?_ | refine xC ?_ | refine xD ?_ | refine xH ?_ | refine xI rfl ?_ | refine xE ?_ | refine xF ?_ | refine xG ?_) | go_skip | go_guarded | (go_at_call 41; (with_reducible refine (H.out).mono ?_); rintro _ w1 ⟨q, rfl, hO, hq, hG, hK⟩) | go_values | go_skip | go_guarded | go_step | go_upon | go_back | ((with_reducible show Oper.upon _ _ _ _ _ _); go_simp) | (dsimp only)))
  go_ret
  exact ⟨q, rfl, hO, hq, hG, hK⟩

theorem GR.less {X Y : Nat → Prop} {base gb : Nat} {w : World} {g : G} (h : GR X base w gb g) (hY : ∀ k, Y k → X k) : GR Y base w gb g := by
  obtain ⟨v, ma, mx, xs, h⟩ := h; exact ⟨v, ma, mx, xs, h.less hY⟩

/-- the answer's store into the box of the result: what is kept beside it -/
theorem word1_box {X : Nat → Prop} {base gb n : Nat} {w w1 w2 : World} {r : G × List Int} {q : Nat} (hO : OwnI w1 q n r.2) (hq : (w.alloc (.cells #[.slice none 0 0] 26)).heap.size ≤ q)
    (hG : GR (fun k => (X k ∨ k = w.heap.size) ∨ k = q) base w1 gb r.1) (hK : Kept (fun k => X k ∨ k = w.heap.size) (w.alloc (.cells #[.slice none 0 0] 26)) w1) (hX : ∀ k, X k → k < w.heap.size)
    (hg : w1.grownBy w2 (some w.heap.size)) : Word1 X base gb n w r (.returned (.slice (some ⟨q, 0, none⟩) n n)) w2 := by
  have hq' : w.heap.size + 1 ≤ q := by simpa using hq
  have hk12 : Kept (fun i => i ≠ w.heap.size) w1 w2 := ⟨hg.os, hg.tape, hg.output, hg.size, fun i hi hx => hg.block i hi (fun e => hx (by injection e))⟩
  refine ⟨q, rfl, hO.kept hk12 (show q ≠ w.heap.size by omega), by omega, (hG.other hg (.inl (.inr rfl))).less (fun k hk => hk.elim (fun h => .inl (.inl h)) .inr), ?_⟩
  refine (((Kept.refl X w).alloc (.cells #[.slice none 0 0] 26)).trans (hK.mono fun k _ h => .inl h)).grown hg ?_
  intro g e h1 h2
  injection e with e
  omega

set_option maxRecDepth 100000 in
theorem tryc_any {X : Nat → Prop} {base gb n : Nat} (w : World) (b0 b1 b2 b3 : Nat) (r : G × List Int) (hX : ∀ k, X k → k < w.heap.size)
    (hC : Calls Try.prog 40 #[.pointer (some ⟨b0, 0, none⟩), .pointer (some ⟨b1, 0, none⟩), .pointer (some ⟨b2, 0, none⟩), .pointer (some ⟨b3, 0, none⟩)] (w.alloc (.cells #[.slice none 0 0] 26)) (Word1 (fun k => X k ∨ k = w.heap.size) base gb n (w.alloc (.cells #[.slice none 0 0] 26)) r)) :
    Calls Try.prog 39 #[.func (Fn.func 40) #[] #[.pointer (some ⟨b0, 0, none⟩), .pointer (some ⟨b1, 0, none⟩), .pointer (some ⟨b2, 0, none⟩), .pointer (some ⟨b3, 0, none⟩)]] w (Word1 X base gb n w r) := by
  have hmf : ∀ (fn : Fn) (first cap : Array Value) (w : World), (Instr.makeFunc fn first cap).run Try.prog w = .ok (.func fn first cap) w := fun _ _ _ _ => rfl
  have HC := Lib.hid hC
  have HX := Lib.hid hX
  clear hC hX
  go_enter_defers Try.func39, Try.ntmps39
  (repeat (first | (with_reducible first | refine xA ?_ | refine xB ?_ | refine xC ?_ | refine xD ?_ | refine xH ?_ | refine xI rfl ?_ | refine xE ?_ | refine xF ?_ | refine xG ?_) | go_skip | go_guarded | (go_at_call 40; (with_reducible refine (HC.out).mono ?_); rintro _ w1 ⟨q, rfl, hO, hq, hG, hK⟩; have hh := hK.at (heap_alloc_new w _) (.inr rfl); have hc0 := cell_of_row w1 w.heap.size 0 _ _ _ hh; have hz0 := frozen_of_row w1 w.heap.size 0 _ _ hh; simp at hc0) | go_values | go_skip | go_guarded | go_step | go_upon | go_back | ((with_reducible show Oper.upon _ _ _ _ _ _); go_simp) | (dsimp only)))
  refine door_w (q := w.heap.size) (a := some ⟨q, 0, none⟩) (n := n) (c := n) rfl (by simp [World.cell?, heap_setCell_same _ _ _ _ _ _ hh]) ?_
  exact word1_box hO hq hG hK HX.out ⟨rfl, rfl, rfl, by simp, fun k hk hn => heap_setCell_other _ _ k _ (fun e => hn (by rw [e]))⟩

end Go.Proofs.Ytmaogkgjiplckaa
