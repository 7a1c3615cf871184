import Derived.Test.YtmaogkgjiplckaaGreatQW2
import Derived.Recover
import Derived.Defers
import Derived.Carry
import Derived.Maps.AppendAt
import Derived.Lib.SliceRun
import Derived.Shelf.Slices.Reverse
import Derived.Ground.SlgcProg
import Derived.Shelf.SlicesG.Cmp
import Derived.Ground.SlsfProg
import Derived.Shelf.SlSortCmp.Whole1
import Derived.Test.YtmaogkgjiplckaaGreatProg
import Derived.Sort.OwnSortedInts
import Derived.Shelf.SlSortFunc.HeapSort
set_option linter.unusedVariables false
set_option linter.unusedSimpArgs false
namespace Go.Proofs.YtmaogkgjiplckaaGreat
open Go.RowKit
def wordB (n m : Nat) (l : List Int) : Bool := decide (1 ≤ l.length ∧ l.length ≤ 64 ∧ l.length = m) && allL n l
set_option maxRecDepth 100000 in
set_option maxHeartbeats 1000000 in
theorem words_any {X : Nat → Prop} {base gb : Nat} {g : G} (w : World) (hG : GR X base w gb g) (bq m : Nat) (vs : List Value) (ls : List (List Int)) (l0 : List Int) (hq : w.heap[bq]? = some (.cells vs.toArray 31 (0, 0))) (hm : vs.length = m) (hS : SlsX (fun _ => True) w vs ls) (h0 : ls[0]? = some l0) (hll : ∀ l ∈ ls, l.length ≤ 1000000) (hm1 : m ≤ 1000) (r : Bool) (hr : Hid (ls.all (wordB g.n l0.length) = r)) :
    Calls Tryz.prog 76 #[.pointer (some ⟨gb, 0, none⟩), .slice (some ⟨bq, 0, none⟩) m m] w fun e w' => e = .returned (.bool r) ∧ GR X base w' gb g ∧ Below w.heap.size w w' := by
  have hmb : (m : Int) ≤ 1000 := by omega
  have hcell : ∀ (u : World), Below w.heap.size w u → ∀ (j : Nat) (x : Value), vs[j]? = some x → u.cell? ⟨bq, j, none⟩ = some x := by
    intro u hb j x hj
    have : u.heap[bq]? = some (.cells vs.toArray 31 (0, 0)) := (hb.block _ (lt_of_block hq)).trans hq
    simp [World.cell?, this, hj]
  have HC := Lib.hid hcell
  have HS := Lib.hid hS
  have HLL := Lib.hid hll
  have HM := Lib.hid hm
  have H0 := Lib.hid h0
  have hlen : ls.length = m := by rw [← hm]; exact hS.1.symm
  have HLen := Lib.hid hlen
  clear hq hcell hS hll hm h0 hm1 hlen
  go_enter Tryz.func76, Tryz.ntmps76
  (repeat (first | (with_reducible first | refine xA ?_ | refine xB ?_ | refine xC ?_ | refine xD ?_ | refine xH ?_ | refine xI rfl ?_ | refine xE ?_ | refine xF ?_ | refine xG ?_) | go_values | go_skip | go_guarded | go_step | go_upon | go_back | ((with_reducible show Oper.upon _ _ _ _ _ _); go_simp) | (dsimp only)))
  go_loopw [9] (fun i wr => ∃ k : Nat, k ≤ m ∧ i = .int .i64 k ∧ Hid (∀ j l, j < k → ls[j]? = some l → wordB g.n l0.length l = true) ∧ GR X base wr gb g ∧ Below w.heap.size w wr) (fun i _ => m - (intOf i).toNat)
  case atStart => exact ⟨0, Nat.zero_le _, rfl, Lib.hid (fun j l h => by omega), hG, Below.refl _ _⟩
  case round =>
    clear hG
    obtain ⟨k, hk, rfl, hgood, hG, hB⟩ := hrel
    rcases Nat.lt_or_ge k m with hlt | hge
    · obtain ⟨l, hl⟩ : ∃ l, ls[k]? = some l := ⟨_, List.getElem?_eq_getElem (by have := HLen.out; omega)⟩
      obtain ⟨v, hv⟩ : ∃ v, vs[k]? = some v := ⟨_, List.getElem?_eq_getElem (by have := HM.out; omega)⟩
      obtain ⟨v0, hv0⟩ : ∃ v, vs[0]? = some v := ⟨_, List.getElem?_eq_getElem (by have := HM.out; omega)⟩
      have hSl := (HS.out.2 k v l hv hl).kept (Kept.below hB fun k hk _ => hk)
      have hS0 := (HS.out.2 0 v0 l0 hv0 H0.out)
      have hc1 := HC.out _ hB k v hv
      have hc0 := HC.out _ hB 0 v0 hv0
      obtain ⟨a1, c1, rfl⟩ := hSl.shape
      obtain ⟨a0, c0, rfl⟩ := hS0.shape
      have hll := HLL.out l (List.mem_of_getElem? hl)
      have Hl := Lib.hid hl
      obtain ⟨q, hq⟩ : ∃ q, Hid (allL g.n l = q) := ⟨_, Lib.hid rfl⟩
      clear hS0 hv hv0 hl
      have hbad : wordB g.n l0.length l = false → Hid (r = false) := fun h => Lib.hid (by
        rw [← hr.out, List.all_eq_false]
        exact ⟨l, List.mem_of_getElem? Hl.out, by rw [h]; simp⟩)
      have Hbad := Lib.hid hbad
      clear hbad
      by_cases t1 : l.length < 1
      · have hR := Hbad.out (by unfold wordB; rw [decide_eq_false (by omega)]; rfl)
        have t1' : (l.length : Int) < 1 := by omega
        clear t1
        (repeat (first | (with_reducible first | refine xA ?_ | refine xB ?_ | refine xC ?_ | refine xD ?_ | refine xH ?_ | refine xI rfl ?_ | refine xE ?_ | refine xF ?_ | refine xG ?_) | go_skip | go_guarded | (go_at_call 81; (with_reducible refine (is_any _ _ _ hG hSl hll _ hq).mono ?_); rintro _ w1 ⟨rfl, hG1, hb1⟩) | go_values | go_skip | go_guarded | go_step | go_upon | go_back | ((with_reducible show Oper.upon _ _ _ _ _ _); go_simp) | (dsimp only)))
        go_ret
        exact ⟨ret_bool hR.out.symm, hG, hB⟩
      have t1' : ¬ (l.length : Int) < 1 := by omega
      by_cases t2 : 64 < l.length
      · have hR := Hbad.out (by unfold wordB; rw [decide_eq_false (by omega)]; rfl)
        have t2' : (64 : Int) < l.length := by omega
        clear t1 t2
        (repeat (first | (with_reducible first | refine xA ?_ | refine xB ?_ | refine xC ?_ | refine xD ?_ | refine xH ?_ | refine xI rfl ?_ | refine xE ?_ | refine xF ?_ | refine xG ?_) | go_skip | go_guarded | (go_at_call 81; (with_reducible refine (is_any _ _ _ hG hSl hll _ hq).mono ?_); rintro _ w1 ⟨rfl, hG1, hb1⟩) | go_values | go_skip | go_guarded | go_step | go_upon | go_back | ((with_reducible show Oper.upon _ _ _ _ _ _); go_simp) | (dsimp only)))
        go_ret
        exact ⟨ret_bool hR.out.symm, hG, hB⟩
      have t2' : ¬ (64 : Int) < l.length := by omega
      by_cases t3 : l.length = l0.length
      rotate_left
      · have hR := Hbad.out (by unfold wordB; rw [decide_eq_false (by omega)]; rfl)
        have t3' : ((l.length : Int) != (l0.length : Int)) = true := by simp; omega
        clear t1 t2 t3
        (repeat (first | (with_reducible first | refine xA ?_ | refine xB ?_ | refine xC ?_ | refine xD ?_ | refine xH ?_ | refine xI rfl ?_ | refine xE ?_ | refine xF ?_ | refine xG ?_) | go_skip | go_guarded | (go_at_call 81; (with_reducible refine (is_any _ _ _ hG hSl hll _ hq).mono ?_); rintro _ w1 ⟨rfl, hG1, hb1⟩) | go_values | go_skip | go_guarded | go_step | go_upon | go_back | ((with_reducible show Oper.upon _ _ _ _ _ _); go_simp) | (dsimp only)))
        go_ret
        exact ⟨ret_bool hR.out.symm, hG, hB⟩
      have t3' : ((l.length : Int) != (l0.length : Int)) = false := by simp; omega
      have HT := Lib.hid (show 1 ≤ l.length ∧ l.length ≤ 64 ∧ l.length = l0.length from ⟨by omega, by omega, t3⟩)
      clear t1 t2 t3
      cases q
      · have hR := Hbad.out (by unfold wordB; rw [hq.out]; simp)
        (repeat (first | (with_reducible first | refine xA ?_ | refine xB ?_ | refine xC ?_ | refine xD ?_ | refine xH ?_ | refine xI rfl ?_ | refine xE ?_ | refine xF ?_ | refine xG ?_) | go_skip | go_guarded | (go_at_call 81; (with_reducible refine (is_any _ _ _ hG hSl hll _ hq).mono ?_); rintro _ w1 ⟨rfl, hG1, hb1⟩) | go_values | go_skip | go_guarded | go_step | go_upon | go_back | ((with_reducible show Oper.upon _ _ _ _ _ _); go_simp) | (dsimp only)))
        go_ret
        exact ⟨ret_bool hR.out.symm, hG1, hB.trans (hb1.mono hB.size)⟩
      · (repeat (first | (with_reducible first | refine xA ?_ | refine xB ?_ | refine xC ?_ | refine xD ?_ | refine xH ?_ | refine xI rfl ?_ | refine xE ?_ | refine xF ?_ | refine xG ?_) | go_skip | go_guarded | (go_at_call 81; (with_reducible refine (is_any _ _ _ hG hSl hll _ hq).mono ?_); rintro _ w1 ⟨rfl, hG1, hb1⟩) | go_values | go_skip | go_guarded | go_step | go_upon | go_back | ((with_reducible show Oper.upon _ _ _ _ _ _); go_simp) | (dsimp only)))
        refine ⟨⟨k + 1, by omega, by go_num, Lib.hid (fun j l' hj hl' => ?_), hG1, hB.trans (hb1.mono hB.size)⟩, by simp [intOf]; omega⟩
        rcases Nat.lt_or_ge j k with h | h
        · exact hgood.out j l' h hl'
        · have : j = k := by omega
          subst this
          rw [Hl.out] at hl'
          cases hl'
          unfold wordB
          rw [decide_eq_true HT.out, hq.out]; rfl
    · obtain rfl : k = m := by omega
      have hR : Hid (r = true) := Lib.hid (by
        rw [← hr.out, List.all_eq_true]
        intro l hl
        obtain ⟨j, hj⟩ := List.mem_iff_getElem?.1 hl
        exact hgood.out j l (by have := HLen.out; have := (List.getElem?_eq_some_iff.1 hj).1; omega) hj)
      (repeat (first | (with_reducible first | refine xA ?_ | refine xB ?_ | refine xC ?_ | refine xD ?_ | refine xH ?_ | refine xI rfl ?_ | refine xE ?_ | refine xF ?_ | refine xG ?_) | go_values | go_skip | go_guarded | go_step | go_upon | go_back | ((with_reducible show Oper.upon _ _ _ _ _ _); go_simp) | (dsimp only)))
      go_ret
      exact ⟨ret_bool hR.out.symm, hG, hB⟩
end Go.Proofs.YtmaogkgjiplckaaGreat
namespace Go.Proofs.YtmaogkgjiplckaaGreat
open Go.RowKit
theorem idle_w (po : Addr) (w : World) :
    CallsD Tryz.prog 107 #[.pointer (some po)] .returning w fun e u' w' => e = .returned (.tuple #[]) ∧ u' = .returning ∧ w' = w := by
  refine callsD_of_wpS Tryz.func107 rfl fun c₀ cs hu => ?_
  have e : #[Value.pointer (some po)] ++ Array.replicate (Tryz.f107.ntmps - #[Value.pointer (some po)].size) undef = #[.pointer (some po), undef, undef, undef, undef, undef, undef, undef, undef, undef, undef, undef, undef, undef, undef, undef, undef] := by rw [Tryz.ntmps107]; rfl
  rw [e]
  apply wpS_seq
  apply wpS_region
  simp [wpOpsS, go_sem, recoverD, hu, Exit.thenS]
  refine wpS_of_wp ?_
  (repeat (first | (with_reducible first | refine xA ?_ | refine xB ?_ | refine xC ?_ | refine xD ?_ | refine xH ?_ | refine xI rfl ?_ | refine xE ?_ | refine xF ?_ | refine xG ?_) | go_values | go_skip | go_guarded | go_step | go_upon | go_back | ((with_reducible show Oper.upon _ _ _ _ _ _); go_simp) | (dsimp only)))
  refine ⟨rfl, .returning, ?_, _, results_none rfl _ _ _, rfl, rfl, rfl⟩
  cases c₀; simp_all
theorem idle_i (po : Addr) (w : World) :
    CallsD Tryz.prog 131 #[.pointer (some po)] .returning w fun e u' w' => e = .returned (.tuple #[]) ∧ u' = .returning ∧ w' = w := by
  refine callsD_of_wpS Tryz.func131 rfl fun c₀ cs hu => ?_
  have e : #[Value.pointer (some po)] ++ Array.replicate (Tryz.f131.ntmps - #[Value.pointer (some po)].size) undef = #[.pointer (some po), undef, undef, undef, undef, undef, undef, undef, undef, undef, undef, undef, undef, undef, undef, undef, undef] := by rw [Tryz.ntmps131]; rfl
  rw [e]
  apply wpS_seq
  apply wpS_region
  simp [wpOpsS, go_sem, recoverD, hu, Exit.thenS]
  refine wpS_of_wp ?_
  (repeat (first | (with_reducible first | refine xA ?_ | refine xB ?_ | refine xC ?_ | refine xD ?_ | refine xH ?_ | refine xI rfl ?_ | refine xE ?_ | refine xF ?_ | refine xG ?_) | go_values | go_skip | go_guarded | go_step | go_upon | go_back | ((with_reducible show Oper.upon _ _ _ _ _ _); go_simp) | (dsimp only)))
  refine ⟨rfl, .returning, ?_, _, results_none rfl _ _ _, rfl, rfl, rfl⟩
  cases c₀; simp_all
theorem ld_w (w : World) (b : Nat) (a : Option Addr) (n c : Nat) (h : w.cell? ⟨b, 0, none⟩ = some (.slice a n c)) : (loadVar 31 ⟨b, 0, none⟩).run Tryz.prog w = .ok (.slice a n c) w := by go_simp
theorem door_w {R : Ending → World → Prop} {tmps : Array Value} {w1 : World} {q : Nat} {a : Option Addr} {n c : Nat} (h2 : tmps.getD 2 undef = .pointer (some ⟨q, 0, none⟩))
    (HO : w1.cell? ⟨q, 0, none⟩ = some (.slice a n c)) (h : R (.returned (.slice a n c)) w1) :
    bodyPostD Tryz.prog Tryz.f78 R Exit.ret { tmps := tmps, defers := [{ target := Target.fn (Fn.func 107) #[.pointer (some ⟨q, 0, none⟩)], args := #[] }] } w1 := by
  refine leaves_cons (f := 107) (args := #[.pointer (some ⟨q, 0, none⟩)]) (by simp) (by simp [go_sem]) ?_
  refine (idle_w ⟨q, 0, none⟩ _).mono ?_
  rintro e u' w'' ⟨rfl, rfl, rfl⟩
  have h2' : tmps[2]?.getD undef = .pointer (some ⟨q, 0, none⟩) := by simpa using h2
  exact ⟨_, by simp [results, Tryz.results78, h2', asAddr, ld_w _ q a n c HO], h⟩
theorem chooseC_any {X : Nat → Prop} {base gb : Nat} {g : G} {fr : List Int} {s : Nat → Bool} (w : World) (hG : GR X base w gb g) (hba : base ≤ w.heap.size) (c : Int) (vx vy : Value) (xs ys : List Int) (hX : SlX X w vx xs) (hY : SlX X w vy ys) (hxy : ys.length = xs.length) (hn : g.n + 3 * xs.length ≤ 1048576) (hn1 : xs.length ≤ 1000000) (hc : isL g.n c) (hx : ∀ x ∈ xs, isL g.n x) (hy : ∀ y ∈ ys, isL g.n y) (hI : GI g fr s) (r : G × List Int) (hr : Hid (chooseG g c xs ys = r))
    (b0 b1 b2 b3 : Nat) (c0 : w.cell? ⟨b0, 0, none⟩ = some (.pointer (some ⟨gb, 0, none⟩))) (c1 : w.cell? ⟨b1, 0, none⟩ = some (.int .i64 c)) (c2 : w.cell? ⟨b2, 0, none⟩ = some vx) (c3 : w.cell? ⟨b3, 0, none⟩ = some vy) :
    Calls Tryz.prog 82 #[.pointer (some ⟨b0, 0, none⟩), .pointer (some ⟨b1, 0, none⟩), .pointer (some ⟨b2, 0, none⟩), .pointer (some ⟨b3, 0, none⟩)] w (Word1 X base gb xs.length w r) := by
  obtain ⟨ax, cx, rfl⟩ := hX.shape
  obtain ⟨ay, cy, rfl⟩ := hY.shape
  have H := Lib.hid (choose_any w hG hba c _ _ xs ys hX hY hxy hn hn1 hc hx hy hI r hr.out)
  clear hG hba hX hY hxy hn hn1 hc hx hy hI hr
  go_enter Tryz.func82, Tryz.ntmps82
  (repeat (first | (with_reducible first | refine xA ?_ | refine xB ?_ | refine xC ?_ | refine xD ?_ | refine xH ?_ | refine xI rfl ?_ | refine xE ?_ | refine xF ?_ | refine xG ?_) | go_skip | go_guarded | (go_at_call 83; (with_reducible refine (H.out).mono ?_); rintro _ w1 ⟨q, rfl, hO, hq, hG, hK⟩) | go_values | go_skip | go_guarded | go_step | go_upon | go_back | ((with_reducible show Oper.upon _ _ _ _ _ _); go_simp) | (dsimp only)))
  go_ret
  exact ⟨q, rfl, hO, hq, hG, hK⟩
theorem GR.less {X Y : Nat → Prop} {base gb : Nat} {w : World} {g : G} (h : GR X base w gb g) (hY : ∀ k, Y k → X k) : GR Y base w gb g := by
  obtain ⟨v, ma, mx, xs, h⟩ := h; exact ⟨v, ma, mx, xs, h.less hY⟩
theorem word1_box {X : Nat → Prop} {base gb n : Nat} {w w1 w2 : World} {r : G × List Int} {q : Nat} (hO : OwnI w1 q n r.2) (hq : (w.alloc (.cells #[.slice none 0 0] 31)).heap.size ≤ q)
    (hG : GR (fun k => (X k ∨ k = w.heap.size) ∨ k = q) base w1 gb r.1) (hK : Kept (fun k => X k ∨ k = w.heap.size) (w.alloc (.cells #[.slice none 0 0] 31)) w1) (hX : ∀ k, X k → k < w.heap.size)
    (hg : w1.grownBy w2 (some w.heap.size)) : Word1 X base gb n w r (.returned (.slice (some ⟨q, 0, none⟩) n n)) w2 := by
  have hq' : w.heap.size + 1 ≤ q := by simpa using hq
  have hk12 : Kept (fun i => i ≠ w.heap.size) w1 w2 := ⟨hg.os, hg.tape, hg.output, hg.size, fun i hi hx => hg.block i hi (fun e => hx (by injection e))⟩
  refine ⟨q, rfl, hO.kept hk12 (show q ≠ w.heap.size by omega), by omega, (hG.other hg (.inl (.inr rfl))).less (fun k hk => hk.elim (fun h => .inl (.inl h)) .inr), ?_⟩
  refine (((Kept.refl X w).alloc (.cells #[.slice none 0 0] 31)).trans (hK.mono fun k _ h => .inl h)).grown hg ?_
  intro g e h1 h2
  injection e with e
  omega
set_option maxRecDepth 100000 in
theorem tryc_any {X : Nat → Prop} {base gb n : Nat} (w : World) (b0 b1 b2 b3 : Nat) (r : G × List Int) (hX : ∀ k, X k → k < w.heap.size)
    (hC : Calls Tryz.prog 82 #[.pointer (some ⟨b0, 0, none⟩), .pointer (some ⟨b1, 0, none⟩), .pointer (some ⟨b2, 0, none⟩), .pointer (some ⟨b3, 0, none⟩)] (w.alloc (.cells #[.slice none 0 0] 31)) (Word1 (fun k => X k ∨ k = w.heap.size) base gb n (w.alloc (.cells #[.slice none 0 0] 31)) r)) :
    Calls Tryz.prog 78 #[.func (Fn.func 82) #[] #[.pointer (some ⟨b0, 0, none⟩), .pointer (some ⟨b1, 0, none⟩), .pointer (some ⟨b2, 0, none⟩), .pointer (some ⟨b3, 0, none⟩)]] w (Word1 X base gb n w r) := by
  have hmf : ∀ (fn : Fn) (first cap : Array Value) (w : World), (Instr.makeFunc fn first cap).run Tryz.prog w = .ok (.func fn first cap) w := fun _ _ _ _ => rfl
  have HC := Lib.hid hC
  have HX := Lib.hid hX
  clear hC hX
  go_enter_defers Tryz.func78, Tryz.ntmps78
  (repeat (first | (with_reducible first | refine xA ?_ | refine xB ?_ | refine xC ?_ | refine xD ?_ | refine xH ?_ | refine xI rfl ?_ | refine xE ?_ | refine xF ?_ | refine xG ?_) | go_skip | go_guarded | (go_at_call 82; (with_reducible refine (HC.out).mono ?_); rintro _ w1 ⟨q, rfl, hO, hq, hG, hK⟩; have hh := hK.at (heap_alloc_new w _) (.inr rfl); have hc0 := cell_of_row w1 w.heap.size 0 _ _ _ hh; have hz0 := frozen_of_row w1 w.heap.size 0 _ _ hh; simp at hc0) | go_values | go_skip | go_guarded | go_step | go_upon | go_back | ((with_reducible show Oper.upon _ _ _ _ _ _); go_simp) | (dsimp only)))
  refine door_w (q := w.heap.size) (a := some ⟨q, 0, none⟩) (n := n) (c := n) rfl (by simp [World.cell?, heap_setCell_same _ _ _ _ _ _ hh]) ?_
  exact word1_box hO hq hG hK HX.out ⟨rfl, rfl, rfl, by simp, fun k hk hn => heap_setCell_other _ _ k _ (fun e => hn (by rw [e]))⟩
end Go.Proofs.YtmaogkgjiplckaaGreat
namespace Go.Proofs.YtmaogkgjiplckaaGreat
open Go.RowKit
def WordR (X : Nat → Prop) (base gb : Nat) (g : G) (n : Nat) (w : World) : Option (G × List Int) → Ending → World → Prop
  | none, e, w' => e = .returned (.slice none 0 0) ∧ GR X base w' gb g ∧ Kept X w w'
  | some r, e, w' => Word1 X base gb n w r e w'
def ChooseR (g : G) (c : Int) (xs ys : List Int) : Option (G × List Int) := if allL g.n [c] && [xs, ys].all (wordB g.n xs.length) then some (chooseG g c xs ys) else none
theorem cell_keep {w w' : World} (hb : Below w.heap.size w w') {p : Addr} {c : Value} (h : w.cell? p = some c) : w'.cell? p = some c :=
  (Kept.ofBelow (X := fun _ => True) hb).cell h trivial
theorem cell_new (w : World) (v : Value) (t : TypeId) : (w.alloc (.cells #[v] t)).cell? ⟨w.heap.size, 0, none⟩ = some v := by
  have h := cell_of_row _ w.heap.size 0 _ _ _ (heap_alloc_new w (.cells #[v] t)); exact h
theorem cell_al (w : World) (o : Obj) {p : Addr} {c : Value} (h : w.cell? p = some c) : (w.alloc o).cell? p = some c :=
  ((Kept.refl (fun _ => True) w).alloc o).cell h trivial
structure Box4 (w : World) (b gb : Nat) (c : Int) (vx vy : Value) : Prop where
  c0 : w.cell? ⟨b, 0, none⟩ = some (.pointer (some ⟨gb, 0, none⟩))
  c1 : w.cell? ⟨b + 1, 0, none⟩ = some (.int .i64 c)
  c2 : w.cell? ⟨b + 1 + 1, 0, none⟩ = some vx
  c3 : w.cell? ⟨b + 1 + 1 + 1, 0, none⟩ = some vy
theorem Box4.kept {w w' : World} {b gb : Nat} {c : Int} {vx vy : Value} (h : Box4 w b gb c vx vy) (hb : Below w.heap.size w w') : Box4 w' b gb c vx vy :=
  ⟨cell_keep hb h.c0, cell_keep hb h.c1, cell_keep hb h.c2, cell_keep hb h.c3⟩
theorem box4_new (w : World) (gb : Nat) (c : Int) (vx vy : Value) (t1 t2 t3 t4 : TypeId) : Box4 ((((w.alloc (.cells #[.pointer (some ⟨gb, 0, none⟩)] t1)).alloc (.cells #[.int .i64 c] t2)).alloc (.cells #[vx] t3)).alloc (.cells #[vy] t4)) w.heap.size gb c vx vy := by
  have s1 : (w.alloc (.cells #[.pointer (some ⟨gb, 0, none⟩)] t1)).heap.size = w.heap.size + 1 := by simp
  have s2 : ((w.alloc (.cells #[.pointer (some ⟨gb, 0, none⟩)] t1)).alloc (.cells #[.int .i64 c] t2)).heap.size = w.heap.size + 1 + 1 := by simp
  have s3 : (((w.alloc (.cells #[.pointer (some ⟨gb, 0, none⟩)] t1)).alloc (.cells #[.int .i64 c] t2)).alloc (.cells #[vx] t3)).heap.size = w.heap.size + 1 + 1 + 1 := by simp
  have k1 := cell_new (w.alloc (.cells #[.pointer (some ⟨gb, 0, none⟩)] t1)) (.int .i64 c) t2
  have k2 := cell_new ((w.alloc (.cells #[.pointer (some ⟨gb, 0, none⟩)] t1)).alloc (.cells #[.int .i64 c] t2)) vx t3
  have k3 := cell_new (((w.alloc (.cells #[.pointer (some ⟨gb, 0, none⟩)] t1)).alloc (.cells #[.int .i64 c] t2)).alloc (.cells #[vx] t3)) vy t4
  rw [s1] at k1
  rw [s2] at k2
  rw [s3] at k3
  exact ⟨cell_al _ _ (cell_al _ _ (cell_al _ _ (cell_new _ _ _))), cell_al _ _ (cell_al _ _ k1), cell_al _ _ k2, k3⟩
theorem slx_lit (w : World) (l : List Int) : SlX (fun _ => True) (w.alloc (.cells (l.map (Value.int .i64)).toArray 3)) (.slice (some ⟨w.heap.size, 0, none⟩) l.length l.length) l := by
  refine ⟨_, l.length, rfl, Nat.le_refl _, by simp, fun _ => ⟨w.heap.size, 0, rfl, trivial, by simp, fun i x hi => ?_⟩⟩
  rw [World.cell?_alloc_new]
  simp [hi]
theorem GR.xb {X : Nat → Prop} {base gb : Nat} {w : World} {g : G} (h : GR X base w gb g) : ∀ k, X k → k < w.heap.size := by obtain ⟨v, ma, mx, xs, h⟩ := h; exact h.xb
theorem words_two {X : Nat → Prop} {base gb : Nat} {g : G} (w : World) (hG : GR X base w gb g) (vx vy : Value) (xs ys : List Int) (hX : SlX X w vx xs) (hY : SlX X w vy ys) (hxl : xs.length ≤ 1000000) (hyl : ys.length ≤ 1000000) (r : Bool) (hr : Hid ([xs, ys].all (wordB g.n xs.length) = r)) :
    Calls Tryz.prog 76 #[.pointer (some ⟨gb, 0, none⟩), .slice (some ⟨w.heap.size, 0, none⟩) 2 2] (w.alloc (.cells #[vx, vy] 31)) fun e w' => e = .returned (.bool r) ∧ GR X base w' gb g ∧ Below w.heap.size w w' := by
  have kx := hX.kept ((Kept.refl X w).alloc (.cells #[vx, vy] 31))
  have ky := hY.kept ((Kept.refl X w).alloc (.cells #[vx, vy] 31))
  refine (words_any _ (hG.alloc _) w.heap.size 2 [vx, vy] [xs, ys] xs (heap_alloc_new w _) rfl ⟨rfl, ?_⟩ rfl ?_ (by omega) r hr).mono ?_
  · intro i x l h1 h2
    rcases i with _ | _ | i
    · simp at h1 h2; subst h1; subst h2; exact kx.mono fun _ _ _ => trivial
    · simp at h1 h2; subst h1; subst h2; exact ky.mono fun _ _ _ => trivial
    · simp at h1
  · intro l hl
    simp at hl
    rcases hl with rfl | rfl <;> assumption
  · rintro e w' ⟨h1, h2, h3⟩
    exact ⟨h1, h2, (Kept.toBelow (((Kept.refl (fun _ => True) w).alloc _).trans (Kept.mono (Kept.ofBelow (X := fun _ => True) h3) fun _ _ _ => trivial)) (Nat.le_refl _) fun _ _ => trivial)⟩
end Go.Proofs.YtmaogkgjiplckaaGreat
namespace Go.Proofs.YtmaogkgjiplckaaGreat
open Go.RowKit
theorem Word1.from {X : Nat → Prop} {base gb n : Nat} {w w2 w' : World} {r : G × List Int} {e : Ending} (h : Word1 X base gb n w2 r e w') (hk : Kept X w w2) : Word1 X base gb n w r e w' := by
  obtain ⟨q, h1, h2, h3, h4, h5⟩ := h
  exact ⟨q, h1, h2, Nat.le_trans hk.size h3, h4, hk.trans h5⟩
theorem allL_mem {n : Nat} {l : List Int} (h : allL n l = true) : ∀ x ∈ l, isL n x := (allL_iff).1 h
theorem wordB_two {n : Nat} {xs ys : List Int} (h : [xs, ys].all (wordB n xs.length) = true) : xs.length ≤ 64 ∧ ys.length = xs.length ∧ (∀ x ∈ xs, isL n x) ∧ ∀ y ∈ ys, isL n y := by
  simp only [List.all_cons, List.all_nil, Bool.and_true, Bool.and_eq_true, wordB, decide_eq_true_eq] at h
  exact ⟨h.1.1.2.1, h.2.1.2.2, allL_mem h.1.2, allL_mem h.2.2⟩
theorem tryc2 {X : Nat → Prop} {base gb : Nat} {g : G} {fr : List Int} {s : Nat → Bool} (w : World) (hG : GR X base w gb g) (hba : base ≤ w.heap.size) (c : Int) (vx vy : Value) (xs ys : List Int) (hX : SlX X w vx xs) (hY : SlX X w vy ys) (hn : g.n + 192 ≤ 1048576) (hq1 : allL g.n [c] = true) (hq2 : [xs, ys].all (wordB g.n xs.length) = true) (hI : GI g fr s)
    (b0 b1 b2 b3 : Nat) (c0 : w.cell? ⟨b0, 0, none⟩ = some (.pointer (some ⟨gb, 0, none⟩))) (c1 : w.cell? ⟨b1, 0, none⟩ = some (.int .i64 c)) (c2 : w.cell? ⟨b2, 0, none⟩ = some vx) (c3 : w.cell? ⟨b3, 0, none⟩ = some vy) :
    Calls Tryz.prog 78 #[.func (Fn.func 82) #[] #[.pointer (some ⟨b0, 0, none⟩), .pointer (some ⟨b1, 0, none⟩), .pointer (some ⟨b2, 0, none⟩), .pointer (some ⟨b3, 0, none⟩)]] w (Word1 X base gb xs.length w (chooseG g c xs ys)) := by
  obtain ⟨h64, hxy, hx, hy⟩ := wordB_two hq2
  have hk := (Kept.refl X w).alloc (.cells #[.slice none 0 0] 31)
  refine tryc_any w b0 b1 b2 b3 _ hG.xb (chooseC_any (fr := fr) (s := s) _ (hG.owned (w' := w.alloc (.cells #[.slice none 0 0] 31)) ⟨rfl, rfl, rfl, by simp, fun k hk _ => Below.heap_alloc w _ k hk⟩ (Nat.le_refl _) (by simp)) (by simp; omega) c vx vy xs ys ((hX.kept hk).mono fun _ _ h => .inl h) ((hY.kept hk).mono fun _ _ h => .inl h) hxy (by omega) (by omega) (allL_mem hq1 c (by simp)) hx hy hI _ (Lib.hid rfl) b0 b1 b2 b3 (cell_al _ _ c0) (cell_al _ _ c1) (cell_al _ _ c2) (cell_al _ _ c3))
set_option maxRecDepth 100000 in
set_option maxHeartbeats 1000000 in
theorem Choose_any {X : Nat → Prop} {base gb : Nat} {g : G} {fr : List Int} {s : Nat → Bool} (w : World) (hG : GR X base w gb g) (hba : base ≤ w.heap.size) (c : Int) (vx vy : Value) (xs ys : List Int) (hX : SlX X w vx xs) (hY : SlX X w vy ys) (hxl : xs.length ≤ 1000000) (hyl : ys.length ≤ 1000000) (hn : g.n + 192 ≤ 1048576) (hI : GI g fr s) (r : Option (G × List Int)) (hr : Hid (ChooseR g c xs ys = r)) :
    Calls Tryz.prog 65 #[.pointer (some ⟨gb, 0, none⟩), .int .i64 c, vx, vy] w (WordR X base gb g xs.length w r) := by
  have hmf : ∀ (fn : Fn) (first cap : Array Value) (w : World), (Instr.makeFunc fn first cap).run Tryz.prog w = .ok (.func fn first cap) w := fun _ _ _ _ => rfl
  obtain ⟨ax, cx, rfl⟩ := hX.shape
  obtain ⟨ay, cy, rfl⟩ := hY.shape
  have hB := box4_new w gb c (.slice ax xs.length cx) (.slice ay ys.length cy) 68 3 31 31
  have hG4 := (((hG.alloc (.cells #[.pointer (some ⟨gb, 0, none⟩)] 68)).alloc (.cells #[.int .i64 c] 3)).alloc (.cells #[.slice ax xs.length cx] 31)).alloc (.cells #[.slice ay ys.length cy] 31)
  have HK4 := Lib.hid (show Kept X w ((((w.alloc (.cells #[.pointer (some ⟨gb, 0, none⟩)] 68)).alloc (.cells #[.int .i64 c] 3)).alloc (.cells #[.slice ax xs.length cx] 31)).alloc (.cells #[.slice ay ys.length cy] 31)) from ((((Kept.refl X w).alloc _).alloc _).alloc _).alloc _)
  have hs4 : (((((w.alloc (.cells #[.pointer (some ⟨gb, 0, none⟩)] 68)).alloc (.cells #[.int .i64 c] 3)).alloc (.cells #[.slice ax xs.length cx] 31)).alloc (.cells #[.slice ay ys.length cy] 31))).heap.size = w.heap.size + 1 + 1 + 1 + 1 := by simp
  obtain ⟨q1, hq1⟩ : ∃ q, Hid (allL g.n [c] = q) := ⟨_, Lib.hid rfl⟩
  obtain ⟨q2, hq2⟩ : ∃ q, Hid ([xs, ys].all (wordB g.n xs.length) = q) := ⟨_, Lib.hid rfl⟩
  have hi := is_any (Y := fun _ => True) (.slice (some ⟨w.heap.size + 1 + 1 + 1 + 1, 0, none⟩) 1 1) [c] ((((((w.alloc (.cells #[.pointer (some ⟨gb, 0, none⟩)] 68)).alloc (.cells #[.int .i64 c] 3)).alloc (.cells #[.slice ax xs.length cx] 31)).alloc (.cells #[.slice ay ys.length cy] 31))).alloc (.cells #[.int .i64 c] 3)) (hG4.alloc _) (by have := slx_lit ((((w.alloc (.cells #[.pointer (some ⟨gb, 0, none⟩)] 68)).alloc (.cells #[.int .i64 c] 3)).alloc (.cells #[.slice ax xs.length cx] 31)).alloc (.cells #[.slice ay ys.length cy] 31)) [c]; rw [hs4] at this; exact this) (by simp) q1 hq1
  have HI := Lib.hid hi
  have hB4 : Box4 ((((((w.alloc (.cells #[.pointer (some ⟨gb, 0, none⟩)] 68)).alloc (.cells #[.int .i64 c] 3)).alloc (.cells #[.slice ax xs.length cx] 31)).alloc (.cells #[.slice ay ys.length cy] 31))).alloc (.cells #[.int .i64 c] 3)) w.heap.size gb c (.slice ax xs.length cx) (.slice ay ys.length cy) := ⟨cell_al _ _ hB.c0, cell_al _ _ hB.c1, cell_al _ _ hB.c2, cell_al _ _ hB.c3⟩
  obtain ⟨c0, c1, c2, c3⟩ := hB
  have HX := Lib.hid hX
  have HY := Lib.hid hY
  have Hxl := Lib.hid hxl
  have Hyl := Lib.hid hyl
  have Hba := Lib.hid hba
  have Hn := Lib.hid hn
  have HII := Lib.hid hI
  have HK5 := Lib.hid (HK4.out.alloc (.cells #[.int .i64 c] 3))
  clear hX hY hxl hyl hba hn hI hi hG4 hG hs4
  cases q1
  · obtain rfl : r = none := by rw [← hr.out]; unfold ChooseR; rw [hq1.out]; rfl
    go_enter Tryz.func65, Tryz.ntmps65
    (repeat (first | (with_reducible first | refine xA ?_ | refine xB ?_ | refine xC ?_ | refine xD ?_ | refine xH ?_ | refine xI rfl ?_ | refine xE ?_ | refine xF ?_ | refine xG ?_) | go_skip | go_guarded | (go_at_call 81; (with_reducible refine (HI.out).mono ?_); rintro _ w1 ⟨rfl, hG1, hb1⟩) | go_values | go_skip | go_guarded | go_step | go_upon | go_back | ((with_reducible show Oper.upon _ _ _ _ _ _); go_simp) | (dsimp only)))
    go_ret
    exact ⟨rfl, hG1, HK5.out.trans (Kept.ofBelow hb1)⟩
  cases q2
  · obtain rfl : r = none := by rw [← hr.out]; unfold ChooseR; rw [hq1.out, hq2.out]; rfl
    go_enter Tryz.func65, Tryz.ntmps65
    (repeat (first | (with_reducible first | refine xA ?_ | refine xB ?_ | refine xC ?_ | refine xD ?_ | refine xH ?_ | refine xI rfl ?_ | refine xE ?_ | refine xF ?_ | refine xG ?_) | go_skip | go_guarded | (go_at_call 81; (with_reducible refine (HI.out).mono ?_); rintro _ w1 ⟨rfl, hG1, hb1⟩; have hB1 := hB4.kept hb1; obtain ⟨d0, d1, d2, d3⟩ := hB1; have hK1 := HK5.out.trans (Kept.ofBelow hb1); clear c0 c1 c2 c3 hb1; have hX1 := HX.out.kept hK1; have hY1 := HY.out.kept hK1) | (go_at_call 76; (with_reducible refine (words_two w1 hG1 _ _ xs ys hX1 hY1 Hxl.out Hyl.out _ hq2).mono ?_); rintro _ w2 ⟨rfl, hG2, hb2⟩) | go_values | go_skip | go_guarded | go_step | go_upon | go_back | ((with_reducible show Oper.upon _ _ _ _ _ _); go_simp) | (dsimp only)))
    go_ret
    exact ⟨rfl, hG2, hK1.trans (Kept.ofBelow hb2)⟩
  · obtain rfl : r = some (chooseG g c xs ys) := by rw [← hr.out]; unfold ChooseR; rw [hq1.out, hq2.out]; rfl
    have Hq1 := Lib.hid hq1.out
    have Hq2 := Lib.hid hq2.out
    go_enter Tryz.func65, Tryz.ntmps65
    (repeat (first | (with_reducible first | refine xA ?_ | refine xB ?_ | refine xC ?_ | refine xD ?_ | refine xH ?_ | refine xI rfl ?_ | refine xE ?_ | refine xF ?_ | refine xG ?_) | go_skip | go_guarded | (go_at_call 81; (with_reducible refine (HI.out).mono ?_); rintro _ w1 ⟨rfl, hG1, hb1⟩; have hB1 := hB4.kept hb1; obtain ⟨d0, d1, d2, d3⟩ := hB1; have hK1 := HK5.out.trans (Kept.ofBelow hb1); clear c0 c1 c2 c3 hb1; have hX1 := HX.out.kept hK1; have hY1 := HY.out.kept hK1) | (go_at_call 76; (with_reducible refine (words_two w1 hG1 _ _ xs ys hX1 hY1 Hxl.out Hyl.out _ hq2).mono ?_); rintro _ w2 ⟨rfl, hG2, hb2⟩) | (have e0 := cell_keep hb2 d0; have e1 := cell_keep hb2 d1; have e2 := cell_keep hb2 d2; have e3 := cell_keep hb2 d3; have hk2 := Kept.ofBelow (X := X) hb2; go_at_call 78; (with_reducible refine (tryc2 w2 hG2 (Nat.le_trans Hba.out (hK1.trans hk2).size) c _ _ xs ys (hX1.kept hk2) (hY1.kept hk2) Hn.out Hq1.out Hq2.out HII.out _ _ _ _ e0 e1 e2 e3).mono ?_); rintro _ w3 ⟨q, rfl, hr⟩) | go_values | go_skip | go_guarded | go_step | go_upon | go_back | ((with_reducible show Oper.upon _ _ _ _ _ _); go_simp) | (dsimp only)))
    go_ret
    exact (show Word1 X base gb xs.length w2 _ _ w3 from ⟨q, rfl, hr⟩).from (hK1.trans hk2)
end Go.Proofs.YtmaogkgjiplckaaGreat
namespace Go.Proofs.YtmaogkgjiplckaaGreat
open Go.RowKit
theorem ld_i (w : World) (b : Nat) (x : Int) (h : w.cell? ⟨b, 0, none⟩ = some (.int .i64 x)) : (loadVar 3 ⟨b, 0, none⟩).run Tryz.prog w = .ok (.int .i64 x) w := by go_simp
theorem door_i {R : Ending → World → Prop} {tmps : Array Value} {w1 : World} {q : Nat} {x : Int} (h2 : tmps.getD 2 undef = .pointer (some ⟨q, 0, none⟩))
    (HO : w1.cell? ⟨q, 0, none⟩ = some (.int .i64 x)) (h : R (.returned (.int .i64 x)) w1) :
    bodyPostD Tryz.prog Tryz.f105 R Exit.ret { tmps := tmps, defers := [{ target := Target.fn (Fn.func 131) #[.pointer (some ⟨q, 0, none⟩)], args := #[] }] } w1 := by
  refine leaves_cons (f := 131) (args := #[.pointer (some ⟨q, 0, none⟩)]) (by simp) (by simp [go_sem]) ?_
  refine (idle_i ⟨q, 0, none⟩ _).mono ?_
  rintro e u' w'' ⟨rfl, rfl, rfl⟩
  have h2' : tmps[2]?.getD undef = .pointer (some ⟨q, 0, none⟩) := by simpa using h2
  exact ⟨_, by simp [results, Tryz.results105, h2', asAddr, ld_i _ q x HO], h⟩
set_option maxRecDepth 100000 in
theorem tryf_any {X : Nat → Prop} {base gb : Nat} {g : G} (w : World) (hG : GR X base w gb g) (hn : g.n < 1048576) :
    Calls Tryz.prog 105 #[.func (Fn.func 106) #[.pointer (some ⟨gb, 0, none⟩)] #[]] w fun e w' => e = .returned (.int .i64 ((g.n : Int) + 1)) ∧ GR X base w' gb ⟨g.n + 1, g.cl, g.an, g.xo⟩ ∧ Kept X w w' := by
  have hmf : ∀ (fn : Fn) (first cap : Array Value) (w : World), (Instr.makeFunc fn first cap).run Tryz.prog w = .ok (.func fn first cap) w := fun _ _ _ _ => rfl
  have HX := Lib.hid hG.xb
  obtain ⟨v, ma, mx, xs, hR⟩ := hG.owned (w' := w.alloc (.cells #[.int .i64 0] 3)) ⟨rfl, rfl, rfl, by simp, fun k hk _ => Below.heap_alloc w _ k hk⟩ (Nat.le_refl _) (by simp)
  have HC := Lib.hid (fresh_any _ hR hn)
  clear hG hR hn
  go_enter_defers Tryz.func105, Tryz.ntmps105
  (repeat (first | (with_reducible first | refine xA ?_ | refine xB ?_ | refine xC ?_ | refine xD ?_ | refine xH ?_ | refine xI rfl ?_ | refine xE ?_ | refine xF ?_ | refine xG ?_) | go_skip | go_guarded | (go_at_call 106; (with_reducible refine (HC.out).mono ?_); rintro _ w1 ⟨rfl, hG, hK⟩; have hh := hK.at (heap_alloc_new w _) (.inr rfl); have hc0 := cell_of_row w1 w.heap.size 0 _ _ _ hh; have hz0 := frozen_of_row w1 w.heap.size 0 _ _ hh; simp at hc0) | go_values | go_skip | go_guarded | go_step | go_upon | go_back | ((with_reducible show Oper.upon _ _ _ _ _ _); go_simp) | (dsimp only)))
  have hg : w1.grownBy (w1.setCell ⟨w.heap.size, 0, none⟩ (.int .i64 ((g.n : Int) + 1))) (some w.heap.size) := ⟨rfl, rfl, rfl, by simp, fun k hk hn => heap_setCell_other _ _ k _ (fun e => hn (by rw [e]))⟩
  refine door_i (q := w.heap.size) (x := (g.n : Int) + 1) rfl (by simp [World.cell?, heap_setCell_same _ _ _ _ _ _ hh]) ⟨rfl, GR.less ⟨_, _, _, _, hG.other hg (.inr rfl)⟩ fun k h => .inl h, ?_⟩
  refine (((Kept.refl X w).alloc (.cells #[.int .i64 0] 3)).trans (hK.mono fun k _ h => .inl h)).grown hg ?_
  intro g e h1 h2
  injection e with e
  omega
set_option maxRecDepth 100000 in
theorem Free_any {X : Nat → Prop} {base gb : Nat} {g : G} (w : World) (hG : GR X base w gb g) (hn : g.n < 1048576) :
    Calls Tryz.prog 75 #[.pointer (some ⟨gb, 0, none⟩)] w fun e w' => e = .returned (.int .i64 ((g.n : Int) + 1)) ∧ GR X base w' gb ⟨g.n + 1, g.cl, g.an, g.xo⟩ ∧ Kept X w w' := by
  have hmf : ∀ (fn : Fn) (first cap : Array Value) (w : World), (Instr.makeFunc fn first cap).run Tryz.prog w = .ok (.func fn first cap) w := fun _ _ _ _ => rfl
  have H := Lib.hid (tryf_any w hG hn)
  clear hG hn
  go_enter Tryz.func75, Tryz.ntmps75
  (repeat (first | (with_reducible first | refine xA ?_ | refine xB ?_ | refine xC ?_ | refine xD ?_ | refine xH ?_ | refine xI rfl ?_ | refine xE ?_ | refine xF ?_ | refine xG ?_) | go_skip | go_guarded | (go_at_call 105; (with_reducible refine (H.out).mono ?_); rintro _ w1 ⟨rfl, hG, hK⟩) | go_values | go_skip | go_guarded | go_step | go_upon | go_back | ((with_reducible show Oper.upon _ _ _ _ _ _); go_simp) | (dsimp only)))
  go_ret
  exact ⟨rfl, hG, hK⟩
theorem Vars_any {X : Nat → Prop} {base gb : Nat} {g : G} (w : World) (hG : GR X base w gb g) :
    Calls Tryz.prog 27 #[.pointer (some ⟨gb, 0, none⟩)] w fun e w' => e = .returned (.int .i64 g.n) ∧ w' = w := by
  have hc := hG.cell0
  clear hG
  go_enter Tryz.func27, Tryz.ntmps27
  (repeat (first | (with_reducible first | refine xA ?_ | refine xB ?_ | refine xC ?_ | refine xD ?_ | refine xH ?_ | refine xI rfl ?_ | refine xE ?_ | refine xF ?_ | refine xG ?_) | go_values | go_skip | go_guarded | go_step | go_upon | go_back | ((with_reducible show Oper.upon _ _ _ _ _ _); go_simp) | (dsimp only)))
  go_ret
  exact ⟨rfl, rfl⟩
end Go.Proofs.YtmaogkgjiplckaaGreat
namespace Go.Proofs.YtmaogkgjiplckaaGreat
open Go.RowKit
theorem hp_al (w : World) (o : Obj) {k : Nat} {p : Obj} (h : w.heap[k]? = some p) : (w.alloc o).heap[k]? = some p := (Below.heap_alloc w o k (lt_of_block h)).trans h
theorem grep_new {X : Nat → Prop} (w : World) (hX : ∀ k, X k → k < w.heap.size) : GR X w.heap.size (((((w.alloc (.cells #[.int .i64 1] 3)).alloc (.cells #[.slice (some ⟨w.heap.size, 0, none⟩) 1 1] 31)).alloc (.map #[] 0)).alloc (.map #[] 0)).alloc (.cells #[.int .i64 1, .slice (some ⟨w.heap.size + 1, 0, none⟩) 1 1, .map (some (w.heap.size + 1 + 1)), .map (some (w.heap.size + 1 + 1 + 1))] 98)) (w.heap.size + 1 + 1 + 1 + 1) newG := by
  have s1 : ((w.alloc (.cells #[.int .i64 1] 3))).heap.size = w.heap.size + 1 := by simp
  have s2 : (((w.alloc (.cells #[.int .i64 1] 3)).alloc (.cells #[.slice (some ⟨w.heap.size, 0, none⟩) 1 1] 31))).heap.size = w.heap.size + 1 + 1 := by simp
  have s3 : ((((w.alloc (.cells #[.int .i64 1] 3)).alloc (.cells #[.slice (some ⟨w.heap.size, 0, none⟩) 1 1] 31)).alloc (.map #[] 0))).heap.size = w.heap.size + 1 + 1 + 1 := by simp
  have s4 : (((((w.alloc (.cells #[.int .i64 1] 3)).alloc (.cells #[.slice (some ⟨w.heap.size, 0, none⟩) 1 1] 31)).alloc (.map #[] 0)).alloc (.map #[] 0))).heap.size = w.heap.size + 1 + 1 + 1 + 1 := by simp
  have k1 := heap_alloc_new w (.cells #[.int .i64 1] 3)
  have k2 := heap_alloc_new (w.alloc (.cells #[.int .i64 1] 3)) (.cells #[.slice (some ⟨w.heap.size, 0, none⟩) 1 1] 31)
  have k3 := heap_alloc_new ((w.alloc (.cells #[.int .i64 1] 3)).alloc (.cells #[.slice (some ⟨w.heap.size, 0, none⟩) 1 1] 31)) (.map #[] 0)
  have k4 := heap_alloc_new (((w.alloc (.cells #[.int .i64 1] 3)).alloc (.cells #[.slice (some ⟨w.heap.size, 0, none⟩) 1 1] 31)).alloc (.map #[] 0)) (.map #[] 0)
  have k5 := heap_alloc_new ((((w.alloc (.cells #[.int .i64 1] 3)).alloc (.cells #[.slice (some ⟨w.heap.size, 0, none⟩) 1 1] 31)).alloc (.map #[] 0)).alloc (.map #[] 0)) (.cells #[.int .i64 1, .slice (some ⟨w.heap.size + 1, 0, none⟩) 1 1, .map (some (w.heap.size + 1 + 1)), .map (some (w.heap.size + 1 + 1 + 1))] 98)
  rw [s1] at k2
  rw [s2] at k3
  rw [s3] at k4
  rw [s4] at k5
  have j1 := hp_al ((((w.alloc (.cells #[.int .i64 1] 3)).alloc (.cells #[.slice (some ⟨w.heap.size, 0, none⟩) 1 1] 31)).alloc (.map #[] 0)).alloc (.map #[] 0)) (.cells #[.int .i64 1, .slice (some ⟨w.heap.size + 1, 0, none⟩) 1 1, .map (some (w.heap.size + 1 + 1)), .map (some (w.heap.size + 1 + 1 + 1))] 98) (hp_al (((w.alloc (.cells #[.int .i64 1] 3)).alloc (.cells #[.slice (some ⟨w.heap.size, 0, none⟩) 1 1] 31)).alloc (.map #[] 0)) (.map #[] 0) (hp_al ((w.alloc (.cells #[.int .i64 1] 3)).alloc (.cells #[.slice (some ⟨w.heap.size, 0, none⟩) 1 1] 31)) (.map #[] 0) (hp_al (w.alloc (.cells #[.int .i64 1] 3)) (.cells #[.slice (some ⟨w.heap.size, 0, none⟩) 1 1] 31) k1)))
  have j2 := hp_al ((((w.alloc (.cells #[.int .i64 1] 3)).alloc (.cells #[.slice (some ⟨w.heap.size, 0, none⟩) 1 1] 31)).alloc (.map #[] 0)).alloc (.map #[] 0)) (.cells #[.int .i64 1, .slice (some ⟨w.heap.size + 1, 0, none⟩) 1 1, .map (some (w.heap.size + 1 + 1)), .map (some (w.heap.size + 1 + 1 + 1))] 98) (hp_al (((w.alloc (.cells #[.int .i64 1] 3)).alloc (.cells #[.slice (some ⟨w.heap.size, 0, none⟩) 1 1] 31)).alloc (.map #[] 0)) (.map #[] 0) (hp_al ((w.alloc (.cells #[.int .i64 1] 3)).alloc (.cells #[.slice (some ⟨w.heap.size, 0, none⟩) 1 1] 31)) (.map #[] 0) k2))
  have j3 := hp_al ((((w.alloc (.cells #[.int .i64 1] 3)).alloc (.cells #[.slice (some ⟨w.heap.size, 0, none⟩) 1 1] 31)).alloc (.map #[] 0)).alloc (.map #[] 0)) (.cells #[.int .i64 1, .slice (some ⟨w.heap.size + 1, 0, none⟩) 1 1, .map (some (w.heap.size + 1 + 1)), .map (some (w.heap.size + 1 + 1 + 1))] 98) (hp_al (((w.alloc (.cells #[.int .i64 1] 3)).alloc (.cells #[.slice (some ⟨w.heap.size, 0, none⟩) 1 1] 31)).alloc (.map #[] 0)) (.map #[] 0) k3)
  have j4 := hp_al ((((w.alloc (.cells #[.int .i64 1] 3)).alloc (.cells #[.slice (some ⟨w.heap.size, 0, none⟩) 1 1] 31)).alloc (.map #[] 0)).alloc (.map #[] 0)) (.cells #[.int .i64 1, .slice (some ⟨w.heap.size + 1, 0, none⟩) 1 1, .map (some (w.heap.size + 1 + 1)), .map (some (w.heap.size + 1 + 1 + 1))] 98) k4
  have s5 : ((((((w.alloc (.cells #[.int .i64 1] 3)).alloc (.cells #[.slice (some ⟨w.heap.size, 0, none⟩) 1 1] 31)).alloc (.map #[] 0)).alloc (.map #[] 0)).alloc (.cells #[.int .i64 1, .slice (some ⟨w.heap.size + 1, 0, none⟩) 1 1, .map (some (w.heap.size + 1 + 1)), .map (some (w.heap.size + 1 + 1 + 1))] 98))).heap.size = w.heap.size + 1 + 1 + 1 + 1 + 1 := by simp
  clear k1 k2 k3 k4
  generalize (((((w.alloc (.cells #[.int .i64 1] 3)).alloc (.cells #[.slice (some ⟨w.heap.size, 0, none⟩) 1 1] 31)).alloc (.map #[] 0)).alloc (.map #[] 0)).alloc (.cells #[.int .i64 1, .slice (some ⟨w.heap.size + 1, 0, none⟩) 1 1, .map (some (w.heap.size + 1 + 1)), .map (some (w.heap.size + 1 + 1 + 1))] 98)) = u at *
  refine ⟨.slice (some ⟨w.heap.size + 1, 0, none⟩) 1 1, w.heap.size + 1 + 1, w.heap.size + 1 + 1 + 1, [.slice (some ⟨w.heap.size, 0, none⟩) 1 1], ⟨k5, ?_, ⟨rfl, ?_⟩, ?_, ?_, by omega, fun k h => by have := hX k h; omega, fun h => by have := hX _ h; omega, fun h => by have := hX _ h; omega, fun h => by have := hX _ h; omega, fun k e h => ?_, by decide, by decide⟩⟩
  · exact ⟨rfl, .inr ⟨w.heap.size + 1, 1, _, rfl, by omega, j2, Nat.le_refl _, by decide, rfl, rfl⟩⟩
  · intro i x l h1 h2
    rcases i with _ | i
    · simp [newG] at h1 h2
      subst h1; subst h2
      refine ⟨_, 1, rfl, Nat.le_refl _, by simp, fun _ => ⟨w.heap.size, 0, rfl, ⟨fun h => by have := hX _ h; omega, by omega, fun e => by injection e with e; change w.heap.size = w.heap.size + 1 at e; omega⟩, by omega, fun i x hi => ?_⟩⟩
      rcases i with _ | i
      · simp at hi; subst hi
        have := cell_of_row u w.heap.size 0 _ _ _ j1
        simpa using this
      · simp at hi
    · simp at h1
  · exact ⟨_, _, j3, rfl, List.nodup_nil, by simp [newG, mapOf], by simp, by simp⟩
  · exact ⟨_, _, j4, rfl, List.nodup_nil, by simp [newG, mapOf], by simp, by simp⟩
  · injection e with e
    have := hX k h
    change k = w.heap.size + 1 at e
    omega
set_option maxRecDepth 100000 in
theorem New_any {X : Nat → Prop} (w : World) (hX : ∀ k, X k → k < w.heap.size) :
    Calls Tryz.prog 24 #[] w fun e w' => ∃ gb, e = .returned (.pointer (some ⟨gb, 0, none⟩)) ∧ GR X w.heap.size w' gb newG ∧ Below w.heap.size w w' := by
  have hmm := @run_makeMap Tryz.prog
  have H := Lib.hid (grep_new w hX)
  clear hX
  go_enter Tryz.func24, Tryz.ntmps24
  (repeat (first | (with_reducible first | refine xA ?_ | refine xB ?_ | refine xC ?_ | refine xD ?_ | refine xH ?_ | refine xI rfl ?_ | refine xE ?_ | refine xF ?_ | refine xG ?_) | go_values | go_skip | go_guarded | go_step | go_upon | go_back | ((with_reducible show Oper.upon _ _ _ _ _ _); go_simp) | (dsimp only)))
  go_ret
  exact ⟨_, rfl, H.out, Kept.toBelow (X := fun _ => True) ((((((Kept.refl _ w).alloc _).alloc _).alloc _).alloc _).alloc _) (Nat.le_refl _) fun _ _ => trivial⟩
end Go.Proofs.YtmaogkgjiplckaaGreat
namespace Go.Proofs.YtmaogkgjiplckaaGreat
open Go.RowKit
set_option maxRecDepth 100000 in
set_option maxHeartbeats 400000 in
theorem clone_any {X : Nat → Prop} (v : Value) (l : List Int) (w : World) (h : SlX X w v l) (hne : l ≠ []) (hll : l.length ≤ 1000000) :
    Calls Tryz.prog 25 #[v] w fun e w' => ∃ v', e = .returned v' ∧ w'.ownsRow w.heap.size 3 1 v' l.length (l.map (Value.int .i64)) ∧ Below w.heap.size w w' := by
  obtain ⟨i0, hi0, hz0, hz1, hz2⟩ := info_parts info3
  have q28 : ∀ (w : World) (a : Option Addr) (n c n' c' : Nat), (binOp .eql 31 (.slice a n c) (.slice none n' c')).run Tryz.prog w = .ok (.bool a.isNone) w := fun w a n c n' c' => Lib.run_eql_slice_nil w _ _ a n c n' c' Tryz.underlying31
  obtain ⟨ao, cap, rfl⟩ := h.shape
  obtain ⟨bb, o, rfl, -, -, hc, HR⟩ := h.row (List.length_pos_iff.2 hne)
  have hnews : ∀ j u, (l.map (Value.int .i64))[j]? = some u → (w.alloc (.cells #[] 3)).cell? ((⟨bb, o, none⟩ : Addr).add j) = some u := by
    intro j u hj
    simp only [List.getElem?_map, Option.map_eq_some_iff] at hj
    obtain ⟨y, hy, rfl⟩ := hj
    have := cell_al w (.cells #[] 3) (HR j y hy)
    rcases j with _ | j
    · simpa [Addr.add] using this
    · simpa [Addr.add] using this
  have HN := Lib.hid hnews
  have HL := Lib.hid hll
  clear hnews HR h hne hll
  go_enter Tryz.func25, Tryz.ntmps25
  (repeat (first | (with_reducible first | refine xA ?_ | refine xB ?_ | refine xC ?_ | refine xD ?_ | refine xH ?_ | refine xI rfl ?_ | refine xE ?_ | refine xF ?_ | refine xG ?_) | go_skip | go_guarded | (at_builtin; refine wpList_append_own_at _ rfl _ _ 31 rfl w.heap.size 3 i0 (.int .i64 0) 1 8 Tryz.underlying31 hi0 hz0 hz1 hz2 rfl (by decide) (.slice (some ⟨w.heap.size, 0, none⟩) 0 0) 0 [] (by rfl) (World.ownsRow_made w #[] 0 (Nat.le_refl _) (by decide) rfl) ⟨bb, o, none⟩ l.length cap (l.map (Value.int .i64)) (by rfl) (by simp) HN.out (by simp [Value.oneCell']) (by have := HL.out; simp only [maxLen]; omega) (by have := HL.out; omega) (by simp) ?_; intro v2 w2 hO hg2 _ _; (try simp only [Act.put, qz4, qz5, qz6])) | go_values | go_skip | go_guarded | go_step | go_upon | go_back | ((with_reducible show Oper.upon _ _ _ _ _ _); go_simp) | (dsimp only)))
  go_ret
  refine ⟨_, rfl, by simpa using hO, Below.grown (Below.alloc (Below.refl _ _) (Nat.le_refl _) _) hg2 (by simp) (fun k hk => by simp [Value.ownBlock] at hk; omega)⟩
end Go.Proofs.YtmaogkgjiplckaaGreat
namespace Go.Proofs.YtmaogkgjiplckaaGreat
open Go.RowKit
def OwnW (w : World) (q n : Nat) (vs : List Value) : Prop := vs.length = n ∧ w.ownsRow q 31 1 (.slice (some ⟨q, 0, none⟩) n n) n vs
theorem OwnW.kept {w w' : World} {q n : Nat} {l : List Value} (h : OwnW w q n l) {X : Nat → Prop} (hk : Kept X w w') (hx : X q) : OwnW w' q n l := by
  refine ⟨h.1, ?_⟩
  rcases h.2 with ⟨b2, hr⟩
  refine ⟨b2, ?_⟩
  rcases hr with ⟨e, _⟩ | ⟨g, cap, cur, e, hb, hh, r⟩
  · cases e
  · refine .inr ⟨g, cap, cur, e, hb, ?_, r⟩
    simp only [Value.slice.injEq, Option.some.injEq, Addr.mk.injEq, and_true] at e
    obtain ⟨rfl, _⟩ := e
    exact hk.at hh hx
section
variable {ops : Array Oper} {rest : List Oper} {o : Oper} {a : Act} {w : World} {Q : Exit → Act → World → Prop}
theorem wl_store_ownw (hgd : o.guard = none) (x y : Operand) (ho : o.op = .store 31 x y) (q n : Nat) (l : List Value) (j : Nat) (hx : a.eval x = .pointer (some ⟨q, j, none⟩)) (ad : Option Addr) (m c : Nat) (hy : a.eval y = .slice ad m c) (hO : OwnW w q n l) (hj : j < n) (hsl : ∀ v ∈ l, ∃ a m c, v = .slice a m c)
    (h : ∀ w', OwnW w' q n (l.set j (.slice ad m c)) → w.grownBy w' (some q) → wpList Tryz.prog ops Q rest (a.put o.dst undef) w') : wpList Tryz.prog ops Q (o :: rest) a w :=
  wpList_plain hgd fun _ hK => by
    obtain ⟨hl, hO2⟩ := hO
    have hc := hO2.cellAt j (by omega)
    have hlt : j < l.length := by omega
    rw [List.getElem?_eq_getElem hlt] at hc
    obtain ⟨a', m', c', e⟩ := hsl _ (List.getElem_mem hlt)
    rw [e] at hc
    have hf := hO2.frozenAt j
    have hst : (Instr.storeAt 31 (.pointer (some ⟨q, j, none⟩)) (.slice ad m c)).run Tryz.prog w = .ok () (w.setCell ⟨q, j, none⟩ (.slice ad m c)) := by
      go_simp
    obtain ⟨s1, s2⟩ := hO2.stored j (.slice ad m c)
    unfold Oper.wp execOp
    simp only [ho, hx, hy, Sem.run_bind, hst, Result.andThen_ok]
    exact hK _ _ (h _ ⟨by simp [hl], s1⟩ s2)
theorem wl_make_ownw (hgd : o.guard = none) (l c : Operand) (hop : o.op = Op.makeSlice 30 l c) (n : Nat) (hl : a.eval l = .int .i64 n) (hc : a.eval c = .int .i64 n) (hn : n ≤ 100000000)
    (h : ∀ w', OwnW w' w.heap.size n (List.replicate n (.slice none 0 0)) → w.grownBy w' none → wpList Tryz.prog ops Q rest (a.put o.dst (.slice (some ⟨w.heap.size, 0, none⟩) n n)) w') : wpList Tryz.prog ops Q (o :: rest) a w := by
  obtain ⟨i0, hi0, hz0, hz1, hz2⟩ := info_parts info26
  refine wpList_make_full w hgd l c 30 hop w.heap.size 31 i0 (.slice none 0 0) 1 Tryz.underlying30 hi0 hz0 hz1 .i64 .i64 n n n hl hc rfl rfl (by rw [hz2]; omega) (by unfold maxLen; omega) (Nat.le_refl _) ?_
  intro w' h1 h2
  refine h w' ⟨by simp, ?_⟩ h2
  have e : (madeCells (Value.slice none 0 0).cells (n * 1)).toList = List.replicate n (.slice none 0 0) := by
    rw [Nat.mul_one]
    unfold madeCells
    rw [Array.toList_map, Array.toList_range]
    apply List.ext_getElem?
    intro i
    rw [List.getElem?_map, List.getElem?_replicate]
    by_cases hi : i < n
    · rw [List.getElem?_range hi, if_pos hi]
      simp [Value.cells, Nat.mod_one]
    · rw [if_neg hi, List.getElem?_eq_none (by simpa using hi)]
      rfl
  rw [← e]; exact h1
end
end Go.Proofs.YtmaogkgjiplckaaGreat
namespace Go.Proofs.YtmaogkgjiplckaaGreat
open Go.RowKit
theorem GR.below {X : Nat → Prop} {base gb : Nat} {w w' : World} {g : G} (h : GR X base w gb g) (hb : Below w.heap.size w w') : GR X base w' gb g :=
  h.same ⟨hb.os, hb.tape, hb.output, hb.size, fun k hk _ => hb.block k hk⟩
theorem GR.clauses {X : Nat → Prop} {base gb : Nat} {w : World} {g : G} (h : GR X base w gb g) : ∃ (ao : Option Addr) (cap : Nat) (xs : List Value), xs.length = g.cl.length ∧ w.cell? ⟨gb, 1, none⟩ = some (.slice ao g.cl.length cap) ∧ g.cl.length ≤ 4194304 ∧ ∀ k x l, xs[k]? = some x → g.cl[k]? = some l → ∃ b, ao = some ⟨b, 0, none⟩ ∧ w.cell? ⟨b, k, none⟩ = some x ∧ SlX (fun _ => True) w x l := by
  obtain ⟨v, ma, mx, xs, h⟩ := h
  obtain ⟨c0, c1, c2, c3, cf⟩ := box4g h.box
  have hl := h.cls.1
  have hn := h.cl
  have hn1 := h.n1
  have key : ∀ k x l, xs[k]? = some x → g.cl[k]? = some l → SlX (fun _ => True) w x l := fun k x l h1 h2 => (h.cls.2 k x l h1 h2).mono fun _ _ _ => trivial
  rcases h.row with ⟨e1, ⟨rfl, e2⟩ | ⟨b, cap, cur, rfl, e2, e3, e4, e5, e6, e7⟩⟩
  · rw [← hl, e2]
    refine ⟨none, 0, xs, by omega, by rw [c1], by omega, fun k x l h1 => ?_⟩
    rw [List.length_eq_zero_iff.1 e2] at h1
    simp at h1
  · refine ⟨some ⟨b, 0, none⟩, cap, xs, hl, by rw [c1, hl], by omega, fun k x l h1 h2 => ⟨b, rfl, ?_, key k x l h1 h2⟩⟩
    have := cell_of_row w b k _ _ _ e3
    rw [this, ← Array.getElem?_toList]
    rw [← e7, List.getElem?_take] at h1
    split at h1
    · exact h1
    · cases h1
end Go.Proofs.YtmaogkgjiplckaaGreat
namespace Go.Proofs.YtmaogkgjiplckaaGreat
open Go.RowKit
theorem OwnW.lt {w : World} {q n : Nat} {l : List Value} (h : OwnW w q n l) : q < w.heap.size := by
  rcases h.2.2 with ⟨e, _⟩ | ⟨g, cap, cur, e, hb, hh, r⟩
  · cases e
  · simp only [Value.slice.injEq, Option.some.injEq, Addr.mk.injEq, and_true] at e
    obtain ⟨rfl, _⟩ := e
    exact lt_of_block hh
theorem all_slices {X : Nat → Prop} {w : World} {vs : List Value} {cl : List (List Int)} (h : SlsX X w vs cl) (n : Nat) : ∀ v ∈ vs ++ List.replicate n (.slice none 0 0), ∃ a m c, v = .slice a m c := by
  intro v hv
  rcases List.mem_append.1 hv with hv | hv
  · obtain ⟨i, hi⟩ := List.mem_iff_getElem?.1 hv
    have hlt := (List.getElem?_eq_some_iff.1 hi).1
    obtain ⟨a, c, e⟩ := (h.2 i v _ hi (List.getElem?_eq_getElem (by have := h.1; omega))).shape
    exact ⟨a, _, c, e⟩
  · exact ⟨none, 0, 0, List.eq_of_mem_replicate hv⟩
theorem set_next (vs : List Value) (n k : Nat) (z v : Value) (hk : vs.length = k) (hlt : k < n) : (vs ++ List.replicate (n - k) z).set k v = (vs ++ [v]) ++ List.replicate (n - (k + 1)) z := by
  subst hk
  rw [List.set_append_right _ _ (Nat.le_refl _), Nat.sub_self, show n - vs.length = (n - (vs.length + 1)) + 1 by omega, List.replicate_succ, List.set_cons_zero, List.append_assoc]
  rfl
set_option maxRecDepth 100000 in
set_option maxHeartbeats 1000000 in
theorem Clauses_any {X : Nat → Prop} {base gb : Nat} {g : G} (w : World) (hG : GR X base w gb g) (hne : ∀ l ∈ g.cl, l ≠ []) (hll : ∀ l ∈ g.cl, l.length ≤ 1000000) :
    Calls Tryz.prog 26 #[.pointer (some ⟨gb, 0, none⟩)] w fun e w' => e = .returned (.slice (some ⟨w.heap.size, 0, none⟩) g.cl.length g.cl.length) ∧ (∃ vs, OwnW w' w.heap.size g.cl.length vs ∧ SlsX (fun k => w.heap.size < k) w' vs g.cl) ∧ GR X base w' gb g ∧ Below w.heap.size w w' := by
  obtain ⟨ao, cap, xs, hxl, c1, hm, hcl⟩ := hG.clauses
  have Hm := Lib.hid (show g.cl.length ≤ 100000000 by omega)
  have hmI : (g.cl.length : Int) ≤ 4194304 := by omega
  have HC := Lib.hid hcl
  have HG := Lib.hid hG
  have HNE := Lib.hid hne
  have HLL := Lib.hid hll
  have HX := Lib.hid hxl
  clear hcl hm hG hne hll hxl
  go_enter Tryz.func26, Tryz.ntmps26
  (repeat (first | (with_reducible first | refine xA ?_ | refine xB ?_ | refine xC ?_ | refine xD ?_ | refine xH ?_ | refine xI rfl ?_ | refine xE ?_ | refine xF ?_ | refine xG ?_) | go_skip | go_guarded | ((with_reducible refine wl_id ?_); refine wl_make_ownw rfl _ _ rfl g.cl.length rfl rfl Hm.out ?_; intro w1 hO hg1; have hb1 : Below w.heap.size w w1 := ⟨hg1.os, hg1.tape, hg1.output, hg1.size, fun k hk => hg1.block k hk (by simp)⟩; replace c1 := cell_keep hb1 c1; (try simp only [Act.put, qz4, qz5, qz6])) | go_values | go_skip | go_guarded | go_step | go_upon | go_back | ((with_reducible show Oper.upon _ _ _ _ _ _); go_simp) | (dsimp only)))
  go_loopw [17] (fun i wr => ∃ (k : Nat) (vs : List Value), k ≤ g.cl.length ∧ i = .int .i64 k ∧ vs.length = k ∧ OwnW wr w.heap.size g.cl.length (vs ++ List.replicate (g.cl.length - k) (.slice none 0 0)) ∧ Hid (SlsX (fun k => w.heap.size < k) wr vs (g.cl.take k)) ∧ Below w.heap.size w wr) (fun i _ => g.cl.length - (intOf i).toNat)
  case atStart => exact ⟨0, [], Nat.zero_le _, rfl, rfl, by simpa using hO, Lib.hid ⟨rfl, fun i x l h => by simp at h⟩, hb1⟩
  case round =>
    obtain ⟨k, vs, hk, rfl, hvl, hO, hS, hB⟩ := hrel
    rcases Nat.lt_or_ge k g.cl.length with hlt | hge
    · obtain ⟨l, hl⟩ : ∃ l, g.cl[k]? = some l := ⟨_, List.getElem?_eq_getElem hlt⟩
      obtain ⟨x, hx⟩ : ∃ x, xs[k]? = some x := ⟨_, List.getElem?_eq_getElem (by have := HX.out; omega)⟩
      obtain ⟨b, rfl, hcx, hsx⟩ := HC.out k x l hx hl
      replace hcx := cell_keep hB hcx
      have HS := Lib.hid (hsx.kept (Kept.ofBelow (X := fun _ => True) hB))
      obtain ⟨ax, cx, rfl⟩ := hsx.shape
      have Hne := Lib.hid (HNE.out l (List.mem_of_getElem? hl))
      have Hll := Lib.hid (HLL.out l (List.mem_of_getElem? hl))
      have HK := Lib.hid hlt
      have HO := Lib.hid hO
      have Hl := Lib.hid hl
      have hltI : (k : Int) < (g.cl.length : Int) := by omega
      clear hO hl hx hsx
      (repeat (first | (with_reducible first | refine xA ?_ | refine xB ?_ | refine xC ?_ | refine xD ?_ | refine xH ?_ | refine xI rfl ?_ | refine xE ?_ | refine xF ?_ | refine xG ?_) | go_skip | go_guarded | (go_at_call 25; (with_reducible refine (clone_any _ l _ HS.out Hne.out Hll.out).mono ?_); rintro _ w2 ⟨v2, rfl, hO2, hb2⟩; have hS2 := SlX.ofOwns (X := fun k => w.heap.size < k) hO2 (fun q h1 h2 => Nat.lt_of_lt_of_le HO.out.lt h1); obtain ⟨a2, c2, rfl⟩ := hS2.shape; have hO3 := HO.out.kept (Kept.ofBelow (X := fun _ => True) hb2) trivial; have hS3 := hS.out.kept (Kept.ofBelow (X := fun k => w.heap.size < k) hb2); have HSl := Lib.hid (all_slices hS3 (g.cl.length - k))) | ((with_reducible refine wl_id ?_); refine wl_store_ownw rfl _ _ rfl w.heap.size g.cl.length _ k rfl a2 l.length c2 rfl hO3 HK.out HSl.out ?_; intro w3 hO4 hg3; (rw [set_next _ _ _ _ _ hvl HK.out] at hO4); have hk3 : Kept (fun i => w.heap.size < i) w2 w3 := ⟨hg3.os, hg3.tape, hg3.output, hg3.size, fun i hi hx => hg3.block i hi (fun e => by injection e with e; omega)⟩; have hb3 : Below w.heap.size w2 w3 := ⟨hg3.os, hg3.tape, hg3.output, hg3.size, fun i hi => hg3.block i (by have := hO3.lt; omega) (fun e => by injection e with e; omega)⟩; have hB3 := (hB.trans (hb2.mono hB.size)).trans hb3; have HS5 := Lib.hid (hS3.kept hk3); have HS6 := Lib.hid (hS2.kept hk3); clear hO3 hS3 hS2 hg3 hk3; (try simp only [Act.put, qz4, qz5, qz6])) | go_values | go_skip | go_guarded | go_step | go_upon | go_back | ((with_reducible show Oper.upon _ _ _ _ _ _); go_simp) | (dsimp only)))
      have HO4 := Lib.hid hO4
      clear hO4
      (repeat (first | (with_reducible first | refine xA ?_ | refine xB ?_ | refine xC ?_ | refine xD ?_ | refine xH ?_ | refine xI rfl ?_ | refine xE ?_ | refine xF ?_ | refine xG ?_) | go_values | go_skip | go_guarded | go_step | go_upon | go_back | ((with_reducible show Oper.upon _ _ _ _ _ _); go_simp) | (dsimp only)))
      refine ⟨⟨k + 1, _, by omega, by go_num, ?_, HO4.out, Lib.hid ?_, hB3⟩, by simp [intOf]; omega⟩
      · simp [hvl]
      · rw [show g.cl.take (k + 1) = g.cl.take k ++ [l] by rw [List.take_add_one, Hl.out]; rfl]; exact HS5.out.append (SlsX.one HS6.out)
    · obtain rfl : k = g.cl.length := by omega
      have HO := Lib.hid hO
      clear hO
      (repeat (first | (with_reducible first | refine xA ?_ | refine xB ?_ | refine xC ?_ | refine xD ?_ | refine xH ?_ | refine xI rfl ?_ | refine xE ?_ | refine xF ?_ | refine xG ?_) | go_values | go_skip | go_guarded | go_step | go_upon | go_back | ((with_reducible show Oper.upon _ _ _ _ _ _); go_simp) | (dsimp only)))
      go_ret
      refine ⟨rfl, ⟨vs, by simpa using HO.out, by simpa using hS.out⟩, HG.out.below hB, hB⟩
end Go.Proofs.YtmaogkgjiplckaaGreat
namespace Go.Proofs.YtmaogkgjiplckaaGreat
open Go.RowKit
section
variable {ops : Array Oper} {rest : List Oper} {o : Oper} {a : Act} {w : World} {Q : Exit → Act → World → Prop}
theorem wl_push (hgd : o.guard = none) (s x : Operand) (ho : o.op = .call { callee := .builtin .append, args := #[s, x], argTypes := #[31, 31] }) (base : Nat) (v : Value) (n : Nat) (l : List Int) (hs : a.eval s = v) (hown : w.ownsRow base 3 1 v n (l.map (Value.int .i64))) (b : Nat) (u : Int) (hx : a.eval x = .slice (some ⟨b, 0, none⟩) 1 1) (hb : w.cell? ⟨b, 0, none⟩ = some (.int .i64 u)) (hn : n ≤ 1000000000) (hbase : base ≤ w.heap.size)
    (h : ∀ v' w', w'.ownsRow base 3 1 v' (n + 1) ((l ++ [u]).map (Value.int .i64)) → w.grownBy w' v.ownBlock → (v'.ownBlock = v.ownBlock ∨ v'.ownBlock = some w.heap.size) → wpList Tryz.prog ops Q rest (a.put o.dst v') w') : wpList Tryz.prog ops Q (o :: rest) a w := by
  obtain ⟨i0, hi0, hz0, hz1, hz2⟩ := info_parts info3
  refine wpList_append_own_at _ hgd s x 31 ho base 3 i0 (.int .i64 0) 1 8 Tryz.underlying31 hi0 hz0 hz1 hz2 rfl (by decide) v n _ hs hown ⟨b, 0, none⟩ 1 1 [.int .i64 u] hx rfl ?_ (by simp [Value.oneCell']) (by simp only [maxLen]; omega) (by omega) hbase ?_
  · intro j y hj
    rcases j with _ | j
    · simp at hj; subst hj
      simpa [Addr.add] using hb
    · simp at hj
  · intro v' w' h1 h2 _ h4
    exact h v' w' (by rw [List.map_append]; exact h1) h2 h4
end
def freeL (n k : Nat) : List Int := (List.range k).map fun i => ((n + 1 + i : Nat) : Int)
def fromL (n k x : Nat) : List Int := (List.range k).map fun i => if x.testBit i then ((n + 1 + i : Nat) : Int) else -((n + 1 + i : Nat) : Int)
theorem freeL_succ (n k : Nat) : freeL n (k + 1) = freeL n k ++ [((n + 1 + k : Nat) : Int)] := by simp [freeL, List.range_succ]
theorem fromL_succ (n k x : Nat) : fromL n (k + 1) x = fromL n k x ++ [if x.testBit k then ((n + 1 + k : Nat) : Int) else -((n + 1 + k : Nat) : Int)] := by simp [fromL, List.range_succ]
end Go.Proofs.YtmaogkgjiplckaaGreat
namespace Go.Proofs.YtmaogkgjiplckaaGreat
open Go.RowKit
def addV (g : G) (k : Nat) : G := ⟨g.n + k, g.cl, g.an, g.xo⟩
theorem free_many {g : G} {fr : List Int} {s : Nat → Bool} (h : GI g fr s) (x : Nat) : ∀ k, ∃ s', GI (addV g k) (fr ++ fromL g.n k x) s' ∧ Step g s (addV g k) s' ∧ ∀ i, i < k → s' (g.n + 1 + i) = x.testBit i := by
  intro k
  induction k with
  | zero => exact ⟨s, by simpa [fromL, addV] using h, ⟨Nat.le_refl _, fun _ _ => rfl⟩, fun i hi => absurd hi (by omega)⟩
  | succ k ih =>
    obtain ⟨s1, h1, h2, h3⟩ := ih
    obtain ⟨s2, h4, h5, h6, h7, h8⟩ := free_ok h1 (x.testBit k)
    refine ⟨s2, ?_, h2.trans h5, fun i hi => ?_⟩
    · rw [fromL_succ, ← List.append_assoc]
      have e : (if x.testBit k = true then ((addV g k).n + 1 : Int) else -((addV g k).n + 1 : Int)) = if x.testBit k = true then ((g.n + 1 + k : Nat) : Int) else -((g.n + 1 + k : Nat) : Int) := by
        have : ((addV g k).n : Int) + 1 = ((g.n + 1 + k : Nat) : Int) := by show ((g.n + k : Nat) : Int) + 1 = _; omega
        rw [this]
      rw [e] at h4
      exact h4
    · rcases Nat.lt_or_ge i k with hlt | hge
      · rw [h5.agree _ (by show _ ≤ g.n + k; omega)]
        exact h3 i hlt
      · obtain rfl : i = k := by omega
        have : lit s2 (free (addV g i)).2 = s2 (g.n + 1 + i) := by
          have e : (free (addV g i)).2 = ((g.n + 1 + i : Nat) : Int) := by show ((g.n + i : Nat) : Int) + 1 = _; omega
          rw [e]
          unfold lit
          rw [if_pos (by omega), Int.toNat_natCast]
        rw [← this]; exact h8
theorem freeL_lit {s : Nat → Bool} (n k x : Nat) (h : ∀ i, i < k → s (n + 1 + i) = x.testBit i) : (freeL n k).map (lit s) = (List.range k).map x.testBit := by
  unfold freeL
  rw [List.map_map]
  refine List.map_congr_left fun i hi => ?_
  rw [List.mem_range] at hi
  show lit s ((n + 1 + i : Nat) : Int) = _
  unfold lit
  rw [if_pos (by omega), Int.toNat_natCast, h i hi]
theorem freeL_isL (n k m : Nat) (h : n + k ≤ m) : ∀ x ∈ freeL n k, isL m x := by
  intro x hx
  unfold freeL at hx
  obtain ⟨i, hi, rfl⟩ := List.mem_map.1 hx
  rw [List.mem_range] at hi
  exact ⟨by omega, by omega, by omega⟩
theorem freeL_len (n k : Nat) : (freeL n k).length = k := by simp [freeL]
theorem bv_bits : ∀ (w x : Nat), bv ((List.range w).map x.testBit) = x % 2 ^ w := by
  intro w
  induction w with
  | zero => intro x; simp [bv, Nat.mod_one]
  | succ w ih =>
    intro x
    rw [List.range_succ_eq_map, List.map_cons, bv, List.map_map]
    have : (List.range w).map (x.testBit ∘ Nat.succ) = (List.range w).map (x / 2).testBit := List.map_congr_left fun i _ => by show x.testBit (i + 1) = _; rw [Nat.testBit_succ]
    rw [this, ih, Nat.pow_succ, Nat.mul_comm (2 ^ w) 2, Nat.mod_mul, Nat.testBit_zero]
    rcases Nat.mod_two_eq_zero_or_one x with e | e <;> simp [e]
end Go.Proofs.YtmaogkgjiplckaaGreat
namespace Go.Proofs.YtmaogkgjiplckaaGreat
open Go.RowKit
section
variable {X Y Y' S : Nat → Prop} {base gb ma mx : Nat} {w w' : World} {g : G} {v : Value} {xs : List Value}
theorem GRep.turn (h : GRep Y base w gb g v ma mx xs) {r : Option Nat} (hg : w.grownBy w' r) (hr : ∀ q, r = some q → Y q) (h1 : ∀ k, Y' k → Y k ∨ w.heap.size ≤ k) (h2 : ∀ k, Y' k → k < w'.heap.size) : GRep Y' base w' gb g v ma mx xs := by
  obtain ⟨l1, l2, l3⟩ := h.lt
  have hk : Kept (fun k => ¬ Y k) w w' := ⟨hg.os, hg.tape, hg.output, hg.size, fun i hi hx => hg.block i hi (fun e => hx (hr i e.symm))⟩
  have no : ∀ k, k < w.heap.size → ¬ Y k → ¬ Y' k := fun k hk hy hy' => (h1 k hy').elim hy (fun h => by omega)
  refine ⟨hk.at h.box h.xg, h.row.kept hg ?_, ?_, h.an.kept hk h.xa, h.xo.kept hk h.xx, h.ne, h2, no _ l1 h.xg, no _ l2 h.xa, no _ l3 h.xx, fun k e => no k ((h.row.lt k e.symm).2) (h.xv k e), h.n1, h.cl⟩
  · rcases hv : v.ownBlock with _ | k
    · exact .inl rfl
    · right
      intro e
      exact h.xv k hv.symm (hr k e.symm)
  · have c1 := h.cls.mono (Z := fun k => ¬ Y k ∧ ¬ Y' k ∧ k ≠ gb ∧ some k ≠ v.ownBlock) fun k hk hx => ⟨hx.1, no k hk hx.1, hx.2⟩
    exact (c1.kept (hk.mono fun _ _ h => h.1)).mono fun _ _ h => h.2
theorem GR.turn (h : GR Y base w gb g) {r : Option Nat} (hg : w.grownBy w' r) (hr : ∀ q, r = some q → Y q) (h1 : ∀ k, Y' k → Y k ∨ w.heap.size ≤ k) (h2 : ∀ k, Y' k → k < w'.heap.size) : GR Y' base w' gb g := by
  obtain ⟨v, ma, mx, xs, h⟩ := h; exact ⟨v, ma, mx, xs, h.turn hg hr h1 h2⟩
end
theorem owns_kept {w w' : World} {B T n : Nat} {v : Value} {l : List Value} (h : w.ownsRow B T 1 v n l) {Y : Nat → Prop} (hk : Kept Y w w') (hy : ∀ k, v.ownBlock = some k → Y k) : w'.ownsRow B T 1 v n l := by
  rcases h with ⟨b2, hr⟩
  refine ⟨b2, ?_⟩
  rcases hr with ⟨e, r⟩ | ⟨g, cap, cur, e, hb, hh, r⟩
  · exact .inl ⟨e, r⟩
  · refine .inr ⟨g, cap, cur, e, hb, ?_, r⟩
    subst e
    exact hk.at hh (hy g rfl)
structure Two (X : Nat → Prop) (base gb B : Nat) (w : World) (g : G) (v u : Value) (l m : List Int) : Prop where
  one : w.ownsRow B 3 1 v l.length (l.map (Value.int .i64))
  two : w.ownsRow B 3 1 u m.length (m.map (Value.int .i64))
  ap : ∀ k, v.ownBlock = some k → u.ownBlock ≠ some k
  gr : ∃ S : Nat → Prop, GR (fun k => X k ∨ S k) base w gb g ∧ (∀ k, v.ownBlock = some k → S k) ∧ (∀ k, u.ownBlock = some k → S k)
section
variable {X : Nat → Prop} {base gb B : Nat} {w w' : World} {g : G} {v u v' : Value} {l m : List Int}
theorem Two.alloc (h : Two X base gb B w g v u l m) (o : Obj) : Two X base gb B (w.alloc o) g v u l m := by
  obtain ⟨h1, h2, h3, S, h4, h5, h6⟩ := h
  exact ⟨h1.alloc o, h2.alloc o, h3, S, h4.alloc o, h5, h6⟩
theorem Two.push (h : Two X base gb B w g v u l m) {x : Int} (ho : w'.ownsRow B 3 1 v' (l.length + 1) ((l ++ [x]).map (Value.int .i64))) (hg : w.grownBy w' v.ownBlock) (hv : v'.ownBlock = v.ownBlock ∨ v'.ownBlock = some w.heap.size) : Two X base gb B w' g v' u (l ++ [x]) m := by
  obtain ⟨h1, h2, h3, S, h4, h5, h6⟩ := h
  have hlt := h4.xb
  refine ⟨by simpa using ho, h2.kept hg ?_, ?_, fun k => S k ∨ v'.ownBlock = some k, h4.turn hg (fun q e => .inr (h5 q e)) ?_ ?_, fun k e => .inr e, fun k e => .inl (h6 k e)⟩
  · rcases hu : u.ownBlock with _ | k
    · exact .inl rfl
    · right
      intro e
      exact h3 k e.symm hu
  · intro k e e'
    rcases hv with hv | hv
    · exact h3 k (hv ▸ e) e'
    · rw [hv] at e
      cases e
      have := (h2.lt _ e').2
      omega
  · rintro k (a | a | a)
    · exact .inl (.inl a)
    · exact .inl (.inr a)
    · rcases hv with hv | hv
      · exact .inl (.inr (h5 k (hv ▸ a)))
      · rw [hv] at a; cases a; exact .inr (Nat.le_refl _)
  · rintro k (a | a | a)
    · exact Nat.lt_of_lt_of_le (hlt k (.inl a)) hg.size
    · exact Nat.lt_of_lt_of_le (hlt k (.inr a)) hg.size
    · exact (ho.lt k a).2
end
end Go.Proofs.YtmaogkgjiplckaaGreat
namespace Go.Proofs.YtmaogkgjiplckaaGreat
open Go.RowKit
theorem Two.after {X S : Nat → Prop} {base gb B : Nat} {w w' : World} {g g' : G} {v u : Value} {l m : List Int} (h : Two X base gb B w g v u l m) (hS : True) (h8 : ∀ k, v.ownBlock = some k → S k) (h9 : ∀ k, u.ownBlock = some k → S k) (hG : GR (fun k => X k ∨ S k) base w' gb g') (hK : Kept (fun k => X k ∨ S k) w w') : Two X base gb B w' g' v u l m :=
  ⟨owns_kept h.one hK fun k e => .inr (h8 k e), owns_kept h.two hK fun k e => .inr (h9 k e), h.ap, S, hG, h8, h9⟩
theorem bit_at {x : Int} (h0 : 0 ≤ x) (h1 : x < 18446744073709551616) (k : Nat) : (bits BinOp.and IntKind.u64 (x / 2 ^ min k 64) 1 == 0) = !x.toNat.testBit k := by
  obtain ⟨n, rfl⟩ := Int.eq_ofNat_of_zero_le h0
  have hn : n < 18446744073709551616 := by omega
  rw [Int.toNat_natCast]
  have e : ((n : Int) / 2 ^ min k 64) = ((n / 2 ^ k : Nat) : Int) := by
    rcases Nat.le_total k 64 with h | h
    · rw [Nat.min_eq_left h, Int.natCast_ediv]; simp
    · rw [Nat.min_eq_right h]
      have h2 : n / 2 ^ k = 0 := Nat.div_eq_of_lt (Nat.lt_of_lt_of_le hn (Nat.pow_le_pow_right (n := 2) (by decide) h))
      rw [h2]
      exact Int.ediv_eq_zero_of_lt (by omega) (by omega)
  rw [e, show (1 : Int) = ((1 : Nat) : Int) from rfl, bits_and_u64_nat _ _ (Nat.lt_of_le_of_lt (Nat.div_le_self _ _) hn) (by decide)]
  unfold Nat.testBit
  rw [Nat.shiftRight_eq_div_pow, Nat.and_comm 1]
  cases h : n / 2 ^ k &&& 1 with
  | zero => simp
  | succ m => simp; omega
end Go.Proofs.YtmaogkgjiplckaaGreat
namespace Go.Proofs.YtmaogkgjiplckaaGreat
open Go.RowKit
def RowV (w : World) (q : Nat) (vs : List Value) : Prop := ∀ (j : Nat) (x : Value), vs[j]? = some x → w.cell? ⟨q, j, none⟩ = some x
theorem RowV.kept {X : Nat → Prop} {w w' : World} {q : Nat} {vs : List Value} (h : RowV w q vs) (hk : Kept X w w') (hx : X q) : RowV w' q vs := fun j x hj => hk.cell (h j x hj) hx
theorem RowV.one (w : World) (v : Value) (T : TypeId) : RowV (w.alloc (.cells #[v] T)) w.heap.size [v] := by
  intro j x hj
  rcases j with _ | j
  · simp at hj; subst hj; exact cell_new _ _ _
  · simp at hj
theorem OwnW.rows {w : World} {q n : Nat} {vs : List Value} (h : OwnW w q n vs) : RowV w q vs := by
  intro j x hj
  have := h.2.cells (g := q) rfl j x hj
  rcases j with _ | j
  · simpa [Addr.add] using this
  · simpa [Addr.add] using this
set_option maxRecDepth 100000 in
theorem literal_any {x : Int} (w : World) (h : okL x) : Calls Tryz.prog 52 #[.int .i64 x] w fun e w' => e = .returned (.bool true) ∧ w' = w := by
  obtain ⟨h0, h1, h2⟩ := h
  have e0 : (x != 0) = true := by simpa using h0
  go_enter Tryz.func52, Tryz.ntmps52
  (repeat (first | (with_reducible first | refine xA ?_ | refine xB ?_ | refine xC ?_ | refine xD ?_ | refine xH ?_ | refine xI rfl ?_ | refine xE ?_ | refine xF ?_ | refine xG ?_) | go_values | go_skip | go_guarded | go_step | go_upon | go_back | ((with_reducible show Oper.upon _ _ _ _ _ _); go_simp) | (dsimp only)))
  go_ret
  exact ⟨rfl, rfl⟩
set_option maxRecDepth 100000 in
set_option maxHeartbeats 1000000 in
theorem Right_any {Y : Nat → Prop} (w : World) (q n : Nat) (vs : List Value) (cl : List (List Int)) (hq : RowV w q vs) (hS : SlsX Y w vs cl) (hn : cl.length = n) (hok : ∀ c ∈ cl, ∀ x ∈ c, okL x) (hlen : n ≤ 100000000) (hll : ∀ c ∈ cl, c.length ≤ 1000000) :
    Calls Tryz.prog 29 #[.slice (some ⟨q, 0, none⟩) n n] w fun e w' => e = .returned (.int .i64 0) ∧ w' = w := by
  have HQ := Lib.hid hq
  have HS := Lib.hid hS
  have HN := Lib.hid hn
  have HOK := Lib.hid hok
  have HLL := Lib.hid hll
  have hnI : (n : Int) ≤ 100000000 := by omega
  clear hq hS hn hok hlen hll
  go_enter Tryz.func29, Tryz.ntmps29
  (repeat (first | (with_reducible first | refine xA ?_ | refine xB ?_ | refine xC ?_ | refine xD ?_ | refine xH ?_ | refine xI rfl ?_ | refine xE ?_ | refine xF ?_ | refine xG ?_) | go_values | go_skip | go_guarded | go_step | go_upon | go_back | ((with_reducible show Oper.upon _ _ _ _ _ _); go_simp) | (dsimp only)))
  go_loopw [9] (fun i wr => ∃ k : Nat, k ≤ n ∧ i = .int .i64 k ∧ wr = w) (fun i _ => n - (intOf i).toNat)
  case atStart => exact ⟨0, Nat.zero_le _, rfl, rfl⟩
  case round =>
    obtain ⟨k, hk, rfl, rfl⟩ := hrel
    rcases Nat.lt_or_ge k n with hlt | hge
    · obtain ⟨c, hc⟩ : ∃ c, cl[k]? = some c := ⟨_, List.getElem?_eq_getElem (by have := HN.out; omega)⟩
      obtain ⟨x, hx⟩ : ∃ x, vs[k]? = some x := ⟨_, List.getElem?_eq_getElem (by have := HN.out; have := HS.out.1; omega)⟩
      have hcx := HQ.out k x hx
      have hsx := HS.out.2 k x c hx hc
      have hcl := HLL.out c (List.mem_of_getElem? hc)
      have hclI : (c.length : Int) ≤ 1000000 := by omega
      have HC := Lib.hid (HOK.out c (List.mem_of_getElem? hc))
      obtain ⟨ax, cx, rfl⟩ := hsx.shape
      have HSx := Lib.hid hsx
      clear hsx hc hx hcl
      (repeat (first | (with_reducible first | refine xA ?_ | refine xB ?_ | refine xC ?_ | refine xD ?_ | refine xH ?_ | refine xI rfl ?_ | refine xE ?_ | refine xF ?_ | refine xG ?_) | go_values | go_skip | go_guarded | go_step | go_upon | go_back | ((with_reducible show Oper.upon _ _ _ _ _ _); go_simp) | (dsimp only)))
      go_loopw [15] (fun i wr' => ∃ j : Nat, j ≤ c.length ∧ i = .int .i64 j ∧ wr' = wr) (fun i _ => c.length - (intOf i).toNat)
      case atStart => exact ⟨0, Nat.zero_le _, rfl, rfl⟩
      case round =>
        obtain ⟨j, hj, rfl, rfl⟩ := hrel
        rcases Nat.lt_or_ge j c.length with hlt' | hge'
        · obtain ⟨b, o, rfl, _, _, _, hR⟩ := HSx.out.row (by omega)
          obtain ⟨y, hy⟩ : ∃ y, c[j]? = some y := ⟨_, List.getElem?_eq_getElem hlt'⟩
          have hcy := hR j y hy
          have HL := Lib.hid (HC.out y (List.mem_of_getElem? hy))
          clear hR hy
          (repeat (first | (with_reducible first | refine xA ?_ | refine xB ?_ | refine xC ?_ | refine xD ?_ | refine xH ?_ | refine xI rfl ?_ | refine xE ?_ | refine xF ?_ | refine xG ?_) | go_skip | go_guarded | (go_at_call 52; (with_reducible refine (literal_any _ HL.out).mono ?_); rintro _ w1 ⟨rfl, rfl⟩) | go_values | go_skip | go_guarded | go_step | go_upon | go_back | ((with_reducible show Oper.upon _ _ _ _ _ _); go_simp) | (dsimp only)))
          exact ⟨⟨j + 1, by omega, by go_num, rfl⟩, by simp [intOf]; omega⟩
        · obtain rfl : j = c.length := by omega
          (repeat (first | (with_reducible first | refine xA ?_ | refine xB ?_ | refine xC ?_ | refine xD ?_ | refine xH ?_ | refine xI rfl ?_ | refine xE ?_ | refine xF ?_ | refine xG ?_) | go_values | go_skip | go_guarded | go_step | go_upon | go_back | ((with_reducible show Oper.upon _ _ _ _ _ _); go_simp) | (dsimp only)))
          exact ⟨⟨k + 1, by omega, by go_num, rfl⟩, by simp [intOf]; omega⟩
    · obtain rfl : k = n := by omega
      (repeat (first | (with_reducible first | refine xA ?_ | refine xB ?_ | refine xC ?_ | refine xD ?_ | refine xH ?_ | refine xI rfl ?_ | refine xE ?_ | refine xF ?_ | refine xG ?_) | go_values | go_skip | go_guarded | go_step | go_upon | go_back | ((with_reducible show Oper.upon _ _ _ _ _ _); go_simp) | (dsimp only)))
      go_ret
      exact ⟨rfl, rfl⟩
end Go.Proofs.YtmaogkgjiplckaaGreat
namespace Go.Proofs.YtmaogkgjiplckaaGreat
open Go.RowKit
def oneM (l : List Int) : List (Int × Value) := l.map fun x => (x, .int .i64 1)
theorem oneM_get (l : List Int) (x : Int) : (getM (oneM l) x).isSome = decide (x ∈ l) := by
  unfold getM oneM
  rw [Option.isSome_map]
  by_cases h : x ∈ l
  · rw [decide_eq_true h]
    rw [List.find?_isSome]
    exact ⟨_, List.mem_map.2 ⟨x, h, rfl⟩, by simp⟩
  · rw [decide_eq_false h, Bool.eq_false_iff]
    intro hs
    rw [List.find?_isSome] at hs
    obtain ⟨p, hp, he⟩ := hs
    obtain ⟨y, hy, rfl⟩ := List.mem_map.1 hp
    have : y = x := by simpa using he
    exact h (this ▸ hy)
theorem oneM_keys (l : List Int) : (oneM l).map (·.1) = l := by simp [oneM, Function.comp_def]
theorem oneM_put (l : List Int) {x : Int} (h : x ∉ l) : putM (oneM l) x (.int .i64 1) = oneM (l ++ [x]) := by
  unfold putM
  rw [oneM_keys, if_neg h]
  simp [oneM]
theorem oneM_rem {l : List Int} (h : l.Nodup) (x : Int) : remM (oneM l) x = oneM (l.erase x) := by
  unfold remM oneM
  rw [List.filter_map, h.erase_eq_filter]
  congr 1
  refine List.filter_congr fun y _ => ?_
  simp [bne, Bool.beq_eq_decide_eq]
theorem oneM_len (l : List Int) : (oneM l).length = l.length := by simp [oneM]
structure SPR (w : World) (sb : Nat) (lv : Value) (mi ms mw : Nat) (is wt : List Int) : Prop where
  box : w.heap[sb]? = some (.cells #[lv, .map (some mi), .map (some ms), .map (some mw)] 81 (0, 0))
  mis : MapV encI okI w ms (oneM is)
  mwt : MapV encI okI w mw (oneM wt)
  ne : ms ≠ mw
  sub : ∀ x ∈ wt, x ∈ is
def SK (ms mw : Nat) (k : Nat) : Prop := k ≠ ms ∧ k ≠ mw
theorem SPR.apart {w : World} {sb : Nat} {lv : Value} {mi ms mw : Nat} {is wt : List Int} (h : SPR w sb lv mi ms mw is wt) : SK ms mw sb := by
  obtain ⟨es, c, h1, _⟩ := h.mis
  obtain ⟨es', c', h2, _⟩ := h.mwt
  have hb := h.box
  constructor
  · rintro rfl; rw [hb] at h1; simp at h1
  · rintro rfl; rw [hb] at h2; simp at h2
theorem SPR.kept {w w' : World} {sb : Nat} {lv : Value} {mi ms mw : Nat} {is wt : List Int} (h : SPR w sb lv mi ms mw is wt) {X : Nat → Prop} (hk : Kept X w w') (h1 : X sb) (h2 : X ms) (h3 : X mw) : SPR w' sb lv mi ms mw is wt :=
  ⟨hk.at h.box h1, h.mis.kept hk h2, h.mwt.kept hk h3, h.ne, h.sub⟩
def SPost (sb : Nat) (lv : Value) (mi ms mw : Nat) (w : World) (r : Option (List Int × List Int)) (e : Ending) (w' : World) : Prop :=
  e = .returned (.bool r.isSome) ∧ (∀ p, r = some p → SPR w' sb lv mi ms mw p.1 p.2) ∧ Kept (SK ms mw) w w'
set_option maxRecDepth 100000 in
set_option maxHeartbeats 1000000 in
theorem hold_any {sb : Nat} {lv : Value} {mi ms mw : Nat} {is wt : List Int} (w : World) (h : SPR w sb lv mi ms mw is wt) (x : Int) (hx : okL x) :
    Calls Tryz.prog 30 #[.pointer (some ⟨sb, 0, none⟩), .int .i64 x] w (SPost sb lv mi ms mw w (holdP is wt x)) := by
  have hok : okI x := ⟨by have := hx.2.1; omega, by have := hx.2.2; omega⟩
  have hokn : okI (-x) := ⟨by have := hx.2.2; omega, by have := hx.2.1; omega⟩
  have hsb : sb < w.heap.size := lt_of_block h.box
  have c2 : w.cell? ⟨sb, 2, none⟩ = some (.map (some ms)) := by simp [World.cell?, h.box]
  have c3 : w.cell? ⟨sb, 3, none⟩ = some (.map (some mw)) := by simp [World.cell?, h.box]
  have HM := Lib.hid h.mis
  have HW := Lib.hid h.mwt
  have HAP := Lib.hid h.apart
  have HNE := Lib.hid h.ne
  have H := Lib.hid h
  have hxb : -1048576 ≤ x ∧ x ≤ 1048576 := hx.2
  clear h hx
  by_cases h1 : -x ∈ is
  · have HG1 := Lib.hid (show (getM (oneM is) (-x)).isSome = true by rw [oneM_get, decide_eq_true h1])
    have e : holdP is wt x = none := by unfold holdP; rw [if_pos h1]
    rw [e]
    clear h1 e
    go_enter Tryz.func30, Tryz.ntmps30
    (repeat (first | (with_reducible first | refine xA ?_ | refine xB ?_ | refine xC ?_ | refine xD ?_ | refine xH ?_ | refine xI rfl ?_ | refine xE ?_ | refine xF ?_ | refine xG ?_) | go_skip | go_guarded | ((with_reducible refine wl_id ?_); refine wl_lookup rfl _ _ 79 true rfl 3 3 keyI Tryz.underlying79 (.int .i64 0) (zero3 _) ms (oneM is) rfl HM.out (-x) rfl hokn ?_; (simp only [if_true]; (rw [HG1.out]); generalize (getM (oneM is) (-x)).getD (.int .i64 0) = g1); (try simp only [Act.put, qz4, qz5, qz6])) | go_values | go_skip | go_guarded | go_step | go_upon | go_back | ((with_reducible show Oper.upon _ _ _ _ _ _); go_simp) | (dsimp only)))
    go_ret
    exact ⟨rfl, by simp, Kept.refl _ _⟩
  have HG1 := Lib.hid (show (getM (oneM is) (-x)).isSome = false by rw [oneM_get, decide_eq_false h1])
  by_cases h2 : x ∈ is
  · have HG2 := Lib.hid (show (getM (oneM is) x).isSome = true by rw [oneM_get, decide_eq_true h2])
    have e : holdP is wt x = some (is, wt) := by unfold holdP; rw [if_neg h1, if_pos h2]
    rw [e]
    clear h1 h2 e
    go_enter Tryz.func30, Tryz.ntmps30
    (repeat (first | (with_reducible first | refine xA ?_ | refine xB ?_ | refine xC ?_ | refine xD ?_ | refine xH ?_ | refine xI rfl ?_ | refine xE ?_ | refine xF ?_ | refine xG ?_) | go_skip | go_guarded | ((with_reducible refine wl_id ?_); refine wl_lookup rfl _ _ 79 true rfl 3 3 keyI Tryz.underlying79 (.int .i64 0) (zero3 _) ms (oneM is) rfl HM.out (-x) rfl hokn ?_; (simp only [if_true]; (rw [HG1.out]); generalize (getM (oneM is) (-x)).getD (.int .i64 0) = g1); (try simp only [Act.put, qz4, qz5, qz6])) | ((with_reducible refine wl_id ?_); refine wl_lookup rfl _ _ 79 true rfl 3 3 keyI Tryz.underlying79 (.int .i64 0) (zero3 _) ms (oneM is) rfl HM.out x rfl hok ?_; (simp only [if_true]; (rw [HG2.out]); generalize (getM (oneM is) x).getD (.int .i64 0) = g2); (try simp only [Act.put, qz4, qz5, qz6])) | go_values | go_skip | go_guarded | go_step | go_upon | go_back | ((with_reducible show Oper.upon _ _ _ _ _ _); go_simp) | (dsimp only)))
    go_ret
    exact ⟨rfl, fun p hp => by cases hp; exact H.out, Kept.refl _ _⟩
  · have HG2 := Lib.hid (show (getM (oneM is) x).isSome = false by rw [oneM_get, decide_eq_false h2])
    have e : holdP is wt x = some (is ++ [x], wt ++ [x]) := by unfold holdP; rw [if_neg h1, if_neg h2]
    have HNI := Lib.hid h2
    have HNW := Lib.hid (show x ∉ wt from fun h => h2 (H.out.sub x h))
    rw [e]
    clear h1 h2 e
    go_enter Tryz.func30, Tryz.ntmps30
    (repeat (first | (with_reducible first | refine xA ?_ | refine xB ?_ | refine xC ?_ | refine xD ?_ | refine xH ?_ | refine xI rfl ?_ | refine xE ?_ | refine xF ?_ | refine xG ?_) | go_skip | go_guarded | ((with_reducible refine wl_id ?_); refine wl_lookup rfl _ _ 79 true rfl 3 3 keyI Tryz.underlying79 (.int .i64 0) (zero3 _) ms (oneM is) rfl HM.out (-x) rfl hokn ?_; (simp only [if_true]; (rw [HG1.out]); generalize (getM (oneM is) (-x)).getD (.int .i64 0) = g1); (try simp only [Act.put, qz4, qz5, qz6])) | ((with_reducible refine wl_id ?_); refine wl_lookup rfl _ _ 79 true rfl 3 3 keyI Tryz.underlying79 (.int .i64 0) (zero3 _) ms (oneM is) rfl HM.out x rfl hok ?_; (simp only [if_true]; (rw [HG2.out]); generalize (getM (oneM is) x).getD (.int .i64 0) = g2); (try simp only [Act.put, qz4, qz5, qz6])) | ((with_reducible refine wl_id ?_); refine wl_mapUpdate rfl _ _ _ 79 rfl _ _ keyI Tryz.underlying79 ms (oneM is) rfl HM.out x rfl hok (.int .i64 1) rfl ?_; intro w5 hM5 hg5; (rw [oneM_put _ HNI.out] at hM5); have c35 := (World.cell?_of_block (hg5.block _ hsb (fun e => HAP.out.1 (by injection e)))).trans c3; have hW5 := HW.out.same (hg5.block _ HW.out.lt (fun e => HNE.out (by injection e with e; exact e.symm))); (try simp only [Act.put, qz4, qz5, qz6])) | ((with_reducible refine wl_id ?_); refine wl_mapUpdate rfl _ _ _ 79 rfl _ _ keyI Tryz.underlying79 mw (oneM wt) rfl hW5 x rfl hok (.int .i64 1) rfl ?_; intro w6 hM6 hg6; (rw [oneM_put _ HNW.out] at hM6); (try simp only [Act.put, qz4, qz5, qz6])) | go_values | go_skip | go_guarded | go_step | go_upon | go_back | ((with_reducible show Oper.upon _ _ _ _ _ _); go_simp) | (dsimp only)))
    go_ret
    have hk : Kept (SK ms mw) w w6 := ((Kept.refl _ w).grown hg5 (fun q e _ hx => hx.1 (by injection e with e; exact e.symm))).grown hg6 (fun q e _ hx => hx.2 (by injection e with e; exact e.symm))
    refine ⟨rfl, fun p hp => ?_, hk⟩
    cases hp
    refine ⟨hk.at H.out.box HAP.out, hM5.same (hg6.block _ hM5.lt (fun e => HNE.out (by injection e))), hM6, HNE.out, fun y hy => ?_⟩
    rcases List.mem_append.1 hy with hy | hy
    · exact List.mem_append_left _ (H.out.sub y hy)
    · exact List.mem_append_right _ hy
end Go.Proofs.YtmaogkgjiplckaaGreat
namespace Go.Proofs.YtmaogkgjiplckaaGreat
open Go.RowKit
theorem askL_cons (is : List Int) (x : Int) (c : List Int) (last : Int) : askL is (x :: c) last = if -x ∈ is ∨ x = last then askL is c last else if x ∈ is ∨ last ≠ 0 then none else askL is c x := rfl
theorem drop_at {α : Type} {c : List α} {k : Nat} {x : α} (h : c[k]? = some x) : c.drop k = x :: c.drop (k + 1) := by
  obtain ⟨h1, rfl⟩ := List.getElem?_eq_some_iff.1 h
  exact List.drop_eq_getElem_cons h1
set_option maxRecDepth 100000 in
set_option maxHeartbeats 1000000 in
theorem ask_any {Y : Nat → Prop} {sb : Nat} {lv : Value} {mi ms mw : Nat} {is wt : List Int} (w : World) (h : SPR w sb lv mi ms mw is wt) (v : Value) (c : List Int) (hv : SlX Y w v c) (hc : ∀ x ∈ c, okL x) (hl : c.length ≤ 1000000) (r : Option (List Int × List Int)) (hr : Hid (askP is wt c = r)) :
    Calls Tryz.prog 31 #[.pointer (some ⟨sb, 0, none⟩), v] w (SPost sb lv mi ms mw w r) := by
  obtain ⟨a, m, rfl⟩ := hv.shape
  have c2 : w.cell? ⟨sb, 2, none⟩ = some (.map (some ms)) := by simp [World.cell?, h.box]
  have HM := Lib.hid h.mis
  have H := Lib.hid h
  have HV := Lib.hid hv
  have HC := Lib.hid hc
  have hlI : (c.length : Int) ≤ 1000000 := by omega
  clear h hv hc hl
  go_enter Tryz.func31, Tryz.ntmps31
  (repeat (first | (with_reducible first | refine xA ?_ | refine xB ?_ | refine xC ?_ | refine xD ?_ | refine xH ?_ | refine xI rfl ?_ | refine xE ?_ | refine xF ?_ | refine xG ?_) | go_values | go_skip | go_guarded | go_step | go_upon | go_back | ((with_reducible show Oper.upon _ _ _ _ _ _); go_simp) | (dsimp only)))
  go_loopw [5, 14] (fun u i wr => ∃ (k : Nat) (last : Int), k ≤ c.length ∧ u = .int .i64 last ∧ i = .int .i64 k ∧ wr = w ∧ Hid (askL is c 0 = askL is (c.drop k) last ∧ (last ≠ 0 → okL last)) ∧ (-1048576 ≤ last ∧ last ≤ 1048576)) (fun _ i _ => c.length - (intOf i).toNat)
  case atStart => exact ⟨0, 0, Nat.zero_le _, rfl, rfl, rfl, Lib.hid ⟨rfl, fun h => absurd rfl h⟩, by omega⟩
  case round =>
    obtain ⟨k, last, hk, rfl, rfl, rfl, hA, hlast⟩ := hrel
    rcases Nat.lt_or_ge k c.length with hlt | hge
    · obtain ⟨b, o, rfl, _, _, _, hR⟩ := HV.out.row (by omega)
      obtain ⟨x, hx⟩ : ∃ y, c[k]? = some y := ⟨_, List.getElem?_eq_getElem hlt⟩
      have hcx := hR k x hx
      have hxl := HC.out x (List.mem_of_getElem? hx)
      have HXL := Lib.hid hxl
      have hok : okI x := ⟨by have := hxl.2.1; omega, by have := hxl.2.2; omega⟩
      have hokn : okI (-x) := ⟨by have := hxl.2.2; omega, by have := hxl.2.1; omega⟩
      have hxb : -1048576 ≤ x ∧ x ≤ 1048576 := hxl.2
      have HE := Lib.hid (drop_at hx)
      clear hR hx hxl
      by_cases h1 : -x ∈ is
      · have HG1 := Lib.hid (show (getM (oneM is) (-x)).isSome = true by rw [oneM_get, decide_eq_true h1])
        have HN := Lib.hid (show askL is c 0 = askL is (c.drop (k + 1)) last by rw [hA.out.1, HE.out, askL_cons, if_pos (.inl h1)])
        clear h1
        (repeat (first | (with_reducible first | refine xA ?_ | refine xB ?_ | refine xC ?_ | refine xD ?_ | refine xH ?_ | refine xI rfl ?_ | refine xE ?_ | refine xF ?_ | refine xG ?_) | go_skip | go_guarded | ((with_reducible refine wl_id ?_); refine wl_lookup rfl _ _ 79 true rfl 3 3 keyI Tryz.underlying79 (.int .i64 0) (zero3 _) ms (oneM is) rfl HM.out (-x) rfl hokn ?_; (simp only [if_true]; (rw [HG1.out]); generalize (getM (oneM is) (-x)).getD (.int .i64 0) = g1); (try simp only [Act.put, qz4, qz5, qz6])) | ((with_reducible refine wl_id ?_); refine wl_lookup rfl _ _ 79 true rfl 3 3 keyI Tryz.underlying79 (.int .i64 0) (zero3 _) ms (oneM is) rfl HM.out x rfl hok ?_; (simp only [if_true]; (rw [HG2.out]); generalize (getM (oneM is) x).getD (.int .i64 0) = g2); (try simp only [Act.put, qz4, qz5, qz6])) | go_values | go_skip | go_guarded | go_step | go_upon | go_back | ((with_reducible show Oper.upon _ _ _ _ _ _); go_simp) | (dsimp only)))
        exact ⟨⟨k + 1, last, by omega, rfl, by go_num, rfl, Lib.hid ⟨HN.out, hA.out.2⟩, hlast⟩, by simp [intOf]; omega⟩
      have HG1 := Lib.hid (show (getM (oneM is) (-x)).isSome = false by rw [oneM_get, decide_eq_false h1])
      by_cases h2 : x = last
      · have HN := Lib.hid (show askL is c 0 = askL is (c.drop (k + 1)) last by rw [hA.out.1, HE.out, askL_cons, if_pos (.inr h2)])
        have h2' : (x == last) = true := by simpa using h2
        clear h1 h2
        (repeat (first | (with_reducible first | refine xA ?_ | refine xB ?_ | refine xC ?_ | refine xD ?_ | refine xH ?_ | refine xI rfl ?_ | refine xE ?_ | refine xF ?_ | refine xG ?_) | go_skip | go_guarded | ((with_reducible refine wl_id ?_); refine wl_lookup rfl _ _ 79 true rfl 3 3 keyI Tryz.underlying79 (.int .i64 0) (zero3 _) ms (oneM is) rfl HM.out (-x) rfl hokn ?_; (simp only [if_true]; (rw [HG1.out]); generalize (getM (oneM is) (-x)).getD (.int .i64 0) = g1); (try simp only [Act.put, qz4, qz5, qz6])) | ((with_reducible refine wl_id ?_); refine wl_lookup rfl _ _ 79 true rfl 3 3 keyI Tryz.underlying79 (.int .i64 0) (zero3 _) ms (oneM is) rfl HM.out x rfl hok ?_; (simp only [if_true]; (rw [HG2.out]); generalize (getM (oneM is) x).getD (.int .i64 0) = g2); (try simp only [Act.put, qz4, qz5, qz6])) | go_values | go_skip | go_guarded | go_step | go_upon | go_back | ((with_reducible show Oper.upon _ _ _ _ _ _); go_simp) | (dsimp only)))
        exact ⟨⟨k + 1, last, by omega, rfl, by go_num, rfl, Lib.hid ⟨HN.out, hA.out.2⟩, hlast⟩, by simp [intOf]; omega⟩
      have h2' : (x == last) = false := by simpa using h2
      by_cases h3 : x ∈ is
      · have HG2 := Lib.hid (show (getM (oneM is) x).isSome = true by rw [oneM_get, decide_eq_true h3])
        have HN := Lib.hid (show r = some (is, wt) by rw [← hr.out]; unfold askP; rw [hA.out.1, HE.out, askL_cons, if_neg (by rintro (h | h); exact h1 h; exact h2 h), if_pos (.inl h3)])
        clear h1 h2 h3
        (repeat (first | (with_reducible first | refine xA ?_ | refine xB ?_ | refine xC ?_ | refine xD ?_ | refine xH ?_ | refine xI rfl ?_ | refine xE ?_ | refine xF ?_ | refine xG ?_) | go_skip | go_guarded | ((with_reducible refine wl_id ?_); refine wl_lookup rfl _ _ 79 true rfl 3 3 keyI Tryz.underlying79 (.int .i64 0) (zero3 _) ms (oneM is) rfl HM.out (-x) rfl hokn ?_; (simp only [if_true]; (rw [HG1.out]); generalize (getM (oneM is) (-x)).getD (.int .i64 0) = g1); (try simp only [Act.put, qz4, qz5, qz6])) | ((with_reducible refine wl_id ?_); refine wl_lookup rfl _ _ 79 true rfl 3 3 keyI Tryz.underlying79 (.int .i64 0) (zero3 _) ms (oneM is) rfl HM.out x rfl hok ?_; (simp only [if_true]; (rw [HG2.out]); generalize (getM (oneM is) x).getD (.int .i64 0) = g2); (try simp only [Act.put, qz4, qz5, qz6])) | go_values | go_skip | go_guarded | go_step | go_upon | go_back | ((with_reducible show Oper.upon _ _ _ _ _ _); go_simp) | (dsimp only)))
        go_ret
        rw [HN.out]
        exact ⟨rfl, fun p hp => by cases hp; exact H.out, Kept.refl _ _⟩
      have HG2 := Lib.hid (show (getM (oneM is) x).isSome = false by rw [oneM_get, decide_eq_false h3])
      by_cases h4 : last = 0
      · have h4' : (last != 0) = false := by simpa using h4
        have HN := Lib.hid (show askL is c 0 = askL is (c.drop (k + 1)) x by rw [hA.out.1, HE.out, askL_cons, if_neg (by rintro (h | h); exact h1 h; exact h2 h), if_neg (by rintro (h | h); exact h3 h; exact h h4)])
        clear h1 h2 h3 h4
        (repeat (first | (with_reducible first | refine xA ?_ | refine xB ?_ | refine xC ?_ | refine xD ?_ | refine xH ?_ | refine xI rfl ?_ | refine xE ?_ | refine xF ?_ | refine xG ?_) | go_skip | go_guarded | ((with_reducible refine wl_id ?_); refine wl_lookup rfl _ _ 79 true rfl 3 3 keyI Tryz.underlying79 (.int .i64 0) (zero3 _) ms (oneM is) rfl HM.out (-x) rfl hokn ?_; (simp only [if_true]; (rw [HG1.out]); generalize (getM (oneM is) (-x)).getD (.int .i64 0) = g1); (try simp only [Act.put, qz4, qz5, qz6])) | ((with_reducible refine wl_id ?_); refine wl_lookup rfl _ _ 79 true rfl 3 3 keyI Tryz.underlying79 (.int .i64 0) (zero3 _) ms (oneM is) rfl HM.out x rfl hok ?_; (simp only [if_true]; (rw [HG2.out]); generalize (getM (oneM is) x).getD (.int .i64 0) = g2); (try simp only [Act.put, qz4, qz5, qz6])) | go_values | go_skip | go_guarded | go_step | go_upon | go_back | ((with_reducible show Oper.upon _ _ _ _ _ _); go_simp) | (dsimp only)))
        exact ⟨⟨k + 1, x, by omega, rfl, by go_num, rfl, Lib.hid ⟨HN.out, fun _ => HXL.out⟩, hxb⟩, by simp [intOf]; omega⟩
      · have h4' : (last != 0) = true := by simpa using h4
        have HN := Lib.hid (show r = some (is, wt) by rw [← hr.out]; unfold askP; rw [hA.out.1, HE.out, askL_cons, if_neg (by rintro (h | h); exact h1 h; exact h2 h), if_pos (.inr h4)])
        clear h1 h2 h3 h4
        (repeat (first | (with_reducible first | refine xA ?_ | refine xB ?_ | refine xC ?_ | refine xD ?_ | refine xH ?_ | refine xI rfl ?_ | refine xE ?_ | refine xF ?_ | refine xG ?_) | go_skip | go_guarded | ((with_reducible refine wl_id ?_); refine wl_lookup rfl _ _ 79 true rfl 3 3 keyI Tryz.underlying79 (.int .i64 0) (zero3 _) ms (oneM is) rfl HM.out (-x) rfl hokn ?_; (simp only [if_true]; (rw [HG1.out]); generalize (getM (oneM is) (-x)).getD (.int .i64 0) = g1); (try simp only [Act.put, qz4, qz5, qz6])) | ((with_reducible refine wl_id ?_); refine wl_lookup rfl _ _ 79 true rfl 3 3 keyI Tryz.underlying79 (.int .i64 0) (zero3 _) ms (oneM is) rfl HM.out x rfl hok ?_; (simp only [if_true]; (rw [HG2.out]); generalize (getM (oneM is) x).getD (.int .i64 0) = g2); (try simp only [Act.put, qz4, qz5, qz6])) | go_values | go_skip | go_guarded | go_step | go_upon | go_back | ((with_reducible show Oper.upon _ _ _ _ _ _); go_simp) | (dsimp only)))
        go_ret
        rw [HN.out]
        exact ⟨rfl, fun p hp => by cases hp; exact H.out, Kept.refl _ _⟩
    · obtain rfl : k = c.length := by omega
      have e0 : askL is c 0 = some last := by rw [hA.out.1, List.drop_eq_nil_of_le (Nat.le_refl _)]; rfl
      by_cases h4 : last = 0
      · have h4' : (last != 0) = false := by simpa using h4
        have HN := Lib.hid (show r = none by rw [← hr.out]; unfold askP; rw [e0]; dsimp only; rw [if_pos h4])
        clear e0 h4
        (repeat (first | (with_reducible first | refine xA ?_ | refine xB ?_ | refine xC ?_ | refine xD ?_ | refine xH ?_ | refine xI rfl ?_ | refine xE ?_ | refine xF ?_ | refine xG ?_) | go_skip | go_guarded | (go_at_call 30; (with_reducible refine (HH.out).mono ?_); rintro _ w1 ⟨rfl, hR, hK⟩) | go_values | go_skip | go_guarded | go_step | go_upon | go_back | ((with_reducible show Oper.upon _ _ _ _ _ _); go_simp) | (dsimp only)))
        go_ret
        rw [HN.out]
        exact ⟨rfl, by simp, Kept.refl _ _⟩
      · have h4' : (last != 0) = true := by simpa using h4
        have HN := Lib.hid (show r = holdP is wt last by rw [← hr.out]; unfold askP; rw [e0]; dsimp only; rw [if_neg h4])
        have HH := Lib.hid (hold_any wr H.out last (hA.out.2 h4))
        rw [← HN.out] at HH
        clear e0 h4
        (repeat (first | (with_reducible first | refine xA ?_ | refine xB ?_ | refine xC ?_ | refine xD ?_ | refine xH ?_ | refine xI rfl ?_ | refine xE ?_ | refine xF ?_ | refine xG ?_) | go_skip | go_guarded | (go_at_call 30; (with_reducible refine (HH.out).mono ?_); rintro _ w1 ⟨rfl, hR, hK⟩) | go_values | go_skip | go_guarded | go_step | go_upon | go_back | ((with_reducible show Oper.upon _ _ _ _ _ _); go_simp) | (dsimp only)))
        go_ret
        exact ⟨rfl, hR, hK⟩
end Go.Proofs.YtmaogkgjiplckaaGreat
namespace Go.Proofs.YtmaogkgjiplckaaGreat
open Go.RowKit
theorem holdP_len {is wt : List Int} {x : Int} {r : List Int × List Int} (h : holdP is wt x = some r) : r.1.length + wt.length = is.length + r.2.length ∧ is.length ≤ r.1.length := by
  unfold holdP at h
  split at h
  · cases h
  split at h
  · cases h; exact ⟨rfl, Nat.le_refl _⟩
  · cases h; simp; omega
theorem askP_len {is wt c : List Int} {r : List Int × List Int} (h : askP is wt c = some r) : r.1.length + wt.length = is.length + r.2.length ∧ is.length ≤ r.1.length := by
  unfold askP at h
  rcases hl : askL is c 0 with _ | l
  · rw [hl] at h; cases h; exact ⟨rfl, Nat.le_refl _⟩
  · rw [hl] at h
    dsimp only at h
    split at h
    · cases h
    · exact holdP_len h
theorem nodup_bound (a : Int) : ∀ (n : Nat) (l : List Int), l.Nodup → (∀ x ∈ l, a ≤ x ∧ x < a + n) → l.length ≤ n := by
  intro n
  induction n with
  | zero =>
    intro l _ h
    rcases l with _ | ⟨x, l⟩
    · simp
    · have := h x List.mem_cons_self; omega
  | succ n ih =>
    intro l hn h
    have h1 := ih (l.erase (a + n)) (hn.erase _) (fun x hx => by
      have h2 := h x (List.mem_of_mem_erase hx)
      have h3 : x ≠ a + n := by
        rintro rfl
        exact (List.Nodup.mem_erase_iff hn).1 hx |>.1 rfl
      omega)
    have h4 := List.length_erase (a := a + (n : Int)) (l := l)
    split at h4 <;> omega
theorem okL_len {l : List Int} (hn : l.Nodup) (h : ∀ x ∈ l, okL x) : l.length ≤ 2097153 := nodup_bound (-1048576) 2097153 l hn (fun x hx => by obtain ⟨_, h1, h2⟩ := h x hx; omega)
def mapSz (w : World) (b : Nat) : Nat := match w.heap[b]? with | some (.map es _) => es.size | _ => 0
theorem MapV.sz {κ : Type} {enc : κ → Value} {ok : κ → Prop} {w : World} {b : Nat} {m : List (κ × Value)} (h : MapV enc ok w b m) : mapSz w b = m.length := by
  obtain ⟨es, c, hb, he, _⟩ := h
  have : es.size = m.length := by have := congrArg List.length he; simpa using this
  unfold mapSz
  rw [hb]; exact this
theorem SPR.sizes {w : World} {sb : Nat} {lv : Value} {mi ms mw : Nat} {is wt : List Int} (h : SPR w sb lv mi ms mw is wt) : mapSz w ms = is.length ∧ mapSz w mw = wt.length := ⟨by rw [h.mis.sz, oneM_len], by rw [h.mwt.sz, oneM_len]⟩
def qOf (cl : List (List Int)) (l : List Int) : List (List Int) := l.map fun i => cl.getD i.toNat []
structure GIN (cl : List (List Int)) (gi : Int → List Int) : Prop where
  bd : ∀ x, ∀ i ∈ gi x, 0 ≤ i ∧ i < cl.length
  all : ∀ (x : Int) (k : Nat) (c : List Int), cl[k]? = some c → x ∈ c → (k : Int) ∈ gi x
  len : ∀ x, (gi x).length ≤ 1000000000
theorem GIN.q {cl : List (List Int)} {gi : Int → List Int} (h : GIN cl gi) (x : Int) : ∀ c ∈ cl, x ∈ c → c ∈ qOf cl (gi x) := by
  intro c hc hx
  obtain ⟨k, hk⟩ := List.mem_iff_getElem?.1 hc
  unfold qOf
  refine List.mem_map.2 ⟨k, h.all x k c hk hx, ?_⟩
  rw [Int.toNat_natCast, List.getD_eq_getElem?_getD, hk]; rfl
theorem qOf_at {cl : List (List Int)} {l : List Int} {j : Nat} {i : Int} {c : List Int} (hj : l[j]? = some i) (hc : cl[i.toNat]? = some c) : (qOf cl l).drop j = c :: (qOf cl l).drop (j + 1) := by
  refine drop_at ?_
  unfold qOf
  rw [List.getElem?_map, hj, Option.map_some, List.getD_eq_getElem?_getD, hc]; rfl
end Go.Proofs.YtmaogkgjiplckaaGreat
namespace Go.Proofs.YtmaogkgjiplckaaGreat
open Go.RowKit
theorem zeroS (w : World) : (zeroValue 31).run Tryz.prog w = .ok (.slice none 0 0) w := by kernel_rfl
structure SGr (w : World) (q n : Nat) (vs : List Value) (cl : List (List Int)) (gi : Int → List Int) (mi ms mw : Nat) : Prop where
  rows : RowV w q vs
  sk : SK ms mw q
  sls : SlsX (SK ms mw) w vs cl
  gin : ∃ m, MapV encI okI w mi m ∧ (∀ x, getM m x = none → gi x = []) ∧ ∀ x v, getM m x = some v → SlX (SK ms mw) w v (gi x)
  ki : SK ms mw mi
theorem SGr.kept {w w' : World} {q n : Nat} {vs : List Value} {cl : List (List Int)} {gi : Int → List Int} {mi ms mw : Nat} (h : SGr w q n vs cl gi mi ms mw) (hk : Kept (SK ms mw) w w') : SGr w' q n vs cl gi mi ms mw := by
  obtain ⟨h1, h2, h3, ⟨m, h4, h5, h6⟩, h7⟩ := h
  exact ⟨h1.kept hk h2, h2, h3.kept hk, ⟨m, h4.kept hk h7, h5, fun x v hx => (h6 x v hx).kept hk⟩, h7⟩
theorem SGr.look {w : World} {q n : Nat} {vs : List Value} {cl : List (List Int)} {gi : Int → List Int} {mi ms mw : Nat} (h : SGr w q n vs cl gi mi ms mw) : ∃ m, MapV encI okI w mi m ∧ ∀ x, ∃ a c, (getM m x).getD (.slice none 0 0) = .slice a (gi x).length c ∧ SlX (SK ms mw) w (.slice a (gi x).length c) (gi x) := by
  obtain ⟨m, h1, h2, h3⟩ := h.gin
  refine ⟨m, h1, fun x => ?_⟩
  rcases hx : getM m x with _ | v
  · rw [h2 x hx]
    exact ⟨none, 0, rfl, SlX.nil _ _⟩
  · have := h3 x v hx
    obtain ⟨a, c, rfl⟩ := this.shape
    exact ⟨a, c, rfl, this⟩
set_option maxRecDepth 100000 in
set_option maxHeartbeats 2000000 in
theorem run_any {cl : List (List Int)} {fr F : List Int} {gi : Int → List Int} {sb q n : Nat} {vs : List Value} {mi ms mw : Nat} {is0 wt0 : List Int} (w : World) (h : SPR w sb (.slice (some ⟨q, 0, none⟩) n n) mi ms mw is0 wt0) (hg : SGr w q n vs cl gi mi ms mw) (hn : cl.length = n) (hnb : n ≤ 100000000) (hG : GIN cl gi) (hcl : ∀ c ∈ cl, ∀ x ∈ c, okL x) (hll : ∀ c ∈ cl, c.length ≤ 1000000) (hQ : SQ cl fr F is0 wt0 []) :
    Calls Tryz.prog 32 #[.pointer (some ⟨sb, 0, none⟩)] w fun e w' => ∃ b, e = .returned (.bool b) ∧ (b = true → ∃ is', SPR w' sb (.slice (some ⟨q, 0, none⟩) n n) mi ms mw is' [] ∧ SQ cl fr F is' [] []) ∧ (b = false → Conflict cl fr) ∧ Kept (SK ms mw) w w' := by
  have HG := Lib.hid hg
  have HGI := Lib.hid hG
  have HCL := Lib.hid hcl
  have HLL := Lib.hid hll
  have HN := Lib.hid hn
  have hnI : (n : Int) ≤ 100000000 := by omega
  have HS0 := Lib.hid (show SPR w sb (.slice (some ⟨q, 0, none⟩) n n) mi ms mw is0 wt0 ∧ SQ cl fr F is0 wt0 [] from ⟨h, hQ⟩)
  obtain ⟨m, hmi⟩ := hg.look
  have HMI := Lib.hid hmi
  clear h hg hn hnb hG hcl hll hQ hmi
  go_enter Tryz.func32, Tryz.ntmps32
  (repeat (first | (with_reducible first | refine xA ?_ | refine xB ?_ | refine xC ?_ | refine xD ?_ | refine xH ?_ | refine xI rfl ?_ | refine xE ?_ | refine xF ?_ | refine xG ?_) | go_values | go_skip | go_guarded | go_step | go_upon | go_back | ((with_reducible show Oper.upon _ _ _ _ _ _); go_simp) | (dsimp only)))
  go_loopw [] (fun wr => ∃ (is wt : List Int), Hid (SPR wr sb (.slice (some ⟨q, 0, none⟩) n n) mi ms mw is wt) ∧ Hid (SQ cl fr F is wt []) ∧ Kept (SK ms mw) w wr) (fun wr => 2 * (2097153 - mapSz wr ms) + mapSz wr mw)
  case atStart => exact ⟨is0, wt0, Lib.hid HS0.out.1, Lib.hid HS0.out.2, Kept.refl _ _⟩
  case round =>
    obtain ⟨is, wt, HR, HQ, hK⟩ := hrel
    have hsz := Lib.hid HR.out.sizes
    have c0 : wr.cell? ⟨sb, 0, none⟩ = some (.slice (some ⟨q, 0, none⟩) n n) := by simp [World.cell?, HR.out.box]
    have c1 : wr.cell? ⟨sb, 1, none⟩ = some (.map (some mi)) := by simp [World.cell?, HR.out.box]
    have c3 : wr.cell? ⟨sb, 3, none⟩ = some (.map (some mw)) := by simp [World.cell?, HR.out.box]
    rcases Nat.eq_zero_or_pos wt.length with hz | hp
    · have hzI : decide ((wt.length : Int) > 0) = false := decide_eq_false (by omega)
      (repeat (first | (with_reducible first | refine xA ?_ | refine xB ?_ | refine xC ?_ | refine xD ?_ | refine xH ?_ | refine xI rfl ?_ | refine xE ?_ | refine xF ?_ | refine xG ?_) | go_skip | go_guarded | ((with_reducible refine wl_id ?_); refine wl_len rfl _ 79 rfl 3 3 Tryz.underlying79 mw (oneM wt) rfl HR.out.mwt ?_; (rw [oneM_len]); (try simp only [Act.put, qz4, qz5, qz6])) | go_values | go_skip | go_guarded | go_step | go_upon | go_back | ((with_reducible show Oper.upon _ _ _ _ _ _); go_simp) | (dsimp only)))
      go_ret
      obtain rfl : wt = [] := List.length_eq_zero_iff.1 hz
      exact ⟨true, rfl, fun _ => ⟨is, HR.out, HQ.out⟩, by simp, hK⟩
    · have hzI : decide ((wt.length : Int) > 0) = true := decide_eq_true (by omega)
      (repeat (first | (with_reducible first | refine xA ?_ | refine xB ?_ | refine xC ?_ | refine xD ?_ | refine xH ?_ | refine xI rfl ?_ | refine xE ?_ | refine xF ?_ | refine xG ?_) | go_skip | go_guarded | ((with_reducible refine wl_id ?_); refine wl_len rfl _ 79 rfl 3 3 Tryz.underlying79 mw (oneM wt) rfl HR.out.mwt ?_; (rw [oneM_len]); (try simp only [Act.put, qz4, qz5, qz6])) | ((with_reducible refine wl_id ?_); refine wl_range rfl _ 79 rfl 3 3 Tryz.underlying79 mw (oneM wt) rfl HR.out.mwt ?_; intro w1 hI hb1; (rw [oneM_keys] at hI); (try simp only [Act.put, qz4, qz5, qz6])) | go_values | go_skip | go_guarded | go_step | go_upon | go_back | ((with_reducible show Oper.upon _ _ _ _ _ _); go_simp) | (dsimp only)))
      refine wp_loop_rounds 1 ?_
      rw [rounds_succ]
      (repeat (first | (with_reducible first | refine xA ?_ | refine xB ?_ | refine xC ?_ | refine xD ?_ | refine xH ?_ | refine xI rfl ?_ | refine xE ?_ | refine xF ?_ | refine xG ?_) | go_skip | go_guarded | ((with_reducible refine wl_id ?_); refine wl_next rfl _ rfl (fun x y h => keyI.inj x y h) wr.heap.size mw (oneM wt) wt rfl hI (fun e => absurd e (by rintro rfl; simp at hp)) ?_; intro x xv w2 hxL hxm hI2 hg2 hent; have hb2 : Below wr.heap.size wr w2 := ((Kept.ofBelow (X := fun k => k < wr.heap.size) hb1).grown hg2 (fun q e hl => by injection e with e; omega)).toBelow (Nat.le_refl _) (fun k h => h); have hW2 := HR.out.mwt.kept (Kept.ofBelow (X := fun _ => True) hb2) trivial; have d3 := cell_keep hb2 c3; have hxo := HQ.out.rng x (HQ.out.sub x hxL); have hxb := hxo.2; have hokx : okI x := ⟨by omega, by omega⟩; have hoknx : okI (-x) := ⟨by omega, by omega⟩; obtain ⟨a3, m3, he3, hs3⟩ := HMI.out.2 (-x); have HE3 := Lib.hid he3; have HS3 := Lib.hid hs3; have hgl := HGI.out.len (-x); have hglI : ((gi (-x)).length : Int) ≤ 1000000000 := (by omega); have HX := Lib.hid hxL; have HXO := Lib.hid hxo; clear hxm hI2 hI hg2 he3 hs3 hxo hxL; (simp only [encI] at hent ⊢); (try simp only [Act.put, qz4, qz5, qz6])) | ((with_reducible refine wl_id ?_); refine wl_entry rfl _ rfl wr.heap.size rfl _ hent ?_; (try simp only [Act.put, qz4, qz5, qz6])) | ((with_reducible refine wl_id ?_); refine wl_delete rfl _ _ 79 3 rfl 3 keyI Tryz.underlying79 mw (oneM wt) rfl hW2 x rfl hokx ?_; intro w3 hM3 hg3; (rw [oneM_rem HQ.out.nodw] at hM3); have hk3 : Kept (SK ms mw) wr w3 := (Kept.ofBelow hb2).grown hg3 (fun q e _ hx => hx.2 (by injection e with e; exact e.symm)); have hK3 := hK.trans hk3; have d1 := hk3.cell c1 HR.out.apart; have hMi := HMI.out.1.kept hK3 HG.out.ki; have d0 := hk3.cell c0 HR.out.apart; have HM3 := Lib.hid (show SPR w3 sb (.slice (some ⟨q, 0, none⟩) n n) mi ms mw is (wt.erase x) from ⟨hk3.at HR.out.box HR.out.apart, (HR.out.mis.kept (Kept.ofBelow (X := fun _ => True) hb2) trivial).same (hg3.block _ (Nat.lt_of_lt_of_le HR.out.mis.lt hb2.size) (fun e => HR.out.ne (by injection e))), hM3, HR.out.ne, fun y hy => HR.out.sub y (List.mem_of_mem_erase hy)⟩); have HQ3 := Lib.hid (HQ.out.pick (x := x) (qOf cl (gi (-x))) (HGI.out.q (-x))); clear hM3 hg3 hW2 d3; (try simp only [Act.put, qz4, qz5, qz6])) | ((with_reducible refine wl_id ?_); refine wl_lookup rfl _ _ 78 false rfl 3 31 keyI Tryz.underlying78 (.slice none 0 0) (zeroS _) mi m rfl hMi (-x) rfl hoknx ?_; (simp only [Bool.false_eq_true, if_false]; (rw [HE3.out])); (try simp only [Act.put, qz4, qz5, qz6])) | go_values | go_skip | go_guarded | go_step | go_upon | go_back | ((with_reducible show Oper.upon _ _ _ _ _ _); go_simp) | (dsimp only)))
      clear hent hokx hoknx hxb d1 hMi hk3 hb2 hb1 c0 c1 c3 hzI
      go_loopw [34] (fun i wj => ∃ (j : Nat) (is2 wt2 : List Int), j ≤ (gi (-x)).length ∧ i = .int .i64 j ∧ Hid (SPR wj sb (.slice (some ⟨q, 0, none⟩) n n) mi ms mw is2 wt2) ∧ Hid (SQ cl fr F is2 wt2 ((qOf cl (gi (-x))).drop j)) ∧ Kept (SK ms mw) w wj ∧ Hid (is2.length + (wt.erase x).length = is.length + wt2.length ∧ is.length ≤ is2.length)) (fun i _ => (gi (-x)).length - (intOf i).toNat)
      case atStart => exact ⟨0, is, wt.erase x, Nat.zero_le _, rfl, HM3, HQ3, hK3, Lib.hid ⟨rfl, Nat.le_refl _⟩⟩
      case round =>
        clear hK3 HM3 HQ3 d0
        obtain ⟨j, is2, wt2, hj, rfl, HR2, HQ2, hK2, hms⟩ := hrel
        rcases Nat.lt_or_ge j (gi (-x)).length with hlt | hge
        · obtain ⟨b, o, rfl, hbs, _, _, hRow⟩ := HS3.out.row (by omega)
          obtain ⟨i, hi⟩ : ∃ y, (gi (-x))[j]? = some y := ⟨_, List.getElem?_eq_getElem hlt⟩
          have hci := hK2.cell (hRow j i hi) hbs
          have hib := HGI.out.bd _ i (List.mem_of_getElem? hi)
          obtain ⟨k, rfl⟩ := Int.eq_ofNat_of_zero_le hib.1
          obtain ⟨c, hc⟩ : ∃ c, cl[k]? = some c := ⟨_, List.getElem?_eq_getElem (by omega)⟩
          obtain ⟨v, hv⟩ : ∃ v, vs[k]? = some v := ⟨_, List.getElem?_eq_getElem (by have := HG.out.sls.1; omega)⟩
          have hcv := hK2.cell (HG.out.rows k v hv) HG.out.sk
          have hsv := (HG.out.sls.2 k v c hv hc).kept hK2
          have hkn : (k : Int) < (n : Int) := by have := HN.out; omega
          have d0 : wr.cell? ⟨sb, 0, none⟩ = some (.slice (some ⟨q, 0, none⟩) n n) := by simp [World.cell?, HR2.out.box]
          have HQD := Lib.hid (show (qOf cl (gi (-x))).drop j = c :: (qOf cl (gi (-x))).drop (j + 1) from qOf_at hi (by rw [Int.toNat_natCast]; exact hc))
          obtain ⟨av, mv, rfl⟩ := hsv.shape
          obtain ⟨r, hr⟩ : ∃ r, Hid (askP is2 wt2 c = r) := ⟨_, Lib.hid rfl⟩
          have HCM := Lib.hid (List.mem_of_getElem? hc)
          have HA := Lib.hid (ask_any wr HR2.out _ c hsv (HCL.out c HCM.out) (HLL.out c HCM.out) r hr)
          have HQ4 := HQ2.out
          rw [HQD.out] at HQ4
          have HQ5 := Lib.hid (HQ4.ask HCM.out (HCL.out c HCM.out))
          rw [hr.out] at HQ5
          clear hi hib hc hv hRow hsv HQ4
          (repeat (first | (with_reducible first | refine xA ?_ | refine xB ?_ | refine xC ?_ | refine xD ?_ | refine xH ?_ | refine xI rfl ?_ | refine xE ?_ | refine xF ?_ | refine xG ?_) | go_skip | go_guarded | (go_at_call 31; (with_reducible refine (HA.out).mono ?_); rintro _ w4 ⟨rfl, hR4, hK4⟩; have hK24 := hK2.trans hK4; rcases r with _ | r; rotate_left; all_goals (simp only [Option.isSome_some, Option.isSome_none])) | go_values | go_skip | go_guarded | go_step | go_upon | go_back | ((with_reducible show Oper.upon _ _ _ _ _ _); go_simp) | (dsimp only)))
          · have hq6 := HQ5.out.1 r rfl
            have hl := askP_len hr.out
            exact ⟨⟨j + 1, r.1, r.2, by omega, by go_num, Lib.hid (hR4 r rfl), Lib.hid hq6.1, hK24, Lib.hid (by have := hms.out; omega)⟩, by simp [intOf]; omega⟩
          · (repeat (first | (with_reducible first | refine xA ?_ | refine xB ?_ | refine xC ?_ | refine xD ?_ | refine xH ?_ | refine xI rfl ?_ | refine xE ?_ | refine xF ?_ | refine xG ?_) | go_values | go_skip | go_guarded | go_step | go_upon | go_back | ((with_reducible show Oper.upon _ _ _ _ _ _); go_simp) | (dsimp only)))
            go_ret
            exact ⟨false, rfl, by simp, fun _ => HQ5.out.2 rfl, hK24⟩
        · obtain rfl : j = (gi (-x)).length := by omega
          (repeat (first | (with_reducible first | refine xA ?_ | refine xB ?_ | refine xC ?_ | refine xD ?_ | refine xH ?_ | refine xI rfl ?_ | refine xE ?_ | refine xF ?_ | refine xG ?_) | go_values | go_skip | go_guarded | go_step | go_upon | go_back | ((with_reducible show Oper.upon _ _ _ _ _ _); go_simp) | (dsimp only)))
          have hq6 := HQ2.out
          rw [show (qOf cl (gi (-x))).drop (gi (-x)).length = [] from List.drop_eq_nil_of_le (by simp [qOf])] at hq6
          refine ⟨⟨is2, wt2, HR2, Lib.hid hq6, hK2⟩, ?_⟩
          have hz2 := HR2.out.sizes
          have hz1 := hsz.out
          have hb2 := okL_len hq6.nod hq6.rng
          have hm := hms.out
          rw [List.length_erase_of_mem HX.out] at hm
          rw [hz1.1, hz1.2, hz2.1, hz2.2]
          omega
end Go.Proofs.YtmaogkgjiplckaaGreat
namespace Go.Proofs.YtmaogkgjiplckaaGreat
open Go.RowKit
def updG (gi : Int → List Int) (x i : Int) : Int → List Int := fun y => if y = x then gi x ++ [i] else gi y
structure GI2 (cl : List (List Int)) (gi : Int → List Int) (k j : Nat) : Prop where
  bd : ∀ x, ∀ i ∈ gi x, 0 ≤ i ∧ i < cl.length
  all : ∀ (x : Int) (k' : Nat) (c : List Int), k' < k → cl[k']? = some c → x ∈ c → (k' : Int) ∈ gi x
  cur : ∀ (x : Int) (c : List Int), cl[k]? = some c → x ∈ c.take j → (k : Int) ∈ gi x
  len : ∀ x, (gi x).length ≤ 64 * k + j
section
variable {cl : List (List Int)} {gi : Int → List Int} {k j : Nat}
theorem GI2.start : GI2 cl (fun _ => []) 0 0 := ⟨by simp, fun x k' c h => by omega, by simp, by simp⟩
theorem updG_mem {x i y u : Int} (h : u ∈ gi y) : u ∈ updG gi x i y := by
  unfold updG
  split
  · rename_i e; subst e; exact List.mem_append_left _ h
  · exact h
theorem GI2.nextJ (h : GI2 cl gi k j) {c : List Int} {x : Int} (hc : cl[k]? = some c) (hx : c[j]? = some x) : GI2 cl (updG gi x k) k (j + 1) := by
  have hk := (List.getElem?_eq_some_iff.1 hc).1
  refine ⟨fun y i hi => ?_, fun y k' c' a b d => updG_mem (h.all y k' c' a b d), fun y c' a b => ?_, fun y => ?_⟩
  · unfold updG at hi
    split at hi
    · rcases List.mem_append.1 hi with hi | hi
      · exact h.bd _ i hi
      · rw [List.mem_singleton] at hi; subst hi; omega
    · exact h.bd _ i hi
  · rw [hc] at a; cases a
    rw [list_upto hx] at b
    rcases List.mem_append.1 b with b | b
    · exact updG_mem (h.cur y c hc b)
    · rw [List.mem_singleton] at b; subst b
      unfold updG; rw [if_pos rfl]; simp
  · unfold updG
    have h1 := h.len x
    have h2 := h.len y
    split
    · rw [List.length_append, List.length_singleton]; omega
    · omega
theorem GI2.nextK (h : GI2 cl gi k j) {c : List Int} (hc : cl[k]? = some c) (hj : j = c.length) (hl : c.length ≤ 64) : GI2 cl gi (k + 1) 0 := by
  refine ⟨h.bd, fun y k' c' a b d => ?_, by simp, fun y => by have := h.len y; omega⟩
  rcases Nat.lt_or_ge k' k with hlt | hge
  · exact h.all y k' c' hlt b d
  · obtain rfl : k' = k := by omega
    rw [hc] at b; cases b
    exact h.cur y c hc (by rw [hj, List.take_of_length_le (Nat.le_refl _)]; exact d)
theorem GI2.done (h : GI2 cl gi k 0) (hk : k = cl.length) (hn : cl.length ≤ 10000000) : GIN cl gi :=
  ⟨h.bd, fun x k' c a b => h.all x k' c (by have := (List.getElem?_eq_some_iff.1 a).1; omega) a b, fun x => by have := h.len x; omega⟩
end
theorem get_put {κ : Type} [DecidableEq κ] (m : List (κ × Value)) (x y : κ) (v : Value) : getM (putM m x v) y = if y = x then some v else getM m y := by
  unfold putM
  by_cases hm : x ∈ m.map (·.1)
  · rw [if_pos hm]
    unfold getM
    induction m with
    | nil => simp at hm
    | cons p m ih =>
      rw [List.map_cons, List.find?_cons, List.find?_cons]
      by_cases e : p.1 = x
      · rw [if_pos e]
        by_cases hy : y = x
        · subst hy; simp
        · have : ¬ x = y := fun h => hy h.symm
          rw [if_neg hy, decide_eq_false this, e, decide_eq_false this]
          dsimp only
          by_cases hm2 : x ∈ m.map (·.1)
          · have := ih hm2; rw [if_neg hy] at this; exact this
          · have e2 : m.map (fun p => if p.1 = x then (x, v) else p) = m := by
              conv => rhs; rw [← List.map_id m]
              refine List.map_congr_left fun q hq => ?_
              have : q.1 ≠ x := fun h => hm2 (List.mem_map.2 ⟨q, hq, h⟩)
              rw [if_neg this]; rfl
            rw [e2]
      · rw [if_neg e]
        by_cases hy : p.1 = y
        · rw [decide_eq_true hy]
          have : ¬ y = x := fun h => e (hy.trans h)
          rw [if_neg this]
        · rw [decide_eq_false hy]
          rw [List.map_cons, List.mem_cons] at hm
          exact ih (hm.resolve_left (fun h => e h.symm))
  · rw [if_neg hm]
    unfold getM
    rw [List.find?_append]
    by_cases hy : y = x
    · subst hy
      have : m.find? (fun p => decide (p.1 = y)) = none := List.find?_eq_none.2 fun p hp => by
        simpa using fun h => hm (List.mem_map.2 ⟨p, hp, h⟩)
      rw [this, if_pos rfl]; simp
    · rw [if_neg hy]
      cases h : m.find? (fun p => decide (p.1 = y)) with
      | some q => rfl
      | none =>
        have : ¬ x = y := fun h => hy h.symm
        simp [this]
def Grp (w : World) (B b : Nat) (gi : Int → List Int) (m : List (Int × Value)) : Prop :=
  MapV encI okI w b m ∧ (∀ x, getM m x = none → gi x = []) ∧ (∀ x v, getM m x = some v → w.ownsRow B 3 1 v (gi x).length ((gi x).map (Value.int .i64))) ∧
    ∀ x y v u, getM m x = some v → getM m y = some u → x ≠ y → ∀ k, v.ownBlock = some k → u.ownBlock ≠ some k
theorem Grp.made {w : World} {B b : Nat} (h : MapV encI okI w b []) : Grp w B b (fun _ => []) [] := ⟨h, fun _ _ => rfl, by simp [getM], by simp [getM]⟩
theorem Grp.own {w : World} {B b : Nat} {gi : Int → List Int} {m : List (Int × Value)} (h : Grp w B b gi m) (x : Int) : w.ownsRow B 3 1 ((getM m x).getD (.slice none 0 0)) (gi x).length ((gi x).map (Value.int .i64)) := by
  rcases hx : getM m x with _ | v
  · rw [h.2.1 x hx]; exact World.ownsRow_nil _ _ _ _
  · exact h.2.2.1 x v hx
theorem Grp.put {w w2 w3 : World} {B b : Nat} {gi : Int → List Int} {m : List (Int × Value)} (h : Grp w B b gi m) {x i : Int} {v' : Value} (hg : w.grownBy w2 ((getM m x).getD (.slice none 0 0)).ownBlock)
    (ho : w2.ownsRow B 3 1 v' ((gi x).length + 1) ((gi x ++ [i]).map (Value.int .i64))) (hl : v'.ownBlock = ((getM m x).getD (.slice none 0 0)).ownBlock ∨ ∀ k, v'.ownBlock = some k → w.heap.size ≤ k)
    (hM : MapV encI okI w3 b (putM m x v')) (hg3 : w2.grownBy w3 (some b)) (hb : b < B) : Grp w3 B b (updG gi x i) (putM m x v') := by
  have keep3 : ∀ (v : Value) (n : Nat) (l : List Value), w2.ownsRow B 3 1 v n l → w3.ownsRow B 3 1 v n l := fun v n l h => h.kept hg3 (by
    rcases hv : v.ownBlock with _ | k
    · exact .inl rfl
    · right; intro e; injection e with e; have := (h.lt k hv).1; omega)
  have other : ∀ y u, y ≠ x → getM m y = some u → w3.ownsRow B 3 1 u (gi y).length ((gi y).map (Value.int .i64)) := fun y u hne hu => by
    refine keep3 _ _ _ ((h.2.2.1 y u hu).kept hg ?_)
    rcases hv : u.ownBlock with _ | k
    · exact .inl rfl
    · right
      intro e
      rcases hx : getM m x with _ | v
      · rw [hx] at e; simp [Value.ownBlock] at e
      · rw [hx] at e
        exact h.2.2.2 x y v u hx hu (Ne.symm hne) k e.symm hv
  have far : ∀ y u k, y ≠ x → getM m y = some u → v'.ownBlock = some k → u.ownBlock ≠ some k := fun y u k hne hu hk e => by
    rcases hl with hl | hl
    · rcases hx : getM m x with _ | v
      · rw [hl, hx] at hk; simp [Value.ownBlock] at hk
      · rw [hl, hx] at hk
        exact h.2.2.2 x y v u hx hu (Ne.symm hne) k hk e
    · have h1 := hl k hk
      have h2 := ((h.2.2.1 y u hu).lt k e).2
      omega
  refine ⟨hM, fun y hy => ?_, fun y u hu => ?_, fun y z u t hu ht hne k hk => ?_⟩
  · rw [get_put] at hy
    unfold updG
    split at hy
    · cases hy
    · rename_i hn; rw [if_neg hn]; exact h.2.1 y hy
  · rw [get_put] at hu
    unfold updG
    split at hu
    · rename_i e; cases hu; subst e; rw [if_pos rfl]
      have := keep3 _ _ _ ho
      simpa using this
    · rename_i e; rw [if_neg e]; exact other y u e hu
  · rw [get_put] at hu ht
    split at hu
    · rename_i ey; cases hu
      split at ht
      · rename_i ez; exact absurd (ey.trans ez.symm) hne
      · rename_i ez; exact far z t k ez ht hk
    · rename_i ey
      split at ht
      · cases ht; exact fun e => far y u k ey hu e hk
      · exact h.2.2.2 y z u t hu ht hne k hk
end Go.Proofs.YtmaogkgjiplckaaGreat
/- The library functions slices.SortFunc, cmp.Compare, slices.Reverse as this program calls them: laid from the shelf, by its own tool, in plain words. -/
namespace Go.Proofs
open Go.Shelf
def Tryz.lays112_ren : Go.Shelf.Ren := ⟨fun | 112 => 134 | n => n, fun | 28 => 31 | 3 => 3 | 4 => 4 | 0 => 0 | n => n, fun | n => n⟩
theorem Tryz.lays112 : Go.Proofs.Lays.n112 Tryz.prog Tryz.lays112_ren := {
  mixed := by kernel_rfl
  f112 := Tryz.func134.trans (congrArg some (by kernel_rfl))
  t0 := Tryz.underlying0
  a0 := Tryz.isAgg0
  z0 := Tryz.sizeOf0
  v0 := Tryz.zeroValue0
  t3 := Tryz.underlying3
  a3 := Tryz.isAgg3
  z3 := Tryz.sizeOf3
  v3 := Tryz.zeroValue3
  t4 := Tryz.underlying4
  a4 := Tryz.isAgg4
  z4 := Tryz.sizeOf4
  v4 := Tryz.zeroValue4
  t28 := Tryz.underlying31
  a28 := Tryz.isAgg31
  z28 := Tryz.sizeOf31
  v28 := Tryz.zeroValue31 }
open Go.RowKit Go.Lib Go.Sort in
open Go.RowKit Go.Lib Go.Sort in
theorem Tryz.slices_Reverse_int (blk off cap : Nat) (zs : List Int) (w : World) (hH : Holds (Value.int .i64) w blk off zs.toArray) (hsz : zs.length ≤ 9223372036854775807) :
    Calls Tryz.prog 134 #[.slice (some ⟨blk, off, none⟩) zs.length cap] w fun e w' => e = .returned (.tuple #[]) ∧ ∃ n, w' = putRow (Value.int .i64) (Sort.ahead w n) blk off zs.reverse.toArray := Any.slices_Reverse_int Tryz.lays112 blk off cap zs w hH hsz
open Go.RowKit Go.Lib Go.Sort in
open Go.Lib in
def Tryz.laysSlC25_f55_ren : Go.Shelf.Ren := ⟨fun | 5 => 55 | 7 => 70 | n => n, fun | 22 => 3 | 3 => 3 | 4 => 4 | n => n, fun | n => n⟩
theorem Tryz.laysSlC25_f55 : Go.Proofs.SlLaysC2.n5 Tryz.prog Tryz.laysSlC25_f55_ren := {
  mixed := by kernel_rfl
  f5 := ⟨Tryz.f55.name, by decide, Tryz.func55.trans (congrArg some (by kernel_rfl))⟩
  f7 := ⟨Tryz.f70.name, by decide, Tryz.func70.trans (congrArg some (by kernel_rfl))⟩
  t3 := Tryz.underlying3
  a3 := Tryz.isAgg3
  z3 := Tryz.sizeOf3
  v3 := Tryz.zeroValue3
  t4 := Tryz.underlying4
  a4 := Tryz.isAgg4
  z4 := Tryz.sizeOf4
  v4 := Tryz.zeroValue4
  t22 := Tryz.underlying3
  a22 := Tryz.isAgg3
  z22 := Tryz.sizeOf3
  v22 := Tryz.zeroValue3 }
open Go.Lib in
theorem Tryz.cmp_Compare_int (x y : Int) (w : World) :
    Calls Tryz.prog 55 #[.int .i64 x, .int .i64 y] w fun e w' => e = .returned (.int .i64 (Lib.compareInt x y)) ∧ w' = w := AnyG.cmp_Compare_int Tryz.laysSlC25_f55 x y w
def Tryz.laysSlF6_f53_ren : Go.Shelf.Ren := ⟨fun | 6 => 53 | 15 => 69 | 14 => 68 | 28 => 92 | 29 => 93 | 20 => 84 | 21 => 85 | 22 => 86 | 23 => 87 | 24 => 88 | 25 => 89 | 26 => 90 | 27 => 91 | 46 => 123 | 47 => 124 | 48 => 125 | 49 => 126 | 50 => 127 | 57 => 136 | n => n, fun | 22 => 31 | 24 => 3 | 25 => 102 | 3 => 3 | 39 => 116 | 0 => 0 | 53 => 131 | 55 => 24 | 4 => 4 | 46 => 125 | 45 => 124 | 50 => 100 | 5 => 5 | 9 => 9 | 66 => 159 | 70 => 163 | 76 => 172 | 77 => 75 | n => n, fun | n => n⟩
theorem Tryz.laysSlF6_f53 : Go.Proofs.SlLaysF.n6 Tryz.prog Tryz.laysSlF6_f53_ren := {
  mixed := by kernel_rfl
  f6 := ⟨Tryz.f53.name, by decide, Tryz.func53.trans (congrArg some (by kernel_rfl))⟩
  f14 := ⟨Tryz.f68.name, by decide, Tryz.func68.trans (congrArg some (by kernel_rfl))⟩
  f15 := Tryz.func69.trans (congrArg some (by kernel_rfl))
  f20 := ⟨Tryz.f84.name, by decide, Tryz.func84.trans (congrArg some (by kernel_rfl))⟩
  f21 := ⟨Tryz.f85.name, by decide, Tryz.func85.trans (congrArg some (by kernel_rfl))⟩
  f22 := ⟨Tryz.f86.name, by decide, Tryz.func86.trans (congrArg some (by kernel_rfl))⟩
  f23 := ⟨Tryz.f87.name, by decide, Tryz.func87.trans (congrArg some (by kernel_rfl))⟩
  f24 := ⟨Tryz.f88.name, by decide, Tryz.func88.trans (congrArg some (by kernel_rfl))⟩
  f25 := ⟨Tryz.f89.name, by decide, Tryz.func89.trans (congrArg some (by kernel_rfl))⟩
  f26 := ⟨Tryz.f90.name, by decide, Tryz.func90.trans (congrArg some (by kernel_rfl))⟩
  f27 := ⟨Tryz.f91.name, by decide, Tryz.func91.trans (congrArg some (by kernel_rfl))⟩
  f28 := Tryz.func92.trans (congrArg some (by kernel_rfl))
  f29 := Tryz.func93.trans (congrArg some (by kernel_rfl))
  f46 := ⟨Tryz.f123.name, by decide, Tryz.func123.trans (congrArg some (by kernel_rfl))⟩
  f47 := Tryz.func124.trans (congrArg some (by kernel_rfl))
  f48 := Tryz.func125.trans (congrArg some (by kernel_rfl))
  f49 := ⟨Tryz.f126.name, by decide, Tryz.func126.trans (congrArg some (by kernel_rfl))⟩
  f50 := ⟨Tryz.f127.name, by decide, Tryz.func127.trans (congrArg some (by kernel_rfl))⟩
  f57 := ⟨Tryz.f136.name, by decide, Tryz.func136.trans (congrArg some (by kernel_rfl))⟩
  t0 := Tryz.underlying0
  a0 := Tryz.isAgg0
  z0 := Tryz.sizeOf0
  v0 := Tryz.zeroValue0
  t3 := Tryz.underlying3
  a3 := Tryz.isAgg3
  z3 := Tryz.sizeOf3
  v3 := Tryz.zeroValue3
  t4 := Tryz.underlying4
  a4 := Tryz.isAgg4
  z4 := Tryz.sizeOf4
  v4 := Tryz.zeroValue4
  t5 := Tryz.underlying5
  a5 := Tryz.isAgg5
  z5 := Tryz.sizeOf5
  v5 := Tryz.zeroValue5
  t9 := Tryz.underlying9
  a9 := Tryz.isAgg9
  z9 := Tryz.sizeOf9
  v9 := Tryz.zeroValue9
  t22 := Tryz.underlying31
  a22 := Tryz.isAgg31
  z22 := Tryz.sizeOf31
  v22 := Tryz.zeroValue31
  a24 := Tryz.isAgg3
  z24 := Tryz.sizeOf3
  t25 := Tryz.underlying102
  a25 := Tryz.isAgg102
  z25 := Tryz.sizeOf102
  v25 := Tryz.zeroValue102
  t39 := Tryz.underlying116
  a39 := Tryz.isAgg116
  z39 := Tryz.sizeOf116
  v39 := Tryz.zeroValue116
  t45 := Tryz.underlying124
  a45 := Tryz.isAgg124
  z45 := Tryz.sizeOf124
  v45 := Tryz.zeroValue124
  t46 := Tryz.underlying125
  a46 := Tryz.isAgg125
  z46 := Tryz.sizeOf125
  v46 := Tryz.zeroValue125
  t50 := Tryz.underlying100
  a50 := Tryz.isAgg100
  z50 := Tryz.sizeOf100
  v50 := Tryz.zeroValue100
  t53 := Tryz.underlying131
  a53 := Tryz.isAgg131
  z53 := Tryz.sizeOf131
  v53 := Tryz.zeroValue131
  t55 := Tryz.underlying24
  a55 := Tryz.isAgg24
  z55 := Tryz.sizeOf24
  v55 := Tryz.zeroValue24
  t66 := Tryz.underlying159
  a66 := Tryz.isAgg159
  z66 := Tryz.sizeOf159
  v66 := Tryz.zeroValue159
  t70 := Tryz.underlying163
  a70 := Tryz.isAgg163
  z70 := Tryz.sizeOf163
  v70 := Tryz.zeroValue163
  t76 := Tryz.underlying172
  a76 := Tryz.isAgg172
  z76 := Tryz.sizeOf172
  v76 := Tryz.zeroValue172
  t77 := Tryz.underlying75
  a77 := Tryz.isAgg75
  z77 := Tryz.sizeOf75
  v77 := Tryz.zeroValue75 }
open Go.RowKit Go.Lib Go.Sort in
open Go.RowKit Go.Lib Go.Sort in
theorem Tryz.slices_SortFunc {α : Type} [Inhabited α] (enc : α → Value) (h1 : OneCell enc) (cf : α → α → Int) (hO : SWO (ltOf cf)) (g : Nat) (cb : Array Value) (blk off cap : Nat) (d : Array α) (w : World) (eg : ∀ args w, (callFunc g args).run Tryz.prog w = .ok (.enter g args) w) (hcmp : CmpLays1 Tryz.prog g cb enc cf blk off d.size w) (hH : Holds enc w blk off d) (hblk : blk < w.heap.size) (hsz : d.size < 4611686018427387904) :
    Calls Tryz.prog 53 #[.slice (some ⟨blk, off, none⟩) d.size cap, .func (.func g) #[] cb] w fun e w' =>
      e = .returned (.tuple #[]) ∧ ∃ d' n os, PermIn 0 d.size d d' ∧ SortedIn (ltOf cf) 0 d.size d' ∧ w' = sortWorld enc w blk off n d' os := Any.slices_SortFunc Tryz.laysSlF6_f53 enc h1 cf hO g cb blk off cap d w eg hcmp hH hblk hsz
end Go.Proofs
namespace Go.Proofs.YtmaogkgjiplckaaGreat
open Go.RowKit
open Go.Shelf Go.RowKit Go.Lib Go.Sort
def vr (x : Int) : Int := max x (wrap64 (-x))
theorem vr_abs {x : Int} (h : okL x) : vr x = absI x := by
  obtain ⟨_, h1, h2⟩ := h
  unfold vr absI
  have : wrap64 (-x) = -x := by simp [wrap64, IntKind.wrap, IntKind.bits, IntKind.signed]; omega
  rw [this]
  split <;> omega
set_option maxRecDepth 100000 in
theorem variable_any (x : Int) (w : World) : Calls Tryz.prog 34 #[.int .i64 x] w fun e w' => e = .returned (.int .i64 (vr x)) ∧ w' = w := by
  go_enter Tryz.func34, Tryz.ntmps34
  (repeat (first | (with_reducible first | refine xA ?_ | refine xB ?_ | refine xC ?_ | refine xD ?_ | refine xH ?_ | refine xI rfl ?_ | refine xE ?_ | refine xF ?_ | refine xG ?_) | go_values | go_skip | go_guarded | go_step | go_upon | go_back | ((with_reducible show Oper.upon _ _ _ _ _ _); go_simp) | (dsimp only)))
  go_ret
  exact ⟨rfl, rfl⟩
def cfV (x y : Int) : Int := Lib.compareInt (vr x) (vr y)
theorem ltV (x y : Int) : ltOf cfV x y = decide (vr x < vr y) := by
  unfold ltOf cfV Lib.compareInt
  by_cases h1 : vr x < vr y
  · simp [h1]
  · by_cases h2 : vr y < vr x <;> simp [h1, h2]
theorem swoV : SWO (ltOf cfV) where
  irrefl x := by rw [ltV]; simp
  trans x y z h1 h2 := by rw [ltV] at *; simp at *; omega
  ntrans x y z h1 h2 := by rw [ltV] at *; simp at *; omega
set_option maxRecDepth 100000 in
theorem less_any (x y : Int) (bp : Nat) (W : World) (hb : W.cell? ⟨bp, 0, none⟩ = some (.func (.func 34) #[] #[])) :
    Calls Tryz.prog 54 #[.int .i64 x, .int .i64 y, .pointer (some ⟨bp, 0, none⟩)] W fun e w' => e = .returned (.int .i64 (cfV x y)) ∧ ∃ q, w' = W.drewN q := by
  have hcon := fun a b W => Tryz.cmp_Compare_int a b W
  unfold cfV
  have h1 := fun W => variable_any x W
  have h2 := fun W => variable_any y W
  generalize vr x = a at *
  generalize vr y = b at *
  have h3 := fun W => hcon a b W
  clear hcon
  generalize Lib.compareInt a b = r at *
  go_enter Tryz.func54, Tryz.ntmps54
  (repeat (first | (with_reducible first | refine xA ?_ | refine xB ?_ | refine xC ?_ | refine xD ?_ | refine xH ?_ | refine xI rfl ?_ | refine xE ?_ | refine xF ?_ | refine xG ?_) | go_values | go_skip | go_guarded | go_step | go_upon | go_back | ((with_reducible show Oper.upon _ _ _ _ _ _); go_simp) | (dsimp only)))
  go_quiet (first | (go_at_call 34; first | (refine Calls.quiet_of_same (h1 _)) | (refine Calls.quiet_of_same (h2 _))) | (go_at_call 55; refine Calls.quiet_of_same (h3 _)))
  (repeat (first | (with_reducible first | refine xA ?_ | refine xB ?_ | refine xC ?_ | refine xD ?_ | refine xH ?_ | refine xI rfl ?_ | refine xE ?_ | refine xF ?_ | refine xG ?_) | go_values | go_skip | go_guarded | go_step | go_upon | go_back | ((with_reducible show Oper.upon _ _ _ _ _ _); go_simp) | (dsimp only)))
  go_ret
  exact ⟨rfl, _, rfl⟩
theorem sort_lays (b n : Nat) (w : World) (v : Value) (T : TypeId) (hb : b < w.heap.size) : CmpLays1 Tryz.prog 54 #[.pointer (some ⟨w.heap.size, 0, none⟩)] (Value.int .i64) cfV b 0 n (w.alloc (.cells #[.func (.func 34) #[] #[]] T)) := by
  intro m os dk hs x y
  refine (less_any x y w.heap.size _ ?_).mono ?_
  · rw [cell?_sortWorld_other _ _ _ _ _ _ _ _ (by show w.heap.size ≠ b; omega) (by simp)]
    exact cell_new _ _ _
  · rintro e w' ⟨he, q, hq⟩
    exact ⟨he, q, #[], by rw [hq, grow_empty]⟩
theorem sorted_list {l l' : List Int} (hp : PermIn 0 l.toArray.size l.toArray l'.toArray) (hs : SortedIn (ltOf cfV) 0 l.toArray.size l'.toArray) (hl : ∀ x ∈ l, okL x) : l'.Perm l ∧ l'.Pairwise (fun x y => absI x ≤ absI y) := by
  obtain ⟨h1, _, h2⟩ := hp
  simp only [List.size_toArray] at h1 h2
  have e1 : (l'.toArray.extract 0 l.length).toList = l' := by
    rw [← h1]; simp
  have e2 : (l.toArray.extract 0 l.length).toList = l := by simp
  rw [e1, e2] at h2
  refine ⟨h2, ?_⟩
  rw [List.pairwise_iff_getElem]
  intro i j hi hj hij
  have h3 := hs i j (Nat.zero_le _) hij (by simp; omega)
  rw [ltV] at h3
  have g1 : l'.toArray[i]! = l'[i] := by simp [hi]
  have g2 : l'.toArray[j]! = l'[j] := by simp [hj]
  rw [g1, g2, vr_abs (hl _ (h2.mem_iff.1 (List.getElem_mem hi))), vr_abs (hl _ (h2.mem_iff.1 (List.getElem_mem hj)))] at h3
  simpa using h3
set_option maxRecDepth 100000 in
set_option maxHeartbeats 1000000 in
theorem sorted_any (w : World) (B b cap : Nat) (l : List Int) (hO : w.ownsRow B 3 1 (.slice (some ⟨b, 0, none⟩) l.length cap) l.length (l.map (Value.int .i64))) (hl : ∀ x ∈ l, okL x) (hsz : l.length < 4611686018427387904) :
    Calls Tryz.prog 33 #[.slice (some ⟨b, 0, none⟩) l.length cap, .func (.func 34) #[] #[]] w fun e w' => e = .returned (.slice (some ⟨b, 0, none⟩) l.length cap) ∧ ∃ l' : List Int, l'.Perm l ∧ l'.Pairwise (fun x y => absI x ≤ absI y) ∧ w'.ownsRow B 3 1 (.slice (some ⟨b, 0, none⟩) l.length cap) l.length (l'.map (Value.int .i64)) ∧ w.grownBy w' (some b) := by
  have hmf : ∀ (fn : Fn) (first cap : Array Value) (w : World), (Instr.makeFunc fn first cap).run Tryz.prog w = .ok (.func fn first cap) w := fun _ _ _ _ => rfl
  obtain ⟨hBb, hbl⟩ := hO.lt b rfl
  have hO1 := hO.alloc (.cells #[.func (.func 34) #[] #[]] 86)
  obtain ⟨_, cap', cur, e0, hBg, hh, hnc, hcm, hcs, htk⟩ := hO1.2.resolve_left (by rintro ⟨h, _⟩; cases h)
  cases e0
  have hH : Holds (Value.int .i64) (w.alloc (.cells #[.func (.func 34) #[] #[]] 86)) b 0 l.toArray := holds_of_blockI hh (by simpa using htk)
  have eg : ∀ args w, (callFunc 54 args).run Tryz.prog w = .ok (.enter 54 args) w := enters_of Tryz.func54 (by kernel_rfl) rfl
  have hcon := Tryz.slices_SortFunc (Value.int .i64) (fun _ => rfl) cfV swoV 54 #[.pointer (some ⟨w.heap.size, 0, none⟩)] b 0 cap l.toArray _ eg (sort_lays b _ w (.int .i64 0) 86 hbl) hH (by simp; omega) (by simpa using hsz)
  simp only [List.size_toArray] at hcon
  have HC := Lib.hid hcon
  have HO := Lib.hid hO
  have HH := Lib.hid hh
  have HL := Lib.hid hl
  have HN := Lib.hid hnc
  have HM := Lib.hid hcm
  have HS := Lib.hid hcs
  clear hcon hO hO1 hH hh hl hnc hcm hcs htk
  go_enter Tryz.func33, Tryz.ntmps33
  (repeat (first | (with_reducible first | refine xA ?_ | refine xB ?_ | refine xC ?_ | refine xD ?_ | refine xH ?_ | refine xI rfl ?_ | refine xE ?_ | refine xF ?_ | refine xG ?_) | go_skip | go_guarded | (go_at_call 53; (with_reducible refine (HC.out).mono ?_); rintro _ w1 ⟨rfl, d', n, os, hp, hs, hw1⟩) | go_values | go_skip | go_guarded | go_step | go_upon | go_back | ((with_reducible show Oper.upon _ _ _ _ _ _); go_simp) | (dsimp only)))
  go_ret
  refine ⟨rfl, d'.toList, ?_⟩
  have hd : d'.toList.toArray = d' := by simp
  obtain ⟨r1, r2⟩ := sorted_list (l' := d'.toList) (by simpa using hp) (by simpa using hs) HL.out
  subst hw1
  refine ⟨r1, r2, ?_, ?_⟩
  · have := ownsRow_sortedI (n := n) (os := os) (ts := d'.toList) (ss := l) r1.length_eq hBb HH.out HN.out HM.out HS.out
    rw [hd] at this
    exact this
  · have h1 := grownBy_sortedI (w := w.alloc (.cells #[.func (.func 34) #[] #[]] 86)) (g := b) (n := n) (os := os) d'
    exact (World.grownBy_alloc w _ _).trans h1
end Go.Proofs.YtmaogkgjiplckaaGreat

