import Derived.Test.YtmaogkgjiplckaaGreatQR9
import Derived.Test.YtmaogkgjiplckaaGreatQR4
import Derived.Test.YtmaogkgjiplckaaGreatQR8
import Derived.Deep.Slices
import Derived.Lib.SmallJoins
import Derived.OpenShut
import Derived.Deep.Strs
import Derived.Test.YtmaogkgjiplckaaGreatQR5
set_option linter.unusedVariables false
set_option linter.unusedSimpArgs false
namespace Go.Proofs.YtmaogkgjiplckaaGreat
open Go.RowKit
theorem spread_b {Y Z : Nat → Prop} {g : G} {fr : List Int} {s : Nat → Bool} (q : Nat) (w1 : World) (hI : GI g fr s) (hn : g.n ≤ 1048576) (hm : g.cl.length ≤ 4194304) {vs : List Value} (hO : OwnW w1 q g.cl.length vs) (hS : SlsX Z w1 vs g.cl) {vf : Value} (hF : SlX Y w1 vf fr) (hfl : fr.length ≤ 1000000) :
    Calls Tryz.prog 10 #[.slice (some ⟨q, 0, none⟩) g.cl.length g.cl.length, vf] w1 fun e w' => ∃ a c, e = .returned (.tuple #[.slice a g.n c, .bool true]) ∧ SlX (fun _ => True) w' (.slice a g.n c) (toldL g.n s) ∧ Below w1.heap.size w1 w' := by
  refine (Spread_any (Y := fun _ => True) w1 q g.cl.length vs g.cl vf fr hO.rows hO.lt (hS.mono fun _ _ _ => trivial) rfl (hF.mono fun _ _ _ => trivial) (fun c hc x hx => isL_ok (hI.rng c hc x hx) hn) (fun x hx => isL_ok (hI.frm x hx).1 hn) (by omega) (fun c hc => by have := hI.len c hc; omega) hfl hI.der1).mono ?_
  rintro e w' (⟨hcf, _⟩ | ⟨v, out, is, rfl, hO2, hi, hcons, hnod, hp, hs, _, hb⟩)
  · exact absurd hcf (no_conflict hI)
  · have ht := told_of hI hi hcons hnod hp hs
    subst ht
    rw [toldL_len] at hO2
    have hsl := told_sl hO2
    obtain ⟨a, c, rfl⟩ := ownsRow_shape hO2
    exact ⟨a, c, rfl, hsl, hb⟩
def lsA : List Nd := [⟨1, 8, 0, 0, 0, 0⟩, ⟨0, 8, 65, 0, 0, 0⟩, ⟨19, 1, 0, 0, 1, 0⟩]
theorem lsA_tf : TF lsA := (tf_of (ls := lsA) (by decide) (by decide) (fun d hd => arr_no.1 (by
  simp only [lsA, List.mem_cons, List.not_mem_nil, or_false] at hd
  rcases hd with rfl | rfl | rfl <;> rfl)) (by
  intro d hd
  simp only [lsA, List.mem_cons, List.not_mem_nil, or_false] at hd
  rcases hd with rfl | rfl | rfl <;> (unfold NdWf; decide))).1
theorem mem_fr {I R : Nat → Nat} {b : BS} (x : Int) : x ∈ frB I R b ↔ (∃ i, i < 16 ∧ x ∈ sayL (b.inp.getD i []) (I i)) ∨ ∃ i, i < 8 ∧ x ∈ sayL (b.reg.getD i []) (R i) := by
  unfold frB
  simp only [List.mem_append, List.mem_flatMap, List.mem_range]
theorem ex_plain : ∃ (b : BS) (z : Int) (l : List Int) (s : Nat → Bool), bK lsA 3 = b ∧ b.at 2 = [z] ∧ b.inp.getD 0 [] = l ∧ l.length = 8 ∧ (∀ a ∈ l, -1048576 ≤ a ∧ a ≤ 1048576) ∧ GI b.g (sayL l 65) s ∧ isL b.g.n z ∧ lit s z = true ∧ b.g.n ≤ 1048576 := by
  obtain ⟨s, hs⟩ := blast_ok (I := fun _ => 65) (R := fun _ => 0) lsA_tf (fun _ => by decide) (fun _ => by decide) 3 (by decide)
  have hlv := leaves_ok lsA_tf 3 (by decide)
  have hn := blast_n lsA_tf 3 (by decide)
  have hc : costL (lsA.take 3) = 39000 := by decide
  rw [hc] at hn
  have W := hs.ws 2 (by decide)
  have hw : (wAt lsA ((2 : Nat) : Int)).toNat = 1 := by decide
  have hv : (vK (fun _ => 65) (fun _ => 0) lsA 3).getD 2 0 = 1 := by decide
  rw [hw, hv] at W
  obtain ⟨z, hz⟩ : ∃ z, (bK lsA 3).at ((2 : Nat) : Int) = [z] := List.length_eq_one_iff.1 W.len
  rw [hz] at W
  have hnz := W.num
  rw [num_one] at hnz
  have hzl := W.isl z (List.mem_singleton.2 rfl)
  have h0 : (bK lsA 3).inp.getD 0 [] ≠ [] := fun e => by
    have := (hlv.hi 0 (by decide)).1 e
    revert this; decide
  have W0 := (hs.inp 0 (by decide)).resolve_left h0
  refine ⟨bK lsA 3, z, _, s, rfl, hz, rfl, W0.len, fun a ha => rng_of (W0.isl a ha) (by omega), hs.gi.congr fun x => ?_, hzl, ?_, by omega⟩
  · rw [mem_fr]
    constructor
    · intro hx; exact .inl ⟨0, by decide, hx⟩
    · rintro (⟨i, hi, hx⟩ | ⟨i, hi, hx⟩)
      · by_cases e : i = 0
        · subst e; exact hx
        · have hne : (lsA.take 3).any (hasB 1 i) = false := by
            have : hasB 1 i ⟨1, 8, 0, 0, 0, 0⟩ = false := by unfold hasB; simp; omega
            show (hasB 1 i ⟨1, 8, 0, 0, 0, 0⟩ || (hasB 1 i ⟨0, 8, 65, 0, 0, 0⟩ || (hasB 1 i ⟨19, 1, 0, 0, 1, 0⟩ || false))) = false
            rw [this]; rfl
          rw [(hlv.hi i hi).2 hne] at hx
          simp [sayL] at hx
      · have hne : (lsA.take 3).any (hasB 2 i) = false := rfl
        rw [(hlv.hr i hi).2 hne] at hx
        simp [sayL] at hx
  · cases h : lit s z
    · rw [h] at hnz; cases hnz
    · rfl
theorem rowA (w : World) (t : TypeId) : RowAt 6 Nd.cells (w.alloc (.cells #[.int .i64 1, .int .i64 8, .int .u64 0, .int .i64 0, .int .i64 0, .int .i64 0, .int .i64 0, .int .i64 8, .int .u64 65, .int .i64 0, .int .i64 0, .int .i64 0, .int .i64 19, .int .i64 1, .int .u64 0, .int .i64 0, .int .i64 1, .int .i64 0] t)) w.heap.size 0 lsA := by
  intro i e hi j c hj
  have key : ∀ (m : Nat), (w.alloc (.cells #[.int .i64 1, .int .i64 8, .int .u64 0, .int .i64 0, .int .i64 0, .int .i64 0, .int .i64 0, .int .i64 8, .int .u64 65, .int .i64 0, .int .i64 0, .int .i64 0, .int .i64 19, .int .i64 1, .int .u64 0, .int .i64 0, .int .i64 1, .int .i64 0] t)).cell? ⟨w.heap.size, m, none⟩ = (lsA.flatMap Nd.cells)[m]? := fun m => by
    rw [cell_of_row _ _ m _ _ _ (heap_alloc_new w _), List.getElem?_toArray]
    rfl
  rw [Nat.zero_add, key]
  match i, hi with
  | 0, hi =>
    obtain rfl : _ = e := by simpa [lsA] using hi
    have hj6 : j < 6 := (List.getElem?_eq_some_iff.1 hj).1
    match j, hj6, hj with
    | 0, _, hj => exact hj
    | 1, _, hj => exact hj
    | 2, _, hj => exact hj
    | 3, _, hj => exact hj
    | 4, _, hj => exact hj
    | 5, _, hj => exact hj
  | 1, hi =>
    obtain rfl : _ = e := by simpa [lsA] using hi
    have hj6 : j < 6 := (List.getElem?_eq_some_iff.1 hj).1
    match j, hj6, hj with
    | 0, _, hj => exact hj
    | 1, _, hj => exact hj
    | 2, _, hj => exact hj
    | 3, _, hj => exact hj
    | 4, _, hj => exact hj
    | 5, _, hj => exact hj
  | 2, hi =>
    obtain rfl : _ = e := by simpa [lsA] using hi
    have hj6 : j < 6 := (List.getElem?_eq_some_iff.1 hj).1
    match j, hj6, hj with
    | 0, _, hj => exact hj
    | 1, _, hj => exact hj
    | 2, _, hj => exact hj
    | 3, _, hj => exact hj
    | 4, _, hj => exact hj
    | 5, _, hj => exact hj
  | i + 3, hi => simp [lsA] at hi
theorem fc_inp {c0 c1 c2 : Value} {iv rv : List Value} {i : Nat} {v : Value} (h : iv[i]? = some v) : (fcells c0 c1 c2 iv rv)[3 + i]? = some v := by
  have hl := (List.getElem?_eq_some_iff.1 h).1
  unfold fcells
  rw [List.getElem?_append_right (by show 3 ≤ _; omega), show 3 + i - [c0, c1, c2].length = i by simp, List.getElem?_append_left hl]
  exact h
theorem fc_reg {c0 c1 c2 : Value} {iv rv : List Value} (hi : iv.length = 16) {i : Nat} {v : Value} (h : rv[i]? = some v) : (fcells c0 c1 c2 iv rv)[19 + i]? = some v := by
  unfold fcells
  rw [List.getElem?_append_right (by show 3 ≤ _; omega), show 19 + i - [c0, c1, c2].length = 16 + i by simp; omega, List.getElem?_append_right (by omega), hi, show 16 + i - 16 = i by omega]
  exact h
set_option maxRecDepth 100000 in
set_option maxHeartbeats 4000000 in
theorem awake16_any (w : World) : Calls Tryz.prog 6 #[] w fun e w' => e = .returned (.bool true) ∧ Below w.heap.size w w' := by
  obtain ⟨b, z, l, s, hb, hz, hl, hll, hlb, hGI, hzl, hzt, hn⟩ := ex_plain
  have HOF : Hid (∀ u : World, Calls Tryz.prog 8 #[.slice (some ⟨u.heap.size, 0, none⟩) 3 3] (u.alloc (.cells #[.int .i64 1, .int .i64 8, .int .u64 0, .int .i64 0, .int .i64 0, .int .i64 0, .int .i64 0, .int .i64 8, .int .u64 65, .int .i64 0, .int .i64 0, .int .i64 0, .int .i64 19, .int .i64 1, .int .u64 0, .int .i64 0, .int .i64 1, .int .i64 0] 49)) fun e w' => OfRes b [z] e w' ∧ Below (u.heap.size + 1) (u.alloc (.cells #[.int .i64 1, .int .i64 8, .int .u64 0, .int .i64 0, .int .i64 0, .int .i64 0, .int .i64 0, .int .i64 8, .int .u64 65, .int .i64 0, .int .i64 0, .int .i64 0, .int .i64 19, .int .i64 1, .int .u64 0, .int .i64 0, .int .i64 1, .int .i64 0] 49)) w') := Lib.hid (fun u => by
    have h := of_ok lsA _ _ ⟨_, 3, rfl, Nat.le_refl _, by simp, fun _ => ⟨_, _, rfl, rowA u 49⟩⟩ (by
      intro d hd
      simp only [lsA, List.mem_cons, List.not_mem_nil, or_false] at hd
      rcases hd with rfl | rfl | rfl <;> (unfold NdWf; decide)) (by decide) (by decide) lsA_tf (by decide) (by
      intro d hd
      simp only [lsA, List.mem_cons, List.not_mem_nil, or_false] at hd
      rcases hd with rfl | rfl | rfl <;> decide) (by decide) (fun k hk => light_n lsA_tf (by decide) k hk)
    have e3 : bK lsA lsA.length = b := hb
    have e4 : (bK lsA lsA.length).at ((lsA.length - 1 : Nat) : Int) = [z] := by rw [e3]; exact hz
    rw [e4, e3] at h
    have hsz : (u.alloc (.cells #[.int .i64 1, .int .i64 8, .int .u64 0, .int .i64 0, .int .i64 0, .int .i64 0, .int .i64 0, .int .i64 8, .int .u64 65, .int .i64 0, .int .i64 0, .int .i64 0, .int .i64 19, .int .i64 1, .int .u64 0, .int .i64 0, .int .i64 1, .int .i64 0] 49)).heap.size = u.heap.size + 1 := by simp
    rw [hsz] at h
    exact h)
  have hil0 : b.inp.length = 16 := by
    obtain ⟨s0, hs0⟩ := blast_ok (I := fun _ => 0) (R := fun _ => 0) lsA_tf (fun _ => by decide) (fun _ => by decide) 3 (by decide)
    rw [hb] at hs0
    exact hs0.il
  have HL0 := Lib.hid (show b.inp[0]? = some l by rw [← hl, List.getD_eq_getElem?_getD, List.getElem?_eq_getElem (by omega)]; rfl)
  have HLL := Lib.hid hll
  have HLB := Lib.hid hlb
  have HGI := Lib.hid hGI
  have HZL := Lib.hid hzl
  have HZT := Lib.hid hzt
  have HN := Lib.hid hn
  clear hb hz hl hll hlb hGI hzl hzt hn hil0
  go_enter Tryz.func6, Tryz.ntmps6
  (repeat (first | (with_reducible first | refine xA ?_ | refine xB ?_ | refine xC ?_ | refine xD ?_ | refine xH ?_ | refine xI rfl ?_ | refine xE ?_ | refine xF ?_ | refine xG ?_) | go_skip | go_guarded | (go_at_call 8; (with_reducible refine (HOF.out _).mono ?_); rintro _ w2 ⟨⟨q, cs, ar, cr, iv, rv, rfl, hO, hC, hR, hil, hrl, hI, hRg, hni, hnr, hcm⟩, hb2⟩) | ((with_reducible refine wl_id ?_); refine wl_strow rfl 35 _ _ rfl w2.heap.size _ rfl rfl 35 fzero.toArray (heap_alloc_new w2 _) (by rw [List.size_toArray, fcells_len hil hrl]; exact sizeTF) (by rw [List.size_toArray, List.size_toArray, fcells_len hil hrl, fzero_len]) (fcells_one rfl rfl rfl (slsx_one hI) (slsx_one hRg)) ?_; intro w4 hh4 hg4; have hb4 := below_grown (Below.alloc (Below.refl w2.heap.size w2) (Nat.le_refl _) _) hg4 (fun k e => by injection e with e; omega); have HQ := Lib.hid ((hO.kept (Kept.ofBelow (X := fun _ => True) hb4) trivial)); have HC := Lib.hid (hC.kept (Kept.ofBelow hb4)); have HRT := Lib.hid (hR.kept (Kept.ofBelow hb4)); have HCM := Lib.hid hcm; have hc0 : w4.cell? ⟨w2.heap.size, 0, none⟩ = some (.slice (some ⟨q, 0, none⟩) b.g.cl.length b.g.cl.length) := (cell_of_row w4 w2.heap.size 0 _ _ _ hh4).trans rfl; have hc2 : w4.cell? ⟨w2.heap.size, 2, none⟩ = some (.slice ar 1 cr) := (cell_of_row w4 w2.heap.size 2 _ _ _ hh4).trans rfl; (obtain ⟨v0, hv0⟩ : ∃ v0, iv[0]? = some v0 := ⟨_, List.getElem?_eq_getElem (by omega)⟩); have hsl0 := (hI.2 0 v0 l hv0 HL0.out).kept (Kept.ofBelow hb4); (obtain ⟨a0, c0, rfl⟩ := slx_shape hsl0 HLL.out); have HSL0 := Lib.hid hsl0; have hc3 := (cell_of_row w4 w2.heap.size 3 _ _ _ hh4).trans ((List.getElem?_toArray ..).trans (fc_inp hv0)); replace hb2 := (Below.alloc (Below.refl w.heap.size w) (Nat.le_refl _) _).trans (hb2.mono (Nat.le_succ _)); replace hb4 := hb2.trans (hb4.mono hb2.size); clear hsl0 hv0 hh4 hg4 hO hC hR hil hrl hI hRg hni hnr hcm; (try simp only [Act.put, qz4, qz5, qz6])) | go_values | go_skip | go_guarded | go_step | go_upon | go_back | ((with_reducible show Oper.upon _ _ _ _ _ _); go_simp) | (dsimp only)))
  obtain ⟨br, orr, rfl, -, hbr, -, hRz⟩ := HRT.out.row Nat.zero_lt_one
  have hcz := hRz 0 z rfl
  rw [Nat.add_zero] at hcz
  have hbq : w2.heap.size < w4.heap.size := World.block_lt_of_cell? w4 _ hc0
  have hsz4 := hb2.size
  clear hRz HRT hbr hb2
  generalize w2.heap.size = q1 at *
  refine wp_region_held (S := fun u => u.cell? ⟨q1, 0, none⟩ = some (.slice (some ⟨q, 0, none⟩) b.g.cl.length b.g.cl.length) ∧ u.cell? ⟨q1, 3, none⟩ = some (.slice a0 8 c0)) (by kernel_rfl) ?_
  have hbd : Below w4.heap.size w4 ({ w4 with drawn := w4.drawn + 1 } : World) := ⟨rfl, rfl, rfl, Nat.le_refl _, fun _ _ => rfl⟩
  have HSC := And.intro (cell_keep hbd hc0) (cell_keep hbd hc3)
  have HW4 := Lib.hid hbd.size
  generalize ({ w4 with drawn := w4.drawn + 1 } : World) = u0 at *
  refine wpAnyH_take (i := 0) (v := .pointer (some ⟨q1, 0, none⟩)) rfl (by kernel_rfl) (by kernel_rfl) (by kernel_rfl) (fun _ _ _ h => h) (Or.inl ⟨rfl, fun w _ => by go_simp⟩) HSC ?_; simp only [Act.put, qz1, qz2, qz3, qz4, qz5, qz6]
  refine wpAnyH_take (i := 1) (v := .slice (some ⟨q, 0, none⟩) b.g.cl.length b.g.cl.length) rfl (by kernel_rfl) (by kernel_rfl) (by kernel_rfl) (fun _ _ _ h => h) (Or.inl ⟨rfl, fun w hw => by have h := hw.1; go_simp⟩) HSC ?_
  simp only [Act.put, qz1, qz2, qz3, qz4, qz5, qz6]
  refine wpAnyH_take (i := 2) (v := .pointer (some ⟨q1, 3, none⟩)) rfl (by kernel_rfl) (by kernel_rfl) (by kernel_rfl) (fun _ _ _ h => h) (Or.inl ⟨rfl, fun w _ => by go_simp⟩) HSC ?_; simp only [Act.put, qz1, qz2, qz3, qz4, qz5, qz6]
  refine wpAnyH_take (i := 3) (v := .pointer (some ⟨q1, 3, none⟩)) rfl (by kernel_rfl) (by kernel_rfl) (by kernel_rfl) (fun _ _ _ h => h) (Or.inl ⟨rfl, fun w _ => by go_simp⟩) HSC ?_; simp only [Act.put, qz1, qz2, qz3, qz4, qz5, qz6]
  refine wpAnyH_take (i := 4) (v := .slice a0 8 c0) rfl (by kernel_rfl) (by kernel_rfl) (by kernel_rfl) (fun _ _ _ h => h) (Or.inl ⟨rfl, fun w hw => by have h := hw.2; go_simp⟩) HSC ?_
  simp only [Act.put, qz1, qz2, qz3, qz4, qz5, qz6]
  refine wpAnyH_all (rs := [5]) (by kernel_rfl) (by simp) (fun i hi => ?_)
  obtain rfl : i = 5 := by simpa using hi
  refine wpOp_one rfl ?_
  have HSAY : Hid (Calls Tryz.prog 14 #[.slice a0 8 c0, .int .u64 65] u0 fun e w' => ∃ v', e = .returned v' ∧ w'.ownsRow u0.heap.size 3 1 v' l.length ((sayL l 65).map (Value.int .i64)) ∧ Below u0.heap.size u0 w') := Lib.hid (say_law _ l 65 u0 (HSL0.out.kept (Kept.ofBelow hbd)) (by rw [HLL.out]; decide) (by decide) HLB.out)
  (repeat (first | (with_reducible first | refine xA ?_ | refine xB ?_ | refine xC ?_ | refine xD ?_ | refine xH ?_ | refine xI rfl ?_ | refine xE ?_ | refine xF ?_ | refine xG ?_) | go_skip | go_guarded | (go_at_call 14; (with_reducible refine HSAY.out.mono ?_); rintro _ u1 ⟨vs, rfl, hO1, hb1⟩) | go_values | go_skip | go_guarded | go_step | go_upon | go_back | ((with_reducible show Oper.upon _ _ _ _ _ _); go_simp) | (dsimp only)))
  have hbe := hbd.trans (hb1.mono hbd.size)
  have HS1 := And.intro (cell_keep hb1 HSC.1) (cell_keep hb1 HSC.2)
  refine ⟨HS1, ?_⟩
  refine wpAnyH_all (rs := [6]) (by kernel_rfl) (by simp) (fun i hi => ?_)
  obtain rfl : i = 6 := by simpa using hi
  refine wpOp_one rfl ?_
  have HSP := Lib.hid (spread_b q u1 HGI.out HN.out HCM.out (HQ.out.kept (Kept.ofBelow (X := fun _ => True) hbe) trivial) (HC.out.kept (Kept.ofBelow hbe)) (own_sl (X := fun _ => True) hO1 fun _ _ => trivial) (by rw [sayL_len, HLL.out]; decide))
  (repeat (first | (with_reducible first | refine xA ?_ | refine xB ?_ | refine xC ?_ | refine xD ?_ | refine xH ?_ | refine xI rfl ?_ | refine xE ?_ | refine xF ?_ | refine xG ?_) | go_skip | go_guarded | (go_at_call 10; (with_reducible refine HSP.out.mono ?_); rintro _ u2 ⟨at', ct, rfl, hTD, hb2⟩) | go_values | go_skip | go_guarded | go_step | go_upon | go_back | ((with_reducible show Oper.upon _ _ _ _ _ _); go_simp) | (dsimp only)))
  have HS2 := And.intro (cell_keep hb2 HS1.1) (cell_keep hb2 HS1.2)
  have hbf := hbe.trans (hb2.mono hbe.size)
  refine ⟨HS2, ?_⟩
  refine wpAnyH_take (i := 7) (v := .tuple #[.slice at' b.g.n ct, .bool true]) rfl (by kernel_rfl) (by kernel_rfl) (by kernel_rfl) (fun _ _ _ h => h) (Or.inl ⟨rfl, fun w _ => by go_simp⟩) HS2 ?_
  simp only [Act.put, qz1, qz2, qz3, qz4, qz5, qz6]
  refine wpAnyH_take (i := 8) (v := .slice at' b.g.n ct) rfl (by kernel_rfl) (by kernel_rfl) (by kernel_rfl) (fun _ _ _ h => h) (Or.inl ⟨rfl, fun w _ => by go_simp⟩) HS2 ?_
  simp only [Act.put, qz1, qz2, qz3, qz4, qz5, qz6]
  refine wpAnyH_take (i := 9) (v := .bool true) rfl (by kernel_rfl) (by kernel_rfl) (by kernel_rfl) (fun _ _ _ h => h) (Or.inl ⟨rfl, fun w _ => by go_simp⟩) HS2 ?_
  simp only [Act.put, qz1, qz2, qz3, qz4, qz5, qz6]
  refine wpAnyH_take (i := 10) (v := .slice at' b.g.n ct) rfl (by kernel_rfl) (by kernel_rfl) (by kernel_rfl) (fun _ _ _ h => h) (Or.inl ⟨rfl, fun w _ => by go_simp⟩) HS2 ?_
  simp only [Act.put, qz1, qz2, qz3, qz4, qz5, qz6]
  refine wpAnyH_take (i := 11) (v := .bool true) rfl (by kernel_rfl) (by kernel_rfl) (by kernel_rfl) (fun _ _ _ h => h) (Or.inl ⟨rfl, fun w _ => by go_simp⟩) HS2 ?_
  simp only [Act.put, qz1, qz2, qz3, qz4, qz5, qz6]
  refine wpAnyH_done (by kernel_rfl) ?_ _
  have hc2' := cell_keep hbf hc2
  have hcz' := cell_keep hbf hcz
  have hb9 := hb4.trans (hbf.mono hb4.size)
  have HTD := Lib.hid hTD
  clear HS2 HS1 HSC hbf hbe hbd hb1 hb2 hTD hO1 HSP HSAY hc0 hc2 hc3 hcz hb4
  (repeat (first | (with_reducible first | refine xA ?_ | refine xB ?_ | refine xC ?_ | refine xD ?_ | refine xH ?_ | refine xI rfl ?_ | refine xE ?_ | refine xF ?_ | refine xG ?_) | go_skip | go_guarded | (go_at_call 19; (with_reducible refine (Is_any u2 _ b.g.n s HTD.out z HZL.out HN.out true HZT).mono ?_); rintro _ u3 ⟨rfl, rfl⟩) | go_values | go_skip | go_guarded | go_step | go_upon | go_back | ((with_reducible show Oper.upon _ _ _ _ _ _); go_simp) | (dsimp only)))
  go_ret
  exact ⟨rfl, hb9⟩
end Go.Proofs.YtmaogkgjiplckaaGreat
namespace Go.Proofs.YtmaogkgjiplckaaGreat
open Go.RowKit
theorem ops_of {ls : List Nd} (h : tchk ls = (0, 0)) (hm : ls.length ≤ 65536) : ∀ d ∈ ls, 0 ≤ d.op ∧ d.op ≤ 24 := by
  intro d hd
  unfold tchk at h
  split at h
  · injection h with h1 _; cases h1
  obtain ⟨j, hj⟩ := List.mem_iff_getElem?.1 hd
  have hjl : j < ls.length := (List.getElem?_eq_some_iff.1 hj).1
  have hr := chk_ok 0 (by omega) hm (by simpa using h) j d (by omega) hj
  by_cases h0 : 0 ≤ d.op ∧ d.op ≤ 24
  · exact h0
  · exfalso
    unfold rightE at hr
    rw [if_pos (by omega)] at hr
    cases hr
theorem tchk_2 : ∀ (k : Nat) (ls : List Nd), (chk (ls.take k) (ls.drop k)).1 = 0 → (chk (ls.take k) (ls.drop k)).2 = 0 := by
  intro k ls
  generalize hn : ls.length - k = n
  induction n generalizing k with
  | zero =>
    intro _
    rw [List.drop_of_length_le (by omega)]
    rfl
  | succ n ih =>
    intro h
    rw [chk_step (List.getElem?_eq_getElem (show k < ls.length by omega))] at h ⊢
    split at h
    · cases h
    · rename_i hk
      rw [if_neg hk]
      split at h
      · rename_i hne; exact absurd h hne
      · rename_i hne; rw [if_neg hne]; exact ih (k + 1) (by omega) h
theorem tchk_00 {ls : List Nd} (h : (tchk ls).1 = 0) : tchk ls = (0, 0) := by
  have e : (tchk ls).2 = 0 := by
    unfold tchk at h ⊢
    split at h
    · cases h
    · rename_i hne
      rw [if_neg hne]
      exact tchk_2 0 ls h
  exact Prod.ext h e
set_option maxRecDepth 100000 in
set_option maxHeartbeats 2000000 in
theorem check16_bad (ls : List Nd) (v : Value) (w : World) (h : SlIs 6 Nd.cells w v ls) (hwf : ∀ d ∈ ls, NdWf d) (E : Int) (hE : Hid ((tchk ls).1 = E)) (h0 : (E != 0) = true) :
    Calls Tryz.prog 9 #[v] w fun e w' => e = .returned (.int .i64 E) ∧ Below w.heap.size w w' := by
  have HC : Hid (∀ u : World, Below w.heap.size w u → Calls Tryz.prog 28 #[v] u fun e w' => e = .returned (.tuple #[.int .i64 E, .int .i64 (tchk ls).2]) ∧ Below u.heap.size u w') := Lib.hid (fun u hb => by
    have := rcheck_any ls v u (h.below hb) hwf
    rw [hE.out] at this
    exact this)
  generalize (tchk ls).2 = E2 at HC
  clear h hwf hE
  go_enter Tryz.func9, Tryz.ntmps9
  (repeat (first | (with_reducible first | refine xA ?_ | refine xB ?_ | refine xC ?_ | refine xD ?_ | refine xH ?_ | refine xI rfl ?_ | refine xE ?_ | refine xF ?_ | refine xG ?_) | go_skip | go_guarded | (go_at_call 28; (with_reducible refine (HC.out _ (Below.refl _ _)).mono ?_); rintro _ w1 ⟨rfl, hb1⟩) | go_values | go_skip | go_guarded | go_step | go_upon | go_back | ((with_reducible show Oper.upon _ _ _ _ _ _); go_simp) | (dsimp only)))
  go_ret
  exact ⟨rfl, hb1⟩
set_option maxRecDepth 100000 in
set_option maxHeartbeats 2000000 in
theorem check16_any (ls : List Nd) (v : Value) (w : World) (h : SlIs 6 Nd.cells w v ls) (hwf : ∀ d ∈ ls, NdWf d) (hE : (tchk ls).1 = 0) (hll : ls.length ≤ 1000000) (ho : ∀ d ∈ ls, 0 ≤ d.op ∧ d.op ≤ 24) (r : Int) (hr : Hid ((if ls.any arrB then 8 else 0) = r)) :
    Calls Tryz.prog 9 #[v] w fun e w' => e = .returned (.int .i64 r) ∧ Below w.heap.size w w' := by
  have HC : Hid (∀ u : World, Below w.heap.size w u → Calls Tryz.prog 28 #[v] u fun e w' => e = .returned (.tuple #[.int .i64 0, .int .i64 (tchk ls).2]) ∧ Below u.heap.size u w') := Lib.hid (fun u hb => by
    have := rcheck_any ls v u (h.below hb) hwf
    rw [hE] at this
    exact this)
  generalize (tchk ls).2 = E2 at HC
  obtain ⟨ao, cap, rfl, hcap, -, hrow⟩ := h
  have HROW := Lib.hid hrow
  have HO := Lib.hid ho
  have hlI : (ls.length : Int) ≤ 1000000 := by omega
  clear hwf hE hrow ho hll
  go_enter Tryz.func9, Tryz.ntmps9
  (repeat (first | (with_reducible first | refine xA ?_ | refine xB ?_ | refine xC ?_ | refine xD ?_ | refine xH ?_ | refine xI rfl ?_ | refine xE ?_ | refine xF ?_ | refine xG ?_) | go_skip | go_guarded | (go_at_call 28; (with_reducible refine (HC.out _ (Below.refl _ _)).mono ?_); rintro _ w1 ⟨rfl, hb1⟩) | go_values | go_skip | go_guarded | go_step | go_upon | go_back | ((with_reducible show Oper.upon _ _ _ _ _ _); go_simp) | (dsimp only)))
  go_loopw [5] (fun i wr => ∃ k : Nat, k ≤ ls.length ∧ i = .int .i64 k ∧ Hid (∀ j x, j < k → ls[j]? = some x → arrB x = false) ∧ wr = w1) (fun i _ => ls.length - (intOf i).toNat)
  case atStart => exact ⟨0, Nat.zero_le _, rfl, Lib.hid (fun j x hj => by omega), rfl⟩
  case round =>
    obtain ⟨k, hk, rfl, HA, rfl⟩ := hrel
    rcases Nat.lt_or_ge k ls.length with hlt | hge
    · obtain ⟨d, hd⟩ : ∃ d, ls[k]? = some d := ⟨_, List.getElem?_eq_getElem hlt⟩
      obtain ⟨b, off, rfl, HR0⟩ := HROW.out (by intro e; rw [e] at hlt; simp at hlt)
      have hc0 := cell_keep hb1 (HR0 k d hd 0 _ rfl)
      rw [Nat.add_zero, Nat.mul_comm] at hc0
      have hob := HO.out d (List.mem_of_getElem? hd)
      have i0 : (0 : Int) ≤ (k : Int) := by omega
      have i1 : (k : Int) < (ls.length : Int) := by omega
      obtain ⟨op, hop⟩ : ∃ op, d.op = op := ⟨_, rfl⟩
      rw [hop] at hc0 hob
      have HD := Lib.hid hd
      have HOP := Lib.hid hop
      have ab : arrB d = (op == 3 || op == 4 || op == 23 || op == 24) := by unfold arrB; rw [hop]
      have hyes : (op == 3 || op == 4 || op == 23 || op == 24) = true → r = 8 := fun h => by
        rw [← hr.out, if_pos (List.any_eq_true.2 ⟨d, List.mem_of_getElem? hd, by rw [ab]; exact h⟩)]
      have AB := Lib.hid ab
      have HY := Lib.hid hyes
      clear HR0 hd hop ab hyes
      by_cases c3 : op = 3
      · have e3 : (op == 3) = true := by simpa using c3
        (repeat (first | (with_reducible first | refine xA ?_ | refine xB ?_ | refine xC ?_ | refine xD ?_ | refine xH ?_ | refine xI rfl ?_ | refine xE ?_ | refine xF ?_ | refine xG ?_) | go_values | go_skip | go_guarded | go_step | go_upon | go_back | ((with_reducible show Oper.upon _ _ _ _ _ _); go_simp) | (dsimp only)))
        go_ret
        exact ⟨ret_int (HY.out (by simp [c3])).symm, hb1⟩
      have e3 : (op == 3) = false := by simpa using c3
      by_cases c4 : op = 4
      · have e4 : (op == 4) = true := by simpa using c4
        (repeat (first | (with_reducible first | refine xA ?_ | refine xB ?_ | refine xC ?_ | refine xD ?_ | refine xH ?_ | refine xI rfl ?_ | refine xE ?_ | refine xF ?_ | refine xG ?_) | go_values | go_skip | go_guarded | go_step | go_upon | go_back | ((with_reducible show Oper.upon _ _ _ _ _ _); go_simp) | (dsimp only)))
        go_ret
        exact ⟨ret_int (HY.out (by simp [c4])).symm, hb1⟩
      have e4 : (op == 4) = false := by simpa using c4
      by_cases c23 : op ≥ 23
      · (repeat (first | (with_reducible first | refine xA ?_ | refine xB ?_ | refine xC ?_ | refine xD ?_ | refine xH ?_ | refine xI rfl ?_ | refine xE ?_ | refine xF ?_ | refine xG ?_) | go_values | go_skip | go_guarded | go_step | go_upon | go_back | ((with_reducible show Oper.upon _ _ _ _ _ _); go_simp) | (dsimp only)))
        go_ret
        exact ⟨ret_int (HY.out (by have : op = 23 ∨ op = 24 := by omega
                                   rcases this with h | h <;> simp [h])).symm, hb1⟩
      · have c23' : ¬ (23 ≤ op) := c23
        (repeat (first | (with_reducible first | refine xA ?_ | refine xB ?_ | refine xC ?_ | refine xD ?_ | refine xH ?_ | refine xI rfl ?_ | refine xE ?_ | refine xF ?_ | refine xG ?_) | go_values | go_skip | go_guarded | go_step | go_upon | go_back | ((with_reducible show Oper.upon _ _ _ _ _ _); go_simp) | (dsimp only)))
        refine ⟨⟨k + 1, by omega, by go_num, Lib.hid (fun j x hj hx => ?_), rfl⟩, by simp [intOf]; omega⟩
        rcases Nat.lt_or_ge j k with hjk | hjk
        · exact HA.out j x hjk hx
        · obtain rfl : j = k := by omega
          obtain rfl : d = x := by have := HD.out; rw [this] at hx; exact Option.some.inj hx
          rw [AB.out]
          simp
          omega
    · obtain rfl : k = ls.length := by omega
      have hr0 : r = 0 := by
        rw [← hr.out]
        cases e : ls.any arrB with
        | false => rfl
        | true =>
          obtain ⟨x, hx, hax⟩ := List.any_eq_true.1 e
          obtain ⟨j, hj⟩ := List.mem_iff_getElem?.1 hx
          rw [HA.out j x (List.getElem?_eq_some_iff.1 hj).1 hj] at hax
          cases hax
      subst hr0
      (repeat (first | (with_reducible first | refine xA ?_ | refine xB ?_ | refine xC ?_ | refine xD ?_ | refine xH ?_ | refine xI rfl ?_ | refine xE ?_ | refine xF ?_ | refine xG ?_) | go_values | go_skip | go_guarded | go_step | go_upon | go_back | ((with_reducible show Oper.upon _ _ _ _ _ _); go_simp) | (dsimp only)))
      go_ret
      exact ⟨rfl, hb1⟩
end Go.Proofs.YtmaogkgjiplckaaGreat
namespace Go.Proofs.YtmaogkgjiplckaaGreat
open Go.RowKit
def ndsL (l : List Nd) : List Value := l.flatMap Nd.cells
theorem nd_len6 (d : Nd) : d.cells.length = 6 := rfl
theorem nds_get : ∀ (ls : List Nd) (i : Nat) (d : Nd), ls[i]? = some d → ∀ (j : Nat) (c : Value), d.cells[j]? = some c → (ndsL ls)[6 * i + j]? = some c := by
  intro ls
  induction ls with
  | nil => intro i d hi; simp at hi
  | cons x ls ih =>
    intro i d hi j c hj
    unfold ndsL
    rw [List.flatMap_cons]
    rcases i with _ | i
    · obtain rfl : x = d := by simpa using hi
      have hlt := (List.getElem?_eq_some_iff.1 hj).1
      rw [Nat.mul_zero, Nat.zero_add, List.getElem?_append_left hlt]
      exact hj
    · have := ih i d (by simpa using hi) j c hj
      have e : 6 * (i + 1) + j = x.cells.length + (6 * i + j) := by rw [nd_len6 x, Nat.mul_add]; omega
      rw [e, List.getElem?_append_right (by omega)]
      simpa [ndsL] using this
theorem nds_len (ls : List Nd) : (ndsL ls).length = ls.length * 6 := by
  induction ls with
  | nil => rfl
  | cons x ls ih => unfold ndsL at ih ⊢; rw [List.flatMap_cons, List.length_append, ih, nd_len6 x, List.length_cons]; omega
theorem nds_one {ls : List Nd} : ∀ u ∈ ndsL ls, u.oneCell' = true := by
  intro u hu
  unfold ndsL at hu
  obtain ⟨d, _, hd⟩ := List.mem_flatMap.1 hu
  unfold Nd.cells at hd
  simp only [List.mem_cons, List.not_mem_nil, or_false] at hd
  rcases hd with rfl | rfl | rfl | rfl | rfl | rfl <;> rfl
def OwnN (w : World) (base : Nat) (v : Value) (ls : List Nd) : Prop := w.ownsRow base 49 6 v ls.length (ndsL ls)
theorem OwnN.sl {w : World} {base : Nat} {v : Value} {ls : List Nd} (h : OwnN w base v ls) : SlIs 6 Nd.cells w v ls := by
  rcases h.2 with ⟨rfl, hn⟩ | ⟨g, cap, cur, rfl, hb, hh, hnc, _⟩
  · obtain rfl : ls = [] := List.length_eq_zero_iff.1 hn
    exact ⟨none, 0, rfl, by simp, by simp, by simp⟩
  · refine ⟨_, cap, rfl, hnc, by simp, fun hn => ⟨g, 0, rfl, fun i d hi j c hj => ?_⟩⟩
    have := h.cells (g := g) rfl (6 * i + j) c (nds_get ls i d hi j c hj)
    rw [Nat.zero_add]
    generalize 6 * i + j = q at this ⊢
    rcases q with _ | q
    · simpa [Addr.add] using this
    · simpa [Addr.add] using this
theorem OwnN.alloc {w : World} {base : Nat} {v : Value} {ls : List Nd} (h : OwnN w base v ls) (o : Obj) : OwnN (w.alloc o) base v ls := World.ownsRow.alloc h o
theorem owns_keptS {w w' : World} {B T s n : Nat} {v : Value} {l : List Value} (h : w.ownsRow B T s v n l) {Y : Nat → Prop} (hk : Kept Y w w') (hy : ∀ k, v.ownBlock = some k → Y k) : w'.ownsRow B T s v n l := by
  rcases h with ⟨b2, hr⟩
  refine ⟨b2, ?_⟩
  rcases hr with ⟨e, r⟩ | ⟨g, cap, cur, e, hb, hh, r⟩
  · exact .inl ⟨e, r⟩
  · subst e
    exact .inr ⟨g, cap, cur, rfl, hb, (hk.at hh (hy g rfl)), r⟩
theorem OwnN.kept {w w' : World} {base : Nat} {v : Value} {ls : List Nd} {Y : Nat → Prop} (h : OwnN w base v ls) (hk : Kept Y w w') (hy : ∀ k, v.ownBlock = some k → Y k) : OwnN w' base v ls := owns_keptS h hk hy
theorem OwnN.below {w w' : World} {base : Nat} {v : Value} {ls : List Nd} (h : OwnN w base v ls) (hb : Below w.heap.size w w') : OwnN w' base v ls := h.kept (Kept.ofBelow (X := fun _ => True) hb) (fun _ _ => trivial)
theorem OwnN.nil (w : World) (base : Nat) : OwnN w base (.slice none 0 0) [] := World.ownsRow_nil _ _ _ _
theorem OwnN.new (w : World) (base : Nat) (hb : base ≤ w.heap.size) : OwnN (w.alloc (.cells #[] 49)) base (.slice (some ⟨w.heap.size, 0, none⟩) 0 0) [] :=
  ⟨rfl, .inr ⟨w.heap.size, 0, #[], rfl, hb, heap_alloc_new w _, Nat.le_refl _, by decide, rfl, rfl⟩⟩
theorem info_nd : (Tryz.prog.info? 49).map (fun i => (i.zero, i.size, i.bytes)) = some (some (.agg #[.int .i64 0, .int .i64 0, .int .u64 0, .int .i64 0, .int .i64 0, .int .i64 0]), 6, 48) := by kernel_rfl
section
variable {P : Program} (w : World)
theorem run_append_noneS {base T s : Nat} {n : Nat} {v : Value} {xs : List Value} (t ty e : TypeId) (i : TypeInfo) (ht : P.underlying t = some (.slice e)) (hi : P.info? e = some i) (hown : w.ownsRow base T s v n xs) (ao : Option Addr) (c : Nat) : (Builtin.append_ #[t, t] ty #[v, .slice ao 0 c]).run P w = .ok v w := by
  rcases hown.2 with ⟨rfl, hn⟩ | ⟨g, cap, cur, rfl, hb, hh, hnc, _⟩
  · cases ao <;> simp [Builtin.append_, run_underlying ht, sizeOf, typeInfo, hi, Builtin.lenOf, Builtin.firstCells, storeCells, loadCells, loadCellsFrom]
  · cases ao <;> simp [Builtin.append_, run_underlying ht, sizeOf, typeInfo, hi, Builtin.lenOf, Builtin.firstCells, hnc, storeCells, loadCells, loadCellsFrom]
end
section
variable {ops : Array Oper} {rest : List Oper} {o : Oper} {a : Act} {w : World} {Q : Exit → Act → World → Prop}
theorem wl_appendN (hgd : o.guard = none) (s x : Operand) (ho : o.op = .call { callee := .builtin .append, args := #[s, x], argTypes := #[22, 22] }) (base : Nat) (v : Value) (xs : List Nd) (hs : a.eval s = v) (hown : OwnN w base v xs) (xv : Value) (us : List Nd) (hx : a.eval x = xv) (hus : SlIs 6 Nd.cells w xv us) (hn : xs.length + us.length ≤ 1000000000) (hbase : base ≤ w.heap.size)
    (h : ∀ v' w', OwnN w' base v' (xs ++ us) → w.grownBy w' v.ownBlock → (v'.ownBlock = v.ownBlock ∨ v'.ownBlock = some w.heap.size) → wpList Tryz.prog ops Q rest (a.put o.dst v') w') : wpList Tryz.prog ops Q (o :: rest) a w := by
  obtain ⟨i0, hi0, hz0, hz1, hz2⟩ := info_parts info_nd
  obtain ⟨ao, c, rfl, -, -, hrow⟩ := hus
  by_cases h0 : us = []
  · subst h0
    refine wpList_plain hgd fun _ hK => ?_
    unfold Oper.wp execOp
    simp only [ho, resolve, invoke, builtin, Sem.run_bind, Sem.run_pure, Result.andThen_ok, List.map_toArray, List.map_cons, List.map_nil, hs, hx, List.length_nil, run_append_noneS w 22 o.type 49 i0 Tryz.underlying22 hi0 hown ao c]
    exact hK _ _ (h v w (by rw [List.append_nil]; exact hown) ⟨rfl, rfl, rfl, Nat.le_refl _, fun _ _ _ => rfl⟩ (.inl rfl))
  · obtain ⟨b, oo, rfl, hR⟩ := hrow h0
    refine wpList_append_own_at _ hgd s x 22 ho base 49 i0 _ 6 48 Tryz.underlying22 hi0 hz0 hz1 hz2 (by decide) (by decide) v xs.length _ hs hown ⟨b, oo, none⟩ us.length c (ndsL us) hx (by rw [nds_len]) ?_ nds_one (by simp only [maxLen]; omega) (by omega) hbase ?_
    · intro j y hj
      have hj6 : j < us.length * 6 := by rw [← nds_len]; exact (List.getElem?_eq_some_iff.1 hj).1
      have hi : j / 6 < us.length := by omega
      have hd := List.getElem?_eq_getElem hi
      have hm : j % 6 < us[j / 6].cells.length := by rw [nd_len6]; omega
      have hg := nds_get us (j / 6) _ hd (j % 6) _ (List.getElem?_eq_getElem hm)
      rw [Nat.div_add_mod] at hg
      rw [hg] at hj
      have hc := hR (j / 6) _ hd (j % 6) y (by rw [← hj]; exact List.getElem?_eq_getElem hm)
      rw [Nat.div_add_mod] at hc
      rcases j with _ | j
      · simpa [Addr.add] using hc
      · simpa [Addr.add] using hc
    · intro v' w' h1 h2 _ h4
      refine h v' w' ?_ h2 h4
      show w'.ownsRow base 49 6 v' (xs ++ us).length (ndsL (xs ++ us))
      rw [List.length_append]
      unfold ndsL
      rw [List.flatMap_append]
      exact h1
end
end Go.Proofs.YtmaogkgjiplckaaGreat
namespace Go.Proofs.YtmaogkgjiplckaaGreat
open Go.RowKit
set_option maxRecDepth 100000 in
theorem ld_mid (w : World) (g o s : Nat) (t ty : TypeId) (cs : Array Value) (d : TypeDesc) (l : List Value) (hg : w.heap[g]? = some (.cells cs t (0, 0))) (hcut : ∀ (j : Nat) (v : Value), l[j]? = some v → cs[o + j]? = some v) (hls : l.length = s) (hu : Tryz.prog.underlying ty = some d) (hd : (match d with | .struct _ | .array _ _ => true | _ => false) = true) (hi : (Tryz.prog.info? ty).map (·.size) = some s) :
    (Instr.loadAt ty (.pointer (some ⟨g, o, none⟩))).run Tryz.prog w = .ok (.agg l.toArray) w := by
  simp only [Instr.loadAt, Instr.sureAddr, Sem.run_bind, Sem.run_pure, Result.andThen_ok]
  have hl : (loadCells ⟨g, o, none⟩ l.length).run Tryz.prog w = .ok l.toArray w :=
    run_loadCells_list (P := Tryz.prog) w ⟨g, o, none⟩ l (fun j v hv => by
      have hadd : (⟨g, o, none⟩ : Addr).add j = ⟨g, o + j, none⟩ := by unfold Addr.add; split <;> simp_all
      rw [hadd, cell_of_row w g (o + j) cs t (0, 0) hg]
      exact hcut j v hv)
  cases hq : Tryz.prog.info? ty with
  | none => simp [hq] at hi
  | some i =>
    have hz : i.size = s := by simpa [hq] using hi
    have hagg : (isAgg ty).run Tryz.prog w = .ok true w := by
      unfold isAgg
      rw [Sem.run_bind, run_underlying hu w]
      cases d <;> first | rfl | cases hd
    rw [hls] at hl
    simp [loadVar, Sem.run_bind, hagg, sizeOf, typeInfo, hq, hz, hl]
theorem size16 : (Tryz.prog.info? 32).map (·.size) = some 16 := by kernel_rfl
theorem size8 : (Tryz.prog.info? 33).map (·.size) = some 8 := by kernel_rfl
end Go.Proofs.YtmaogkgjiplckaaGreat
namespace Go.Proofs.YtmaogkgjiplckaaGreat
open Go.RowKit
end Go.Proofs.YtmaogkgjiplckaaGreat
namespace Go.Proofs.YtmaogkgjiplckaaGreat
open Go.RowKit
end Go.Proofs.YtmaogkgjiplckaaGreat
namespace Go.Proofs.YtmaogkgjiplckaaGreat
open Go.RowKit
open Go.ChangeShapes Go.WideShapes Go.Deep Go.Joins
set_option maxRecDepth 100000
section
variable {H : Type} {enc : TypeId × Value → H} {w : World}
theorem n_cells_int : Tryz.prog.cellsOf 3 = 1 := by kernel_rfl
theorem n_cells_u64 : Tryz.prog.cellsOf 24 = 1 := by kernel_rfl
theorem n_cells_3 : Tryz.prog.cellsOf 47 = 3 := by kernel_rfl
theorem n_cells_nd : Tryz.prog.cellsOf 49 = 6 := by kernel_rfl
theorem n_i64 {n : Int} (h : (Lit.int .i64 n).wf = true) : -9223372036854775808 ≤ n ∧ n ≤ 9223372036854775807 := by
  simp [Lit.wf, IntKind.min, IntKind.max, IntKind.bits, IntKind.signed] at h; omega
theorem n_u64 {n : Int} (h : (Lit.int .u64 n).wf = true) : 0 ≤ n ∧ n < 18446744073709551616 := by
  simp [Lit.wf, IntKind.min, IntKind.max, IntKind.bits, IntKind.signed] at h; omega
instance : Inhabited Nd := ⟨⟨0, 0, 0, 0, 0, 0⟩⟩
theorem n_six {l : List Value} (h : l.length = 6) : ∃ a b c d e f, l = [a, b, c, d, e, f] := by
  match l, h with
  | [a, b, c, d, e, f], _ => exact ⟨a, b, c, d, e, f, rfl⟩
theorem n_three {α : Type} {l : List α} (h : l.length = 3) : ∃ a b c, l = [a, b, c] := by
  match l, h with
  | [a, b, c], _ => exact ⟨a, b, c, rfl⟩
theorem n_struct4 {P : Program} {spare : Nat → Bool} {held : Bool} {base : Nat} {t : TypeId} {f0 f1 f2 f3 : Field} {fuel : Nat} {cs : List Value} {x : DataW H × List MemPlace} (ht : P.underlying t = some (.struct #[f0, f1, f2, f3])) (h : DataW.trod enc P w base spare held fuel t cs = some x) :
    ∃ y0 y1 y2 y3 n, DataW.trod enc P w base spare held n f0.type ((cs.drop f0.offset).take (P.cellsOf f0.type)) = some y0 ∧ DataW.trod enc P w base spare held n f1.type ((cs.drop f1.offset).take (P.cellsOf f1.type)) = some y1 ∧ DataW.trod enc P w base spare held n f2.type ((cs.drop f2.offset).take (P.cellsOf f2.type)) = some y2 ∧
      DataW.trod enc P w base spare held n f3.type ((cs.drop f3.offset).take (P.cellsOf f3.type)) = some y3 := by
  obtain ⟨xs, n, _, rfl, hl, hlen, hf⟩ := DataW.trod_struct ht h
  match xs, hlen with
  | [y0, y1, y2, y3], _ => exact ⟨y0, y1, y2, y3, n, by simpa using hf 0 f0 rfl, by simpa using hf 1 f1 rfl, by simpa using hf 2 f2 rfl, by simpa using hf 3 f3 rfl⟩
theorem open_slR {α : Type} (s : Nat) (hs0 : 0 < s) (f : α → List Value) (R : α → Prop) [Inhabited α] {t e : TypeId} {fuel : Nat} {v : Value} {x : DataW H × List MemPlace} (ht : Tryz.prog.underlying t = some (.slice e)) (hs : Tryz.prog.cellsOf e = s)
    (hone : ∀ n cs y, cs.length = s → DataW.trod enc Tryz.prog w 0 (fun _ => true) true n e cs = some y → ∃ a, cs = f a ∧ R a)
    (h : DataW.trod enc Tryz.prog w 0 (fun _ => true) true fuel t [v] = some x) : ∃ ls, SlIs s f w v ls ∧ ∀ a ∈ ls, R a := by
  rcases Go.Deep.open_slice ht h with ⟨h0, _⟩ | ⟨a, len, cap, m, n, D, Pl, hcs, _, hl, hm, hmm, _, hx⟩
  · injection h0 with h1 _
    subst h1
    exact ⟨[], ⟨none, 0, rfl, Nat.le_refl _, fun _ => rfl, fun h => absurd rfl h⟩, by simp⟩
  · injection hcs with h1 _
    subst h1
    simp only [if_true] at hmm
    subst hmm
    obtain ⟨A, hA⟩ := Go.Deep.choose_lt (α := α) (p := fun i y => w.cells? 0 (a.add (i * s)) s = some (f y) ∧ R y) (n := len) (fun i hi => by
      obtain ⟨cs', h1, h2⟩ := hx i (by omega)
      rw [hs] at h1
      obtain ⟨y, rfl, hy⟩ := hone n cs' _ (World.cells?_some h1).2.1 h2
      exact ⟨y, h1, hy⟩)
    refine ⟨(List.range len).map A, ⟨some a, m, by simp, by simpa using hl, fun h => by (cases h), fun hne => ?_⟩, ?_⟩
    · have hp : 0 < len := by
        rcases Nat.eq_zero_or_pos len with h | h
        · subst h; exact absurd rfl hne
        · exact h
      obtain ⟨_, hl0, hc0⟩ := World.cells?_some (hA 0 hp).1
      have hsp : a.spot = none := by
        have h1 := hc0 0 hs0
        rw [List.getElem?_eq_getElem (by omega)] at h1
        have h2 := World.cell?_spot h1
        simpa [Addr.add] using h2
      obtain ⟨b, o, sp⟩ := a
      dsimp only at hsp
      subst hsp
      refine ⟨b, o, rfl, fun i d hi j c hj => ?_⟩
      rw [List.getElem?_map] at hi
      have hil : i < len := by
        rcases Nat.lt_or_ge i len with h | h
        · exact h
        · rw [List.getElem?_eq_none (by simpa using h)] at hi; cases hi
      rw [List.getElem?_range hil] at hi
      obtain rfl := Option.some.inj hi
      obtain ⟨_, hln, hcn⟩ := World.cells?_some (hA i hil).1
      have hjl : j < s := by
        rcases Nat.lt_or_ge j s with h | h
        · exact h
        · rw [List.getElem?_eq_none (by omega)] at hj; cases hj
      have h3 := hcn j hjl
      rw [hj, Go.Deep.add_add] at h3
      have e1 : (⟨b, o, none⟩ : Addr).add (i * s + j) = ⟨b, o + (s * i + j), none⟩ := by
        unfold Addr.add
        rw [Nat.mul_comm i s]
        split
        · rename_i h0; rw [h0]; rfl
        · rfl
      rw [e1] at h3
      exact h3
    · intro y hy
      obtain ⟨i, hi, rfl⟩ := List.mem_map.1 hy
      exact (hA i (List.mem_range.1 hi)).2
theorem open_k3 {fuel : Nat} {a b c : Value} {x : DataW H × List MemPlace} (h : DataW.trod enc Tryz.prog w 0 (fun _ => true) true fuel 47 [a, b, c] = some x) :
    ∃ k0 k1 k2, a = .int .i64 k0 ∧ b = .int .i64 k1 ∧ c = .int .i64 k2 ∧ (-9223372036854775808 ≤ k0 ∧ k0 ≤ 9223372036854775807) ∧ (-9223372036854775808 ≤ k1 ∧ k1 ≤ 9223372036854775807) ∧ (-9223372036854775808 ≤ k2 ∧ k2 ≤ 9223372036854775807) := by
  obtain ⟨xs, m, _, _, _, hl, hx⟩ := DataW.trod_array Tryz.underlying47 h
  obtain ⟨y0, y1, y2, rfl⟩ := n_three hl
  have h0 := hx 0 (by decide)
  have h1 := hx 1 (by decide)
  have h2 := hx 2 (by decide)
  rw [n_cells_int] at h0 h1 h2
  simp only [List.drop_zero, Nat.zero_mul, Nat.one_mul, Nat.mul_one, List.drop_succ_cons, List.take_succ_cons, List.take_zero] at h0 h1 h2
  obtain ⟨k0, e0, _, w0⟩ := DataW.trod_int Tryz.underlying3 h0
  obtain ⟨k1, e1, _, w1⟩ := DataW.trod_int Tryz.underlying3 h1
  obtain ⟨k2, e2, _, w2⟩ := DataW.trod_int Tryz.underlying3 h2
  injection e0 with e0 _
  injection e1 with e1 _
  injection e2 with e2 _
  exact ⟨k0, k1, k2, e0, e1, e2, n_i64 w0, n_i64 w1, n_i64 w2⟩
theorem open_nodes {fuel : Nat} {v : Value} {x : DataW H × List MemPlace} (h : DataW.trod enc Tryz.prog w 0 (fun _ => true) true fuel 22 [v] = some x) :
    ∃ ls, SlIs 6 Nd.cells w v ls ∧ ∀ a ∈ ls, NdWf a :=
  open_slR 6 (by decide) Nd.cells _ Tryz.underlying22 n_cells_nd (fun n cs y hl h => by
    obtain ⟨c0, c1, c2, c3, c4, c5, rfl⟩ := n_six hl
    obtain ⟨y0, y1, y2, y3, m, h0, h1, h2, h3⟩ := n_struct4 Tryz.underlying49 h
    dsimp only at h0 h1 h2 h3
    rw [n_cells_int] at h0 h1
    rw [n_cells_u64] at h2
    rw [n_cells_3] at h3
    simp only [List.drop_zero, List.drop_succ_cons, List.take_succ_cons, List.take_zero] at h0 h1 h2 h3
    obtain ⟨k0, e0, _, w0⟩ := DataW.trod_int Tryz.underlying3 h0
    obtain ⟨k1, e1, _, w1⟩ := DataW.trod_int Tryz.underlying3 h1
    obtain ⟨k2, e2, _, w2⟩ := DataW.trod_int Tryz.underlying24 h2
    injection e0 with e0 _
    injection e1 with e1 _
    injection e2 with e2 _
    obtain ⟨k3, k4, k5, rfl, rfl, rfl, w3, w4, w5⟩ := open_k3 h3
    subst e0; subst e1; subst e2
    exact ⟨⟨k0, k1, k2, k3, k4, k5⟩, rfl, n_i64 w0, n_i64 w1, n_u64 w2, w3, w4, w5⟩) h
end
section
variable {H : Type} {enc : TypeId × Value → H} {w : World}
theorem n_cells_u8 : Tryz.prog.cellsOf 5 = 1 := by kernel_rfl
theorem n_cells_sl : Tryz.prog.cellsOf 23 = 1 := by kernel_rfl
theorem n_cells_r8 : Tryz.prog.cellsOf 25 = 8 := by kernel_rfl
theorem n_cells_env : Tryz.prog.cellsOf 27 = 10 := by kernel_rfl
theorem n_u8 {n : Int} (h : (Lit.int .u8 n).wf = true) : 0 ≤ n ∧ n < 256 := by
  simp [Lit.wf, IntKind.min, IntKind.max, IntKind.bits, IntKind.signed] at h; omega
theorem open_bytesD {fuel : Nat} {v : Value} {x : DataW H × List MemPlace} (h : DataW.trod enc Tryz.prog w 0 (fun _ => true) true fuel 23 [v] = some x) :
    ∃ ls, SlIs 1 u8c w v ls ∧ ∀ a ∈ ls, 0 ≤ a ∧ a < 256 :=
  open_slR 1 (by decide) u8c _ Tryz.underlying23 n_cells_u8 (fun n cs y _ h => by
    obtain ⟨n, rfl, _, hw⟩ := DataW.trod_int Tryz.underlying5 h
    exact ⟨n, rfl, n_u8 hw⟩) h
theorem n_ten {l : List Value} (h : l.length = 10) : ∃ a b c d e f g i j k, l = [a, b, c, d, e, f, g, i, j, k] := by
  match l, h with
  | [a, b, c, d, e, f, g, i, j, k], _ => exact ⟨a, b, c, d, e, f, g, i, j, k, rfl⟩
theorem n_eight {α : Type} {l : List α} (h : l.length = 8) : ∃ a b c d e f g i, l = [a, b, c, d, e, f, g, i] := by
  match l, h with
  | [a, b, c, d, e, f, g, i], _ => exact ⟨a, b, c, d, e, f, g, i, rfl⟩
theorem open_r8 {fuel : Nat} {a b c d e f g i : Value} {x : DataW H × List MemPlace} (h : DataW.trod enc Tryz.prog w 0 (fun _ => true) true fuel 25 [a, b, c, d, e, f, g, i] = some x) :
    ∃ r0 r1 r2 r3 r4 r5 r6 r7, a = .int .u64 r0 ∧ b = .int .u64 r1 ∧ c = .int .u64 r2 ∧ d = .int .u64 r3 ∧ e = .int .u64 r4 ∧ f = .int .u64 r5 ∧ g = .int .u64 r6 ∧ i = .int .u64 r7 ∧ ∀ x ∈ regL r0 r1 r2 r3 r4 r5 r6 r7, 0 ≤ x ∧ x < 18446744073709551616 := by
  obtain ⟨xs, m, _, _, _, hl, hx⟩ := DataW.trod_array Tryz.underlying25 h
  obtain ⟨y0, y1, y2, y3, y4, y5, y6, y7, rfl⟩ := n_eight hl
  have h0 := hx 0 (by decide)
  have h1 := hx 1 (by decide)
  have h2 := hx 2 (by decide)
  have h3 := hx 3 (by decide)
  have h4 := hx 4 (by decide)
  have h5 := hx 5 (by decide)
  have h6 := hx 6 (by decide)
  have h7 := hx 7 (by decide)
  rw [n_cells_u64] at h0 h1 h2 h3 h4 h5 h6 h7
  simp only [List.drop_zero, Nat.zero_mul, Nat.one_mul, Nat.mul_one, List.drop_succ_cons, List.take_succ_cons, List.take_zero] at h0 h1 h2 h3 h4 h5 h6 h7
  obtain ⟨r0, e0, _, w0⟩ := DataW.trod_int Tryz.underlying24 h0
  obtain ⟨r1, e1, _, w1⟩ := DataW.trod_int Tryz.underlying24 h1
  obtain ⟨r2, e2, _, w2⟩ := DataW.trod_int Tryz.underlying24 h2
  obtain ⟨r3, e3, _, w3⟩ := DataW.trod_int Tryz.underlying24 h3
  obtain ⟨r4, e4, _, w4⟩ := DataW.trod_int Tryz.underlying24 h4
  obtain ⟨r5, e5, _, w5⟩ := DataW.trod_int Tryz.underlying24 h5
  obtain ⟨r6, e6, _, w6⟩ := DataW.trod_int Tryz.underlying24 h6
  obtain ⟨r7, e7, _, w7⟩ := DataW.trod_int Tryz.underlying24 h7
  injection e0 with e0 _
  injection e1 with e1 _
  injection e2 with e2 _
  injection e3 with e3 _
  injection e4 with e4 _
  injection e5 with e5 _
  injection e6 with e6 _
  injection e7 with e7 _
  refine ⟨r0, r1, r2, r3, r4, r5, r6, r7, e0, e1, e2, e3, e4, e5, e6, e7, ?_⟩
  intro x hx
  unfold regL at hx
  simp only [List.mem_cons, List.not_mem_nil, or_false] at hx
  rcases hx with rfl | rfl | rfl | rfl | rfl | rfl | rfl | rfl
  · exact n_u64 w0
  · exact n_u64 w1
  · exact n_u64 w2
  · exact n_u64 w3
  · exact n_u64 w4
  · exact n_u64 w5
  · exact n_u64 w6
  · exact n_u64 w7
theorem open_env {r : Reach} {b0 : Nat} {v : Value} {d : DataW H} {p : List MemPlace} (hv : Value.okWide Tryz.prog w r b0 27 v) (h : DataW.Trod enc Tryz.prog w 0 (fun _ => true) true 27 v d p) :
    ∃ (inp : List Int) (ia : Option Addr) (ic : Nat) (r0 r1 r2 r3 r4 r5 r6 r7 : Int) (vm : Value), v = .agg #[.slice ia inp.length ic, .int .u64 r0, .int .u64 r1, .int .u64 r2, .int .u64 r3, .int .u64 r4, .int .u64 r5, .int .u64 r6, .int .u64 r7, vm] ∧ SlIs 1 u8c w (.slice ia inp.length ic) inp ∧ (∀ a ∈ inp, 0 ≤ a ∧ a < 256) ∧ ∀ x ∈ regL r0 r1 r2 r3 r4 r5 r6 r7, 0 ≤ x ∧ x < 18446744073709551616 := by
  obtain ⟨cs, rfl, hsz⟩ := okWide_struct Tryz.underlying27 hv
  rw [n_cells_env] at hsz
  obtain ⟨l, rfl⟩ : ∃ l : List Value, cs = l.toArray := ⟨cs.toList, by simp⟩
  obtain ⟨c0, c1, c2, c3, c4, c5, c6, c7, c8, c9, rfl⟩ := n_ten (by simpa using hsz)
  obtain ⟨fuel, hf⟩ := h
  obtain ⟨y0, y1, y2, n, _, _, h0, h1, h2⟩ := trod_struct3 Tryz.underlying27 hf
  dsimp only [Value.cells] at h0 h1 h2
  rw [n_cells_sl] at h0
  rw [n_cells_r8] at h1
  simp only [List.drop_zero, List.drop_succ_cons, List.take_succ_cons, List.take_zero] at h0 h1
  obtain ⟨inp, hs, hb⟩ := open_bytesD h0
  obtain ⟨r0, r1, r2, r3, r4, r5, r6, r7, rfl, rfl, rfl, rfl, rfl, rfl, rfl, rfl, hr⟩ := open_r8 h1
  obtain ⟨ia, ic, rfl, hrest⟩ := hs
  exact ⟨inp, ia, ic, r0, r1, r2, r3, r4, r5, r6, r7, c9, rfl, ⟨ia, ic, rfl, hrest⟩, hb, hr⟩
end
end Go.Proofs.YtmaogkgjiplckaaGreat
namespace Go.Proofs.YtmaogkgjiplckaaGreat
open Go.RowKit
open Go.ChangeShapes Go.WideShapes Go.Deep Go.Joins
theorem leaf_b {ls : List Nd} (hT : TF ls) (hn : (bK ls ls.length).g.n ≤ 1048576) : ∀ l, l ∈ (bK ls ls.length).inp ∨ l ∈ (bK ls ls.length).reg → l.length ≤ 64 ∧ ∀ a ∈ l, -1048576 ≤ a ∧ a ≤ 1048576 := by
  obtain ⟨s, hs⟩ := blast_ok (I := fun _ => 0) (R := fun _ => 0) hT (fun _ => by decide) (fun _ => by decide) ls.length (Nat.le_refl _)
  rintro l (h | h)
  · obtain ⟨i, hi⟩ := List.mem_iff_getElem?.1 h
    have h16 := hs.inp i (by have := (List.getElem?_eq_some_iff.1 hi).1; have := hs.il; omega)
    have e : (bK ls ls.length).inp.getD i [] = l := by rw [List.getD_eq_getElem?_getD, hi]; rfl
    rw [e] at h16
    rcases h16 with rfl | h16
    · simp
    · exact ⟨by have := h16.len; omega, fun a ha => rng_of (h16.isl a ha) hn⟩
  · obtain ⟨i, hi⟩ := List.mem_iff_getElem?.1 h
    have h16 := hs.reg i (by have := (List.getElem?_eq_some_iff.1 hi).1; have := hs.rl; omega)
    have e : (bK ls ls.length).reg.getD i [] = l := by rw [List.getD_eq_getElem?_getD, hi]; rfl
    rw [e] at h16
    rcases h16 with rfl | h16
    · simp
    · exact ⟨by have := h16.len; omega, fun a ha => rng_of (h16.isl a ha) hn⟩
theorem fr_len {I R : Nat → Nat} {b : BS} (h : ∀ l, l ∈ b.inp ∨ l ∈ b.reg → l.length ≤ 64) : (frB I R b).length ≤ 2000 := by
  have h1 : (frI I b.inp 16).length ≤ 16 * 64 := frI_len fun l hl => h l (.inl hl)
  have h2 : (frI R b.reg 8).length ≤ 8 * 64 := frI_len fun l hl => h l (.inr hl)
  have e : frB I R b = frI I b.inp 16 ++ frI R b.reg 8 := rfl
  rw [e, List.length_append]
  omega
structure PlainOk (ls : List Nd) (I R : Nat → Nat) (s : Nat → Bool) : Prop where
  gi : GI (bK ls ls.length).g (frB I R (bK ls ls.length)) s
  rx : ∀ x ∈ (bK ls ls.length).at ((ls.length - 1 : Nat) : Int), isL (bK ls ls.length).g.n x
  rl : (((bK ls ls.length).at ((ls.length - 1 : Nat) : Int)).length : Int) = wAt ls ((ls.length - 1 : Nat) : Int)
  r64 : ((bK ls ls.length).at ((ls.length - 1 : Nat) : Int)).length ≤ 64
  rv : bv (((bK ls ls.length).at ((ls.length - 1 : Nat) : Int)).map (lit s)) = (vK I R ls ls.length).getD (ls.length - 1) 0
theorem plain_ok {ls : List Nd} (hT : TF ls) (hne : ls ≠ []) {I R : Nat → Nat} (hI : ∀ i, I i < 256) (hR : ∀ i, R i < 18446744073709551616) : ∃ s, PlainOk ls I R s := by
  obtain ⟨s, hs⟩ := blast_ok hT hI hR ls.length (Nat.le_refl _)
  have hpos := List.length_pos_iff.2 hne
  have h := hs.ws (ls.length - 1) (by omega)
  have hw := hT.wd (ls.length - 1) (by omega)
  exact ⟨s, hs.gi, h.isl, by rw [h.len]; omega, by rw [h.len]; omega, h.num⟩
end Go.Proofs.YtmaogkgjiplckaaGreat
namespace Go.Proofs.YtmaogkgjiplckaaGreat
open Go.RowKit
theorem GI.more {g : G} {fr ex : List Int} {s : Nat → Bool} (h : GI g fr s) (hx : ∀ x ∈ ex, isL g.n x ∧ lit s x = true) : GI g (fr ++ ex) s :=
  ⟨h.pos, h.one, h.sat, h.rng, fun v h1 h2 => (h.det v h1 h2).mono (fun _ hc => hc) (fun x hm => List.mem_append_left _ hm), fun x hm => (List.mem_append.1 hm).elim (h.frm x) (hx x), h.an, h.xo, h.len⟩
end Go.Proofs.YtmaogkgjiplckaaGreat
namespace Go.Proofs.YtmaogkgjiplckaaGreat
open Go.RowKit
set_option maxRecDepth 100000 in
set_option maxHeartbeats 2000000 in
theorem right_dark {ia : Option Addr} {ic : Nat} {vm : Value} {r0 r1 r2 r3 r4 r5 r6 r7 n : Int} (inp : List Int) (ls : List Nd) (v : Value) (w : World) (h : SlIs 6 Nd.cells w v ls) (hl : lightB ls = false) :
    Calls Tryz.prog 5 #[v, .agg #[.slice ia inp.length ic, .int .u64 r0, .int .u64 r1, .int .u64 r2, .int .u64 r3, .int .u64 r4, .int .u64 r5, .int .u64 r6, .int .u64 r7, vm]] w fun e w' => e = .returned (.bool true) ∧ Below w.heap.size w w' := by
  have HLG : Hid (∀ u : World, Below w.heap.size w u → Calls Tryz.prog 7 #[v] u fun e w' => e = .returned (.bool false) ∧ w' = u) := Lib.hid (fun u hb => light_any v ls u (h.below hb) false (Lib.hid hl))
  clear h hl
  go_enter Tryz.func5, Tryz.ntmps5
  (repeat (first | (with_reducible first | refine xA ?_ | refine xB ?_ | refine xC ?_ | refine xD ?_ | refine xH ?_ | refine xI rfl ?_ | refine xE ?_ | refine xF ?_ | refine xG ?_) | go_skip | go_guarded | (go_at_call 6; (with_reducible refine (awake16_any _).mono ?_); rintro _ w0 ⟨rfl, hb⟩; have he0 := (hb.block w.heap.size (by simp)).trans (heap_alloc_new w (.cells #[.slice ia inp.length ic, .int .u64 r0, .int .u64 r1, .int .u64 r2, .int .u64 r3, .int .u64 r4, .int .u64 r5, .int .u64 r6, .int .u64 r7, vm] 27)); have hb0 : Below w.heap.size w w0 := (Below.alloc (Below.refl _ _) (Nat.le_refl _) _).trans (hb.mono (by simp)); clear hb; have hci : w0.cell? ⟨w.heap.size, 0, none⟩ = some (.slice ia inp.length ic) := (cell_of_row w0 w.heap.size 0 _ _ _ he0).trans rfl; have HE0 := Lib.hid he0) | (go_at_call 7; (with_reducible refine (HLG.out _ hb0).mono ?_); rintro _ w1 ⟨rfl, rfl⟩) | go_values | go_skip | go_guarded | go_step | go_upon | go_back | ((with_reducible show Oper.upon _ _ _ _ _ _); go_simp) | (dsimp only)))
  go_ret
  exact ⟨rfl, hb0⟩
set_option maxRecDepth 100000 in
set_option maxHeartbeats 2000000 in
theorem right_many {ia : Option Addr} {ic : Nat} {vm : Value} {r0 r1 r2 r3 r4 r5 r6 r7 n : Int} (inp : List Int) (hin : (inp.length : Int) > 100) (ls : List Nd) (v : Value) (w : World) (h : SlIs 6 Nd.cells w v ls) (hl : lightB ls = true) :
    Calls Tryz.prog 5 #[v, .agg #[.slice ia inp.length ic, .int .u64 r0, .int .u64 r1, .int .u64 r2, .int .u64 r3, .int .u64 r4, .int .u64 r5, .int .u64 r6, .int .u64 r7, vm]] w fun e w' => e = .returned (.bool true) ∧ Below w.heap.size w w' := by
  have HLG : Hid (∀ u : World, Below w.heap.size w u → Calls Tryz.prog 7 #[v] u fun e w' => e = .returned (.bool true) ∧ w' = u) := Lib.hid (fun u hb => light_any v ls u (h.below hb) true (Lib.hid hl))
  clear h hl
  go_enter Tryz.func5, Tryz.ntmps5
  (repeat (first | (with_reducible first | refine xA ?_ | refine xB ?_ | refine xC ?_ | refine xD ?_ | refine xH ?_ | refine xI rfl ?_ | refine xE ?_ | refine xF ?_ | refine xG ?_) | go_skip | go_guarded | (go_at_call 6; (with_reducible refine (awake16_any _).mono ?_); rintro _ w0 ⟨rfl, hb⟩; have he0 := (hb.block w.heap.size (by simp)).trans (heap_alloc_new w (.cells #[.slice ia inp.length ic, .int .u64 r0, .int .u64 r1, .int .u64 r2, .int .u64 r3, .int .u64 r4, .int .u64 r5, .int .u64 r6, .int .u64 r7, vm] 27)); have hb0 : Below w.heap.size w w0 := (Below.alloc (Below.refl _ _) (Nat.le_refl _) _).trans (hb.mono (by simp)); clear hb; have hci : w0.cell? ⟨w.heap.size, 0, none⟩ = some (.slice ia inp.length ic) := (cell_of_row w0 w.heap.size 0 _ _ _ he0).trans rfl; have HE0 := Lib.hid he0) | (go_at_call 7; (with_reducible refine (HLG.out _ hb0).mono ?_); rintro _ w1 ⟨rfl, rfl⟩) | go_values | go_skip | go_guarded | go_step | go_upon | go_back | ((with_reducible show Oper.upon _ _ _ _ _ _); go_simp) | (dsimp only)))
  go_ret
  exact ⟨rfl, hb0⟩
set_option maxRecDepth 100000 in
set_option maxHeartbeats 2000000 in
theorem right_bad {ia : Option Addr} {ic : Nat} {vm : Value} {r0 r1 r2 r3 r4 r5 r6 r7 n : Int} (inp : List Int) (hin : (inp.length : Int) ≤ 100) (ls : List Nd) (v : Value) (w : World) (h : SlIs 6 Nd.cells w v ls) (hl : lightB ls = true) (E : Int) (hE : (E != 0) = true) (hCK : ∀ u : World, Below w.heap.size w u → Calls Tryz.prog 9 #[v] u fun e w' => e = .returned (.int .i64 E) ∧ Below u.heap.size u w') :
    Calls Tryz.prog 5 #[v, .agg #[.slice ia inp.length ic, .int .u64 r0, .int .u64 r1, .int .u64 r2, .int .u64 r3, .int .u64 r4, .int .u64 r5, .int .u64 r6, .int .u64 r7, vm]] w fun e w' => e = .returned (.bool true) ∧ Below w.heap.size w w' := by
  have HLG : Hid (∀ u : World, Below w.heap.size w u → Calls Tryz.prog 7 #[v] u fun e w' => e = .returned (.bool true) ∧ w' = u) := Lib.hid (fun u hb => light_any v ls u (h.below hb) true (Lib.hid hl))
  have HCK := Lib.hid hCK
  have HL := Lib.hid h
  have hin' : ¬ (inp.length : Int) > 100 := by omega
  clear h hl hCK hin
  go_enter Tryz.func5, Tryz.ntmps5
  (repeat (first | (with_reducible first | refine xA ?_ | refine xB ?_ | refine xC ?_ | refine xD ?_ | refine xH ?_ | refine xI rfl ?_ | refine xE ?_ | refine xF ?_ | refine xG ?_) | go_skip | go_guarded | (go_at_call 6; (with_reducible refine (awake16_any _).mono ?_); rintro _ w0 ⟨rfl, hb⟩; have he0 := (hb.block w.heap.size (by simp)).trans (heap_alloc_new w (.cells #[.slice ia inp.length ic, .int .u64 r0, .int .u64 r1, .int .u64 r2, .int .u64 r3, .int .u64 r4, .int .u64 r5, .int .u64 r6, .int .u64 r7, vm] 27)); have hb0 : Below w.heap.size w w0 := (Below.alloc (Below.refl _ _) (Nat.le_refl _) _).trans (hb.mono (by simp)); clear hb; have hci : w0.cell? ⟨w.heap.size, 0, none⟩ = some (.slice ia inp.length ic) := (cell_of_row w0 w.heap.size 0 _ _ _ he0).trans rfl; have HE0 := Lib.hid he0) | (go_at_call 7; (with_reducible refine (HLG.out _ hb0).mono ?_); rintro _ w1 ⟨rfl, rfl⟩) | (go_at_call 9; (with_reducible refine (HCK.out _ hb0).mono ?_); rintro _ w2 ⟨rfl, hbc⟩; have hb5 := hb0.trans (hbc.mono hb0.size); have HE5 := Lib.hid ((hbc.block _ (lt_of_block HE0.out)).trans HE0.out); have HSL := Lib.hid (HL.out.below hb5); clear hbc) | go_values | go_skip | go_guarded | go_step | go_upon | go_back | ((with_reducible show Oper.upon _ _ _ _ _ _); go_simp) | (dsimp only)))
  go_ret
  exact ⟨rfl, hb5⟩
end Go.Proofs.YtmaogkgjiplckaaGreat
namespace Go.Proofs.YtmaogkgjiplckaaGreat
open Go.RowKit
theorem size_int : (Tryz.prog.info? 3).map (·.size) = some 1 := by kernel_rfl
theorem part_int (w : World) (cs : Array Value) (i : Nat) (n : Int) (h : cs[i]? = some (.int .i64 n)) : (part 3 cs (i * 1)).run Tryz.prog w = .ok (.int .i64 n) w := by
  have ha : (isAgg 3).run Tryz.prog w = .ok false w := by
    unfold isAgg
    rw [Sem.run_bind, run_underlying Tryz.underlying3 w]
    rfl
  unfold part
  rw [Sem.run_bind, ha]
  simp only [Result.andThen_ok, Bool.false_eq_true, if_false, Nat.mul_one, h, Sem.run_pure]
theorem sizeOf_int (w : World) : (sizeOf 3).run Tryz.prog w = .ok 1 w := by
  cases hq : Tryz.prog.info? 3 with
  | none => have := size_int; simp [hq] at this
  | some i =>
    have hs : i.size = 1 := by have := size_int; simpa [hq] using this
    simp [sizeOf, typeInfo, hq, hs]
theorem eqIn_int (w : World) (d : Nat) (x y : Int) : (Op.equalIn (d + 1) 3 (.int .i64 x) (.int .i64 y)).run Tryz.prog w = .ok (x == y) w := by
  rw [Op.equalIn]
  simp [run_underlying Tryz.underlying3]
theorem eqIn_k3 (w : World) (d : Nat) (a3 a4 a5 b3 b4 b5 : Int) : (Op.equalIn (d + 2) 47 (.agg #[.int .i64 a3, .int .i64 a4, .int .i64 a5]) (.agg #[.int .i64 b3, .int .i64 b4, .int .i64 b5])).run Tryz.prog w =
    .ok (a3 == b3 && (a4 == b4 && a5 == b5)) w := by
  have p (cs : Array Value) (i : Nat) (n : Int) (h : cs[i]? = some (.int .i64 n)) := part_int w cs i n h
  rw [Op.equalIn]
  simp only [Sem.run_bind, run_underlying Tryz.underlying47, Result.andThen_ok, sizeOf_int]
  rw [Std.Legacy.Range.forIn_eq_forIn_range']
  have hr : List.range' [:3].start [:3].size [:3].step = [0, 1, 2] := rfl
  rw [hr]
  have u0 := p #[.int .i64 a3, .int .i64 a4, .int .i64 a5] 0 a3 rfl
  have u1 := p #[.int .i64 a3, .int .i64 a4, .int .i64 a5] 1 a4 rfl
  have u2 := p #[.int .i64 a3, .int .i64 a4, .int .i64 a5] 2 a5 rfl
  have v0 := p #[.int .i64 b3, .int .i64 b4, .int .i64 b5] 0 b3 rfl
  have v1 := p #[.int .i64 b3, .int .i64 b4, .int .i64 b5] 1 b4 rfl
  have v2 := p #[.int .i64 b3, .int .i64 b4, .int .i64 b5] 2 b5 rfl
  clear p hr
  have f0 := eqIn_int w d a3 b3
  have f1 := eqIn_int w d a4 b4
  have f2 := eqIn_int w d a5 b5
  simp only [List.forIn_cons, List.forIn_nil, Sem.run_bind, u0, v0, f0, Result.andThen_ok]
  by_cases e0 : a3 = b3
  · subst e0
    simp only [beq_self_eq_true, Bool.not_true, Bool.false_eq_true, if_false, Sem.run_pure, Result.andThen_ok, Bool.true_and, Sem.run_bind, u1, v1, f1]
    by_cases e1 : a4 = b4
    · subst e1
      simp only [beq_self_eq_true, Bool.not_true, Bool.false_eq_true, if_false, Sem.run_pure, Result.andThen_ok, Bool.true_and, Sem.run_bind, u2, v2, f2]
      by_cases e2 : a5 = b5
      · subst e2
        simp only [f2, beq_self_eq_true, Bool.not_true, Bool.false_eq_true, if_false, Sem.run_pure, Result.andThen_ok]
      · have e2' : (a5 == b5) = false := by simpa using e2
        simp only [e2', Bool.not_false, if_true, Sem.run_pure, Result.andThen_ok]
    · have e1' : (a4 == b4) = false := by simpa using e1
      simp only [e1', Bool.not_false, if_true, Sem.run_pure, Result.andThen_ok, Bool.false_and]
  · have e0' : (a3 == b3) = false := by simpa using e0
    simp only [e0', Bool.not_false, if_true, Sem.run_pure, Result.andThen_ok, Bool.false_and]
theorem eq_nd (a0 a1 a2 a3 a4 a5 b0 b1 b2 b3 b4 b5 : Int) (w : World) :
    (binOp .eql 49 (.agg #[.int .i64 a0, .int .i64 a1, .int .u64 a2, .int .i64 a3, .int .i64 a4, .int .i64 a5]) (.agg #[.int .i64 b0, .int .i64 b1, .int .u64 b2, .int .i64 b3, .int .i64 b4, .int .i64 b5])).run Tryz.prog w =
      .ok (.bool (decide ((⟨a0, a1, a2, a3, a4, a5⟩ : Nd) = ⟨b0, b1, b2, b3, b4, b5⟩))) w := by
  have h47 := eqIn_k3 w 9997 a3 a4 a5 b3 b4 b5
  go_simp
  split <;> rename_i e0
  · split <;> rename_i e1
    · split <;> rename_i e2
      · by_cases e3 : a3 = b3 <;> by_cases e4 : a4 = b4 <;> by_cases e5 : a5 = b5 <;> simp [e0, e1, e2, e3, e4, e5]
      · simp [e2]
    · simp [e1]
  · simp [e0]
theorem nd_row {w : World} {b o k : Nat} {ls : List Nd} {d : Nd} (h : RowAt 6 Nd.cells w b o ls) (hi : ls[k]? = some d) :
    w.cell? ⟨b, o + k * 6, none⟩ = some (.int .i64 d.op) ∧ w.cell? ⟨b, o + k * 6 + 1, none⟩ = some (.int .i64 d.w) ∧ w.cell? ⟨b, o + k * 6 + 2, none⟩ = some (.int .u64 d.n) ∧
    w.cell? ⟨b, o + k * 6 + 3, none⟩ = some (.int .i64 d.k0) ∧ w.cell? ⟨b, o + k * 6 + 4, none⟩ = some (.int .i64 d.k1) ∧ w.cell? ⟨b, o + k * 6 + 5, none⟩ = some (.int .i64 d.k2) := by
  have e (j : Nat) : o + k * 6 + j = o + (6 * k + j) := by omega
  refine ⟨?_, ?_, ?_, ?_, ?_, ?_⟩
  · have := h k d hi 0 _ rfl
    rw [Nat.add_zero, Nat.mul_comm] at this
    exact this
  · rw [e]; exact h k d hi 1 _ rfl
  · rw [e]; exact h k d hi 2 _ rfl
  · rw [e]; exact h k d hi 3 _ rfl
  · rw [e]; exact h k d hi 4 _ rfl
  · rw [e]; exact h k d hi 5 _ rfl
def placeOf (ls : List Nd) (d : Nd) (r : Int) : Prop := (∃ p : Nat, r = p ∧ ls[p]? = some d) ∨ (r = -1 ∧ d ∉ ls)
set_option maxRecDepth 100000 in
set_option maxHeartbeats 2000000 in
theorem find_any (v : Value) (ls : List Nd) (x0 x1 x2 x3 x4 x5 : Int) (w : World) (h : SlIs 6 Nd.cells w v ls) (hll : ls.length ≤ 1000000) :
    Calls Tryz.prog 57 #[v, .agg #[.int .i64 x0, .int .i64 x1, .int .u64 x2, .int .i64 x3, .int .i64 x4, .int .i64 x5]] w fun e w' => (∃ r, e = .returned (.int .i64 r) ∧ placeOf ls ⟨x0, x1, x2, x3, x4, x5⟩ r) ∧ Below w.heap.size w w' := by
  obtain ⟨ao, cap, rfl, hcap, -, hrow⟩ := h
  have HROW := Lib.hid hrow
  have hlI : (ls.length : Int) ≤ 1000000 := by omega
  clear hrow hcap hll
  go_enter Tryz.func57, Tryz.ntmps57
  (repeat (first | (with_reducible first | refine xA ?_ | refine xB ?_ | refine xC ?_ | refine xD ?_ | refine xH ?_ | refine xI rfl ?_ | refine xE ?_ | refine xF ?_ | refine xG ?_) | go_values | go_skip | go_guarded | go_step | go_upon | go_back | ((with_reducible show Oper.upon _ _ _ _ _ _); go_simp) | (dsimp only)))
  refine wp_abs (fun u => Below w.heap.size w u ∧ u.heap[w.heap.size]? = some (.cells #[.int .i64 x0, .int .i64 x1, .int .u64 x2, .int .i64 x3, .int .i64 x4, .int .i64 x5] 49 (0, 0))) ⟨by (repeat (first | with_reducible exact Below.refl _ _ | assumption | with_reducible refine below_drewN ?_ _ | with_reducible refine Below.drew ?_ | with_reducible refine Below.setRow ?_ ?_ _ | with_reducible refine Below.alloc ?_ ?_ _ | with_reducible refine Below.setCell ?_ ?_ _ | with_reducible exact Nat.le_refl _ | (focus (simp; done)) | (focus (simp; omega)) | omega)), heap_alloc_new w _⟩ ?_
  rintro w1 ⟨hb1, hx1⟩
  go_loopw [5] (fun i wr => ∃ k : Nat, k ≤ ls.length ∧ i = .int .i64 k ∧ Hid (∀ (j : Nat) (y : Nd), j < k → ls[j]? = some y → y ≠ ⟨x0, x1, x2, x3, x4, x5⟩) ∧ Below w1.heap.size w1 wr) (fun i _ => ls.length - (intOf i).toNat)
  case atStart => exact ⟨0, Nat.zero_le _, rfl, Lib.hid (fun j y hj => by omega), Below.refl _ _⟩
  case round =>
    obtain ⟨k, hk, rfl, HA, HB⟩ := hrel
    have hbw := hb1.trans (HB.mono hb1.size)
    have hxr := (HB.block _ (lt_of_block hx1)).trans hx1
    rcases Nat.lt_or_ge k ls.length with hlt | hge
    · obtain ⟨y, hy⟩ : ∃ y, ls[k]? = some y := ⟨_, List.getElem?_eq_getElem hlt⟩
      obtain ⟨b, o, rfl, HR⟩ := HROW.out (by intro e; rw [e] at hlt; simp at hlt)
      obtain ⟨y0, y1, y2, y3, y4, y5⟩ := y
      obtain ⟨e0, e1, e2, e3, e4, e5⟩ := nd_row (HR.below hbw) hy
      have f0 : wr.cell? ⟨w.heap.size, 0, none⟩ = some (.int .i64 x0) := (cell_of_row wr w.heap.size 0 _ _ _ hxr).trans rfl
      have f1 : wr.cell? ⟨w.heap.size, 1, none⟩ = some (.int .i64 x1) := (cell_of_row wr w.heap.size 1 _ _ _ hxr).trans rfl
      have f2 : wr.cell? ⟨w.heap.size, 2, none⟩ = some (.int .u64 x2) := (cell_of_row wr w.heap.size 2 _ _ _ hxr).trans rfl
      have f3 : wr.cell? ⟨w.heap.size, 3, none⟩ = some (.int .i64 x3) := (cell_of_row wr w.heap.size 3 _ _ _ hxr).trans rfl
      have f4 : wr.cell? ⟨w.heap.size, 4, none⟩ = some (.int .i64 x4) := (cell_of_row wr w.heap.size 4 _ _ _ hxr).trans rfl
      have f5 : wr.cell? ⟨w.heap.size, 5, none⟩ = some (.int .i64 x5) := (cell_of_row wr w.heap.size 5 _ _ _ hxr).trans rfl
      dsimp only at e0 e1 e2 e3 e4 e5
      have Hy := Lib.hid hy
      have k0 : (0 : Int) ≤ k := by omega
      have k1 : (k : Int) < ls.length := by omega
      clear hy hxr HR
      by_cases hxy : (⟨y0, y1, y2, y3, y4, y5⟩ : Nd) = ⟨x0, x1, x2, x3, x4, x5⟩
      · have hxq : ∀ w, (binOp .eql 49 (.agg #[.int .i64 y0, .int .i64 y1, .int .u64 y2, .int .i64 y3, .int .i64 y4, .int .i64 y5]) (.agg #[.int .i64 x0, .int .i64 x1, .int .u64 x2, .int .i64 x3, .int .i64 x4, .int .i64 x5])).run Tryz.prog w = .ok (.bool true) w := fun w => by rw [eq_nd, decide_eq_true hxy]
        have Hxy := Lib.hid hxy
        clear hxy
        (repeat (first | (with_reducible first | refine xA ?_ | refine xB ?_ | refine xC ?_ | refine xD ?_ | refine xH ?_ | refine xI rfl ?_ | refine xE ?_ | refine xF ?_ | refine xG ?_) | go_values | go_skip | go_guarded | go_step | go_upon | go_back | ((with_reducible show Oper.upon _ _ _ _ _ _); go_simp) | (dsimp only)))
        go_quiet (fail)
        (repeat (first | (with_reducible first | refine xA ?_ | refine xB ?_ | refine xC ?_ | refine xD ?_ | refine xH ?_ | refine xI rfl ?_ | refine xE ?_ | refine xF ?_ | refine xG ?_) | go_values | go_skip | go_guarded | go_step | go_upon | go_back | ((with_reducible show Oper.upon _ _ _ _ _ _); go_simp) | (dsimp only)))
        go_ret
        exact ⟨⟨_, rfl, .inl ⟨k, rfl, by rw [← Hxy.out]; exact Hy.out⟩⟩, below_drewN hbw _⟩
      · have hxq : ∀ w, (binOp .eql 49 (.agg #[.int .i64 y0, .int .i64 y1, .int .u64 y2, .int .i64 y3, .int .i64 y4, .int .i64 y5]) (.agg #[.int .i64 x0, .int .i64 x1, .int .u64 x2, .int .i64 x3, .int .i64 x4, .int .i64 x5])).run Tryz.prog w = .ok (.bool false) w := fun w => by rw [eq_nd, decide_eq_false hxy]
        have Hxy := Lib.hid hxy
        clear hxy
        (repeat (first | (with_reducible first | refine xA ?_ | refine xB ?_ | refine xC ?_ | refine xD ?_ | refine xH ?_ | refine xI rfl ?_ | refine xE ?_ | refine xF ?_ | refine xG ?_) | go_values | go_skip | go_guarded | go_step | go_upon | go_back | ((with_reducible show Oper.upon _ _ _ _ _ _); go_simp) | (dsimp only)))
        go_quiet (fail)
        (repeat (first | (with_reducible first | refine xA ?_ | refine xB ?_ | refine xC ?_ | refine xD ?_ | refine xH ?_ | refine xI rfl ?_ | refine xE ?_ | refine xF ?_ | refine xG ?_) | go_values | go_skip | go_guarded | go_step | go_upon | go_back | ((with_reducible show Oper.upon _ _ _ _ _ _); go_simp) | (dsimp only)))
        refine ⟨⟨k + 1, by omega, by go_num, Lib.hid (fun j y hj hy => ?_), below_drewN HB _⟩, by simp [intOf]; omega⟩
        rcases Nat.lt_or_ge j k with h | h
        · exact HA.out j y h hy
        · obtain rfl : j = k := by omega
          rw [Hy.out] at hy
          injection hy with hy
          rw [← hy]
          exact Hxy.out
    · obtain rfl : k = ls.length := by omega
      (repeat (first | (with_reducible first | refine xA ?_ | refine xB ?_ | refine xC ?_ | refine xD ?_ | refine xH ?_ | refine xI rfl ?_ | refine xE ?_ | refine xF ?_ | refine xG ?_) | go_values | go_skip | go_guarded | go_step | go_upon | go_back | ((with_reducible show Oper.upon _ _ _ _ _ _); go_simp) | (dsimp only)))
      go_ret
      refine ⟨⟨_, rfl, .inr ⟨rfl, fun hm => ?_⟩⟩, hbw⟩
      obtain ⟨j, hj⟩ := List.mem_iff_getElem?.1 hm
      exact HA.out j _ (List.getElem?_eq_some_iff.1 hj).1 hj rfl
end Go.Proofs.YtmaogkgjiplckaaGreat
namespace Go.Proofs.YtmaogkgjiplckaaGreat
open Go.RowKit
theorem sizeNd : (Tryz.prog.info? 49).map (·.size) = some 6 := by kernel_rfl
section
variable {ops : Array Oper} {rest : List Oper} {o : Oper} {a : Act} {w : World} {Q : Exit → Act → World → Prop}
theorem wl_setC (hgd : o.guard = none) (x y : Operand) (ho : o.op = .store 3 x y) (g i : Nat) (hx : a.eval x = .pointer (some ⟨g, i, none⟩)) (cs : Array Value) (t : TypeId) {u : Int} (hy : a.eval y = .int .i64 u) (hg : w.heap[g]? = some (.cells cs t (0, 0))) (hi : i < cs.size)
    (h : ∀ w', w'.heap[g]? = some (.cells (cs.setIfInBounds i (.int .i64 u)) t (0, 0)) → w.grownBy w' (some g) → wpList Tryz.prog ops Q rest (a.put o.dst undef) w') : wpList Tryz.prog ops Q (o :: rest) a w :=
  wpList_plain hgd fun _ hK => by
    have hc : w.cell? ⟨g, i, none⟩ = some cs[i] := by rw [cell_of_row w g i cs t _ hg]; simp [hi]
    have hf := frozen_of_row w g i cs t hg
    have hst : (Instr.storeAt 3 (.pointer (some ⟨g, i, none⟩)) (.int .i64 u)).run Tryz.prog w = .ok () (w.setCell ⟨g, i, none⟩ (.int .i64 u)) := by go_simp
    unfold Oper.wp execOp
    simp only [ho, hx, hy, Sem.run_bind, hst, Result.andThen_ok]
    exact hK _ _ (h _ (heap_setCell_same w g i cs t _ hg) ⟨rfl, rfl, rfl, by simp, fun k hk hn => heap_setCell_other w _ k _ (fun e => hn (by rw [e]))⟩)
end
def kdK (has j : Nat) (K : Int) (tm : List Int) : Int := if j < has then tm.getD K.toNat 0 else K
set_option maxRecDepth 100000 in
set_option maxHeartbeats 4000000 in
theorem rtold_any (op W n k0 k1 k2 : Int) (v : Value) (tm : List Int) (w : World) (h : SlX (fun _ => True) w v tm) (ho : 0 ≤ op ∧ op ≤ 24) (hll : tm.length ≤ 1000000) (K : Nat) (hK : kidsI op = K) (hK3 : K ≤ 3)
    (g0 : 0 < K → ∃ a : Nat, k0 = a ∧ a < tm.length) (g1 : 1 < K → ∃ a : Nat, k1 = a ∧ a < tm.length) (g2 : 2 < K → ∃ a : Nat, k2 = a ∧ a < tm.length) :
    Calls Tryz.prog 40 #[.agg #[.int .i64 op, .int .i64 W, .int .u64 n, .int .i64 k0, .int .i64 k1, .int .i64 k2], v] w fun e w' => e = .returned (.agg #[.int .i64 op, .int .i64 W, .int .u64 n, .int .i64 (kdK K 0 k0 tm), .int .i64 (kdK K 1 k1 tm), .int .i64 (kdK K 2 k2 tm)]) ∧ Below w.heap.size w w' := by
  obtain ⟨ao, cap, rfl, hcap, -, hrow⟩ := h
  have HROW := Lib.hid hrow
  have HK := Lib.hid hK
  have HOP := Lib.hid ho
  have HG0 := Lib.hid g0
  have HG1 := Lib.hid g1
  have HG2 := Lib.hid g2
  have hlI : (tm.length : Int) ≤ 1000000 := by omega
  have hK3' : (K : Int) ≤ 3 := by omega
  clear hrow hcap hll hK ho g0 g1 g2
  go_enter Tryz.func40, Tryz.ntmps40
  (repeat (first | (with_reducible first | refine xA ?_ | refine xB ?_ | refine xC ?_ | refine xD ?_ | refine xH ?_ | refine xI rfl ?_ | refine xE ?_ | refine xF ?_ | refine xG ?_) | go_values | go_skip | go_guarded | go_step | go_upon | go_back | ((with_reducible show Oper.upon _ _ _ _ _ _); go_simp) | (dsimp only)))
  refine wp_abs (fun u => Below w.heap.size w u ∧ u.heap[w.heap.size]? = some (.cells #[.int .i64 op, .int .i64 W, .int .u64 n, .int .i64 k0, .int .i64 k1, .int .i64 k2] 49 (0, 0)) ∧ u.heap[w.heap.size + 1]? = some (.cells #[.int .i64 0, .int .i64 0, .int .u64 0, .int .i64 0, .int .i64 0, .int .i64 0] 49 (0, 0))) ⟨by (repeat (first | with_reducible exact Below.refl _ _ | assumption | with_reducible refine below_drewN ?_ _ | with_reducible refine Below.drew ?_ | with_reducible refine Below.setRow ?_ ?_ _ | with_reducible refine Below.alloc ?_ ?_ _ | with_reducible refine Below.setCell ?_ ?_ _ | with_reducible exact Nat.le_refl _ | (focus (simp; done)) | (focus (simp; omega)) | omega)), (heap_alloc_old _ _ (by simp)).trans (heap_alloc_new w _), by simpa using heap_alloc_new (w.alloc (.cells #[.int .i64 op, .int .i64 W, .int .u64 n, .int .i64 k0, .int .i64 k1, .int .i64 k2] 49)) (.cells #[.int .i64 0, .int .i64 0, .int .u64 0, .int .i64 0, .int .i64 0, .int .i64 0] 49)⟩ ?_
  rintro w1 ⟨hb1, hx1, hy1⟩
  go_loopw [5] (fun i wr => ∃ k : Nat, k ≤ K ∧ i = .int .i64 k ∧ Hid (wr.heap[w.heap.size]? = some (.cells #[.int .i64 op, .int .i64 W, .int .u64 n, .int .i64 (kdK k 0 k0 tm), .int .i64 (kdK k 1 k1 tm), .int .i64 (kdK k 2 k2 tm)] 49 (0, 0))) ∧ Hid (wr.heap[w.heap.size + 1]? = some (.cells #[.int .i64 0, .int .i64 0, .int .u64 0, .int .i64 0, .int .i64 0, .int .i64 0] 49 (0, 0))) ∧ Below w.heap.size w wr) (fun i _ => K - (intOf i).toNat)
  case atStart => exact ⟨0, Nat.zero_le _, rfl, Lib.hid hx1, Lib.hid hy1, hb1⟩
  case round =>
    clear hb1 hx1 hy1
    obtain ⟨k, hk, rfl, HX, HY, HB⟩ := hrel
    have hcop : wr.cell? ⟨w.heap.size, 0, none⟩ = some (.int .i64 op) := (cell_of_row wr w.heap.size 0 _ _ _ HX.out).trans rfl
    rcases Nat.lt_or_ge k K with hlt | hge
    · have hk012 : k = 0 ∨ k = 1 ∨ k = 2 := by omega
      rcases hk012 with rfl | rfl | rfl
      · obtain ⟨a, rfl, ha⟩ := HG0.out (by omega)
        obtain ⟨b, o, rfl, -, hbl, HR⟩ := HROW.out (by intro e; rw [e] at ha; simp at ha)
        obtain ⟨x, hx⟩ : ∃ x, tm[a]? = some x := ⟨_, List.getElem?_eq_getElem ha⟩
        have hcx := cell_keep HB (HR a x hx)
        have e0 : (0 : Int) ≤ (a : Int) := by omega
        have e1 : (a : Int) < (tm.length : Int) := by omega
        have e2 : ((0 : Nat) : Int) < (K : Int) := by omega
        have e3 : (0 : Int) < (K : Int) := by omega
        have HVL : Hid (tm[a]?.getD 0 = x) := Lib.hid (by rw [hx]; rfl)
        obtain ⟨y0, hy0⟩ : ∃ y0 : Int, (a : Int) = y0 := ⟨_, rfl⟩
        obtain ⟨y1, hy1⟩ : ∃ y1 : Int, k1 = y1 := ⟨_, rfl⟩
        obtain ⟨y2, hy2⟩ : ∃ y2 : Int, k2 = y2 := ⟨_, rfl⟩
        have hX : wr.heap[w.heap.size]? = some (.cells #[.int .i64 op, .int .i64 W, .int .u64 n, .int .i64 y0, .int .i64 y1, .int .i64 y2] 49 (0, 0)) := by
          rw [← hy0, ← hy1, ← hy2]
          exact HX.out
        have hck : wr.cell? ⟨w.heap.size, 3, none⟩ = some (.int .i64 a) := (cell_of_row wr w.heap.size 3 _ _ _ hX).trans (by rw [← hy0]; rfl)
        have HYS := Lib.hid (And.intro hy0 (And.intro hy1 hy2))
        clear hx HR hy0 hy1 hy2
        (repeat (first | (with_reducible first | refine xA ?_ | refine xB ?_ | refine xC ?_ | refine xD ?_ | refine xH ?_ | refine xI rfl ?_ | refine xE ?_ | refine xF ?_ | refine xG ?_) | go_skip | go_guarded | (go_at_call 41; (with_reducible refine (rkids_anyX op _ _ HK.out HOP.out).mono ?_); rintro _ w2 ⟨rfl, rfl⟩) | ((with_reducible refine wl_id ?_); refine wl_setC (u := x) rfl _ _ rfl w.heap.size _ rfl #[.int .i64 op, .int .i64 W, .int .u64 n, .int .i64 y0, .int .i64 y1, .int .i64 y2] 49 rfl hX (by simp) ?_; intro w3 hX3 hg3; (try simp only [Act.put, qz4, qz5, qz6])) | go_values | go_skip | go_guarded | go_step | go_upon | go_back | ((with_reducible show Oper.upon _ _ _ _ _ _); go_simp) | (dsimp only)))
        simp only [qz4, qz5, qz6] at hX3
        refine ⟨⟨1, by omega, rfl, Lib.hid ?_, Lib.hid (keep_at hg3 HY.out (fun e => by injection e with e; omega)), below_grown HB hg3 (fun k e => by injection e with e; omega)⟩, by simp [intOf]; omega⟩
        obtain ⟨h0, h1, h2⟩ := HYS.out
        rw [hX3]
        simp [kdK, ← h0, ← h1, ← h2, HVL.out]
      · obtain ⟨a, rfl, ha⟩ := HG1.out (by omega)
        obtain ⟨b, o, rfl, -, hbl, HR⟩ := HROW.out (by intro e; rw [e] at ha; simp at ha)
        obtain ⟨x, hx⟩ : ∃ x, tm[a]? = some x := ⟨_, List.getElem?_eq_getElem ha⟩
        have hcx := cell_keep HB (HR a x hx)
        have e0 : (0 : Int) ≤ (a : Int) := by omega
        have e1 : (a : Int) < (tm.length : Int) := by omega
        have e2 : ((1 : Nat) : Int) < (K : Int) := by omega
        have e3 : (1 : Int) < (K : Int) := by omega
        have HVL : Hid (tm[a]?.getD 0 = x) := Lib.hid (by rw [hx]; rfl)
        obtain ⟨y0, hy0⟩ : ∃ y0 : Int, kdK 1 0 k0 tm = y0 := ⟨_, rfl⟩
        obtain ⟨y1, hy1⟩ : ∃ y1 : Int, (a : Int) = y1 := ⟨_, rfl⟩
        obtain ⟨y2, hy2⟩ : ∃ y2 : Int, k2 = y2 := ⟨_, rfl⟩
        have hX : wr.heap[w.heap.size]? = some (.cells #[.int .i64 op, .int .i64 W, .int .u64 n, .int .i64 y0, .int .i64 y1, .int .i64 y2] 49 (0, 0)) := by
          rw [← hy0, ← hy1, ← hy2]
          exact HX.out
        have hck : wr.cell? ⟨w.heap.size, 4, none⟩ = some (.int .i64 a) := (cell_of_row wr w.heap.size 4 _ _ _ hX).trans (by rw [← hy1]; rfl)
        have HYS := Lib.hid (And.intro hy0 (And.intro hy1 hy2))
        clear hx HR hy0 hy1 hy2
        (repeat (first | (with_reducible first | refine xA ?_ | refine xB ?_ | refine xC ?_ | refine xD ?_ | refine xH ?_ | refine xI rfl ?_ | refine xE ?_ | refine xF ?_ | refine xG ?_) | go_skip | go_guarded | (go_at_call 41; (with_reducible refine (rkids_anyX op _ _ HK.out HOP.out).mono ?_); rintro _ w2 ⟨rfl, rfl⟩) | ((with_reducible refine wl_id ?_); refine wl_setC (u := x) rfl _ _ rfl w.heap.size _ rfl #[.int .i64 op, .int .i64 W, .int .u64 n, .int .i64 y0, .int .i64 y1, .int .i64 y2] 49 rfl hX (by simp) ?_; intro w3 hX3 hg3; (try simp only [Act.put, qz4, qz5, qz6])) | go_values | go_skip | go_guarded | go_step | go_upon | go_back | ((with_reducible show Oper.upon _ _ _ _ _ _); go_simp) | (dsimp only)))
        simp only [qz4, qz5, qz6] at hX3
        refine ⟨⟨2, by omega, rfl, Lib.hid ?_, Lib.hid (keep_at hg3 HY.out (fun e => by injection e with e; omega)), below_grown HB hg3 (fun k e => by injection e with e; omega)⟩, by simp [intOf]; omega⟩
        obtain ⟨h0, h1, h2⟩ := HYS.out
        rw [hX3]
        simp [kdK, ← h0, ← h1, ← h2, HVL.out]
      · obtain ⟨a, rfl, ha⟩ := HG2.out (by omega)
        obtain ⟨b, o, rfl, -, hbl, HR⟩ := HROW.out (by intro e; rw [e] at ha; simp at ha)
        obtain ⟨x, hx⟩ : ∃ x, tm[a]? = some x := ⟨_, List.getElem?_eq_getElem ha⟩
        have hcx := cell_keep HB (HR a x hx)
        have e0 : (0 : Int) ≤ (a : Int) := by omega
        have e1 : (a : Int) < (tm.length : Int) := by omega
        have e2 : ((2 : Nat) : Int) < (K : Int) := by omega
        have e3 : (2 : Int) < (K : Int) := by omega
        have HVL : Hid (tm[a]?.getD 0 = x) := Lib.hid (by rw [hx]; rfl)
        obtain ⟨y0, hy0⟩ : ∃ y0 : Int, kdK 2 0 k0 tm = y0 := ⟨_, rfl⟩
        obtain ⟨y1, hy1⟩ : ∃ y1 : Int, kdK 2 1 k1 tm = y1 := ⟨_, rfl⟩
        obtain ⟨y2, hy2⟩ : ∃ y2 : Int, (a : Int) = y2 := ⟨_, rfl⟩
        have hX : wr.heap[w.heap.size]? = some (.cells #[.int .i64 op, .int .i64 W, .int .u64 n, .int .i64 y0, .int .i64 y1, .int .i64 y2] 49 (0, 0)) := by
          rw [← hy0, ← hy1, ← hy2]
          exact HX.out
        have hck : wr.cell? ⟨w.heap.size, 5, none⟩ = some (.int .i64 a) := (cell_of_row wr w.heap.size 5 _ _ _ hX).trans (by rw [← hy2]; rfl)
        have HYS := Lib.hid (And.intro hy0 (And.intro hy1 hy2))
        clear hx HR hy0 hy1 hy2
        (repeat (first | (with_reducible first | refine xA ?_ | refine xB ?_ | refine xC ?_ | refine xD ?_ | refine xH ?_ | refine xI rfl ?_ | refine xE ?_ | refine xF ?_ | refine xG ?_) | go_skip | go_guarded | (go_at_call 41; (with_reducible refine (rkids_anyX op _ _ HK.out HOP.out).mono ?_); rintro _ w2 ⟨rfl, rfl⟩) | ((with_reducible refine wl_id ?_); refine wl_setC (u := x) rfl _ _ rfl w.heap.size _ rfl #[.int .i64 op, .int .i64 W, .int .u64 n, .int .i64 y0, .int .i64 y1, .int .i64 y2] 49 rfl hX (by simp) ?_; intro w3 hX3 hg3; (try simp only [Act.put, qz4, qz5, qz6])) | go_values | go_skip | go_guarded | go_step | go_upon | go_back | ((with_reducible show Oper.upon _ _ _ _ _ _); go_simp) | (dsimp only)))
        simp only [qz4, qz5, qz6] at hX3
        refine ⟨⟨3, by omega, rfl, Lib.hid ?_, Lib.hid (keep_at hg3 HY.out (fun e => by injection e with e; omega)), below_grown HB hg3 (fun k e => by injection e with e; omega)⟩, by simp [intOf]; omega⟩
        obtain ⟨h0, h1, h2⟩ := HYS.out
        rw [hX3]
        simp [kdK, ← h0, ← h1, ← h2, HVL.out]
    · obtain rfl : k = K := by omega
      have hX := HX.out
      have hY := HY.out
      have hkn : ¬ ((k : Int) < (k : Int)) := by omega
      obtain ⟨y0, hy0⟩ : ∃ y0 : Int, kdK k 0 k0 tm = y0 := ⟨_, rfl⟩
      obtain ⟨y1, hy1⟩ : ∃ y1 : Int, kdK k 1 k1 tm = y1 := ⟨_, rfl⟩
      obtain ⟨y2, hy2⟩ : ∃ y2 : Int, kdK k 2 k2 tm = y2 := ⟨_, rfl⟩
      rw [hy0, hy1, hy2] at hX
      have HYS := Lib.hid (And.intro hy0 (And.intro hy1 hy2))
      clear hy0 hy1 hy2
      (repeat (first | (with_reducible first | refine xA ?_ | refine xB ?_ | refine xC ?_ | refine xD ?_ | refine xH ?_ | refine xI rfl ?_ | refine xE ?_ | refine xF ?_ | refine xG ?_) | go_skip | go_guarded | (go_at_call 41; (with_reducible refine (rkids_anyX op _ _ HK.out HOP.out).mono ?_); rintro _ w2 ⟨rfl, rfl⟩) | ((with_reducible refine wl_id ?_); refine wpList_load_row rfl 49 _ rfl _ rfl 49 _ (0, 0) _ hX Tryz.underlying49 rfl sizeNd ?_; (try simp only [Act.put, qz4, qz5, qz6])) | ((with_reducible refine wl_id ?_); refine wl_strow rfl 49 _ _ rfl (w.heap.size + 1) _ rfl rfl 49 _ hY sizeNd rfl (by simp [Value.oneCell']) ?_; intro w4 hh4 hg4; (try simp only [Act.put, qz4, qz5, qz6])) | go_values | go_skip | go_guarded | go_step | go_upon | go_back | ((with_reducible show Oper.upon _ _ _ _ _ _); go_simp) | (dsimp only)))
      refine bodyPost_ret (results_cell_row rfl _ _ _ 49 _ (0, 0) _ rfl hh4 Tryz.underlying49 rfl sizeNd) rfl ⟨?_, ?_⟩
      · obtain ⟨h0, h1, h2⟩ := HYS.out
        rw [h0, h1, h2]
      exact below_grown HB hg4 (fun k e => by injection e with e; omega)
end Go.Proofs.YtmaogkgjiplckaaGreat
namespace Go.Proofs.YtmaogkgjiplckaaGreat
open Go.RowKit
set_option maxRecDepth 100000 in
set_option maxHeartbeats 2000000 in
theorem make_hit (v : Value) (A : List Nd) (x0 x1 x2 x3 x4 x5 : Int) (w : World) (h : SlIs 6 Nd.cells w v A) (hll : A.length ≤ 1000000) (hm : (⟨x0, x1, x2, x3, x4, x5⟩ : Nd) ∈ A) :
    Calls Tryz.prog 39 #[v, .agg #[.int .i64 x0, .int .i64 x1, .int .u64 x2, .int .i64 x3, .int .i64 x4, .int .i64 x5]] w fun e w' => (∃ p : Nat, e = .returned (.tuple #[v, .int .i64 p, .int .i64 0]) ∧ A[p]? = some ⟨x0, x1, x2, x3, x4, x5⟩) ∧ Below w.heap.size w w' := by
  have HF : Hid (∀ u : World, Below w.heap.size w u → Calls Tryz.prog 57 #[v, .agg #[.int .i64 x0, .int .i64 x1, .int .u64 x2, .int .i64 x3, .int .i64 x4, .int .i64 x5]] u fun e w' => (∃ r, e = .returned (.int .i64 r) ∧ placeOf A ⟨x0, x1, x2, x3, x4, x5⟩ r) ∧ Below u.heap.size u w') := Lib.hid (fun u hb => find_any v A x0 x1 x2 x3 x4 x5 u (h.below hb) hll)
  have HM := Lib.hid hm
  clear h hll hm
  have hX := heap_alloc_new w (.cells #[.int .i64 x0, .int .i64 x1, .int .u64 x2, .int .i64 x3, .int .i64 x4, .int .i64 x5] 49)
  have hb1 := Below.alloc (Below.refl w.heap.size w) (Nat.le_refl _) (.cells #[.int .i64 x0, .int .i64 x1, .int .u64 x2, .int .i64 x3, .int .i64 x4, .int .i64 x5] 49)
  go_enter Tryz.func39, Tryz.ntmps39
  (repeat (first | (with_reducible first | refine xA ?_ | refine xB ?_ | refine xC ?_ | refine xD ?_ | refine xH ?_ | refine xI rfl ?_ | refine xE ?_ | refine xF ?_ | refine xG ?_) | go_skip | go_guarded | ((with_reducible refine wl_id ?_); refine wpList_load_row rfl 49 _ rfl _ rfl 49 _ (0, 0) _ hX Tryz.underlying49 rfl sizeNd ?_; (try simp only [Act.put, qz4, qz5, qz6])) | (go_at_call 57; (with_reducible refine (HF.out _ hb1).mono ?_); rintro _ w2 ⟨⟨r, rfl, hr⟩, hb2⟩; (obtain ⟨p, rfl, hp⟩ := hr.resolve_right (fun h => h.2 HM.out)); have hp0 : (0 : Int) ≤ (p : Int) := (by omega); have HP := Lib.hid hp; have HB2 := Lib.hid (hb1.trans (hb2.mono hb1.size)); clear hp hr hb2) | go_values | go_skip | go_guarded | go_step | go_upon | go_back | ((with_reducible show Oper.upon _ _ _ _ _ _); go_simp) | (dsimp only)))
  go_ret3
  exact ⟨⟨p, rfl, HP.out⟩, HB2.out⟩
theorem owns_low {w : World} {B B' T s n : Nat} {v : Value} {l : List Value} (h : w.ownsRow B T s v n l) (hB : B' ≤ B) : w.ownsRow B' T s v n l := by
  rcases h with ⟨b2, hr⟩
  refine ⟨b2, ?_⟩
  rcases hr with h | ⟨g, cap, cur, e, hb, r⟩
  · exact .inl h
  · exact .inr ⟨g, cap, cur, e, Nat.le_trans hB hb, r⟩
theorem ldNdr (u : World) (b : Nat) (x : Array Value) (h : u.heap[b]? = some (.cells x 49 (0, 0))) (hx : x.size = 6 := by rfl) : (Instr.loadAt 49 (.pointer (some ⟨b, 0, none⟩))).run Tryz.prog u = .ok (.agg x) u := by
  have e := run_loadVar_row u b 49 49 _ (0, 0) _ h Tryz.underlying49 rfl (by rw [hx]; exact sizeNd)
  simp only [Instr.loadAt, Instr.sureAddr, Sem.run_bind, Sem.run_pure, Result.andThen_ok]
  exact e
theorem one_nd (u : World) (nb : Nat) (x0 x1 x2 x3 x4 x5 : Int) (h : u.heap[nb]? = some (.cells #[.int .i64 x0, .int .i64 x1, .int .u64 x2, .int .i64 x3, .int .i64 x4, .int .i64 x5] 49 (0, 0))) : SlIs 6 Nd.cells u (.slice (some ⟨nb, 0, none⟩) 1 1) [⟨x0, x1, x2, x3, x4, x5⟩] := by
  refine ⟨_, 1, rfl, Nat.le_refl _, by simp, fun _ => ⟨nb, 0, rfl, fun i d hi j c hj => ?_⟩⟩
  rcases i with _ | i
  · simp only [List.getElem?_cons_zero, Option.some.injEq] at hi
    subst hi
    rw [Nat.mul_zero, Nat.zero_add, Nat.zero_add, cell_of_row u nb j _ _ _ h, List.getElem?_toArray]
    exact hj
  · simp at hi
set_option maxRecDepth 100000 in
set_option maxHeartbeats 4000000 in
theorem make_miss (v : Value) (A : List Nd) (x0 x1 x2 x3 x4 x5 : Int) (w : World) (h : SlIs 6 Nd.cells w v A) (hll : A.length ≤ 1000) (hm : (⟨x0, x1, x2, x3, x4, x5⟩ : Nd) ∉ A) (hn : 0 ≤ x2 ∧ x2 < 18446744073709551616) (hw : ∀ d ∈ A, 0 ≤ d.w) (hE : rightE ⟨x0, x1, x2, x3, x4, x5⟩ A = 0) :
    Calls Tryz.prog 39 #[v, .agg #[.int .i64 x0, .int .i64 x1, .int .u64 x2, .int .i64 x3, .int .i64 x4, .int .i64 x5]] w fun e w' => (∃ v', e = .returned (.tuple #[v', .int .i64 (A.length : Nat), .int .i64 0]) ∧ OwnN w' w.heap.size v' (A ++ [⟨x0, x1, x2, x3, x4, x5⟩])) ∧ Below w.heap.size w w' := by
  have HF : Hid (∀ u : World, Below w.heap.size w u → Calls Tryz.prog 57 #[v, .agg #[.int .i64 x0, .int .i64 x1, .int .u64 x2, .int .i64 x3, .int .i64 x4, .int .i64 x5]] u fun e w' => (∃ r, e = .returned (.int .i64 r) ∧ placeOf A ⟨x0, x1, x2, x3, x4, x5⟩ r) ∧ Below u.heap.size u w') := Lib.hid (fun u hb => find_any v A x0 x1 x2 x3 x4 x5 u (h.below hb) (by omega))
  have HR : Hid (∀ u : World, Below w.heap.size w u → Calls Tryz.prog 51 #[.agg #[.int .i64 x0, .int .i64 x1, .int .u64 x2, .int .i64 x3, .int .i64 x4, .int .i64 x5], v] u fun e w' => e = .returned (.int .i64 0) ∧ Below u.heap.size u w') := Lib.hid (fun u hb => by rw [← hE]; exact right50_any x0 x1 x2 x3 x4 x5 v A u (h.below hb) hn.1 hn.2 hw)
  have HM := Lib.hid hm
  have HSL := Lib.hid h
  have hnl : ¬ (65536 ≤ (A.length : Int)) := by omega
  have HLI := Lib.hid (show (A.length : Int) ≤ 1000 by omega)
  have HLN := Lib.hid hll
  obtain ⟨ao, cap, rfl, -⟩ := h
  clear hll hm hn hw hE
  have hX := heap_alloc_new w (.cells #[.int .i64 x0, .int .i64 x1, .int .u64 x2, .int .i64 x3, .int .i64 x4, .int .i64 x5] 49)
  have hb1 := Below.alloc (Below.refl w.heap.size w) (Nat.le_refl _) (.cells #[.int .i64 x0, .int .i64 x1, .int .u64 x2, .int .i64 x3, .int .i64 x4, .int .i64 x5] 49)
  go_enter Tryz.func39, Tryz.ntmps39
  (repeat (first | (with_reducible first | refine xA ?_ | refine xB ?_ | refine xC ?_ | refine xD ?_ | refine xH ?_ | refine xI rfl ?_ | refine xE ?_ | refine xF ?_ | refine xG ?_) | go_skip | go_guarded | ((with_reducible refine wl_id ?_); refine wpList_load_row rfl 49 _ rfl _ rfl 49 _ (0, 0) _ hX Tryz.underlying49 rfl sizeNd ?_; (try simp only [Act.put, qz4, qz5, qz6])) | (go_at_call 57; (with_reducible refine (HF.out _ hb1).mono ?_); rintro _ w2 ⟨⟨r, rfl, hr⟩, hb2⟩; (obtain ⟨rfl, -⟩ := hr.resolve_left (fun ⟨p, _, hp⟩ => HM.out (List.mem_of_getElem? hp))); have HB2 := Lib.hid (hb1.trans (hb2.mono hb1.size)); have hX2 := (hb2.block _ (lt_of_block hX)).trans hX; clear hb2; have hb2 := HB2.out) | ((with_reducible refine wl_id ?_); refine wpList_load_row rfl 49 _ rfl _ rfl 49 _ (0, 0) _ hX2 Tryz.underlying49 rfl sizeNd ?_; (try simp only [Act.put, qz4, qz5, qz6])) | (go_at_call 51; (with_reducible refine (HR.out _ hb2).mono ?_); rintro _ w3 ⟨rfl, hb3⟩; have HB3 := Lib.hid (hb2.trans (hb3.mono hb2.size)); have hX3 := (hb3.block _ (lt_of_block hX2)).trans hX2; clear hb3) | go_values | go_skip | go_guarded | go_step | go_upon | go_back | ((with_reducible show Oper.upon _ _ _ _ _ _); go_simp) | (dsimp only)))
  refine wp_region_held (S := fun u => Below w.heap.size w u ∧ u.heap[w.heap.size]? = some (.cells #[.int .i64 x0, .int .i64 x1, .int .u64 x2, .int .i64 x3, .int .i64 x4, .int .i64 x5] 49 (0, 0))) (by kernel_rfl) ?_
  have HSC : (fun u => Below w.heap.size w u ∧ u.heap[w.heap.size]? = some (.cells #[.int .i64 x0, .int .i64 x1, .int .u64 x2, .int .i64 x3, .int .i64 x4, .int .i64 x5] 49 (0, 0))) ({ w3 with drawn := w3.drawn + 1 } : World) := ⟨HB3.out.trans ⟨rfl, rfl, rfl, Nat.le_refl _, fun _ _ => rfl⟩, hX3⟩
  clear HB3 hX3 HB2 hX2 hb2 hX hb1 HF HR
  generalize ({ w3 with drawn := w3.drawn + 1 } : World) = u0 at *
  (refine wpAnyH_take (i := 1) (v := .slice ao A.length cap) rfl (by kernel_rfl) (by kernel_rfl) (by kernel_rfl) (fun _ _ _ h => h) (Or.inl ⟨rfl, fun w _ => by go_simp⟩) HSC ?_; simp only [Act.put, qz1, qz2, qz3, qz4, qz5, qz6])
  (refine wpAnyH_take (i := 3) (v := .agg #[.int .i64 x0, .int .i64 x1, .int .u64 x2, .int .i64 x3, .int .i64 x4, .int .i64 x5]) rfl (by kernel_rfl) (by kernel_rfl) (by kernel_rfl) (fun _ _ _ h => h) (Or.inl ⟨rfl, fun w hw => take_ld rfl rfl (ldNdr w _ _ hw.2)⟩) HSC ?_; simp only [Act.put, qz1, qz2, qz3, qz4, qz5, qz6])
  (refine wpAnyH_take (i := 6) (v := .slice ao A.length cap) rfl (by kernel_rfl) (by kernel_rfl) (by kernel_rfl) (fun _ _ _ h => h) (Or.inl ⟨rfl, fun w _ => by go_simp⟩) HSC ?_; simp only [Act.put, qz1, qz2, qz3, qz4, qz5, qz6])
  (refine wpAnyH_take (i := 7) (v := .int .i64 A.length) rfl (by kernel_rfl) (by kernel_rfl) (by kernel_rfl) (fun _ _ _ h => h) (Or.inl ⟨rfl, fun w _ => by go_simp⟩) HSC ?_; simp only [Act.put, qz1, qz2, qz3, qz4, qz5, qz6])
  have HS0 := HSC
  refine wpAnyH_all (rs := [0, 4]) (by kernel_rfl) (by simp) (fun i hi => ?_)
  rcases (by simpa using hi : i = 0 ∨ i = 4) with rfl | rfl
  · refine wpOp_one rfl ?_
    (repeat (first | (with_reducible first | refine xA ?_ | refine xB ?_ | refine xC ?_ | refine xD ?_ | refine xH ?_ | refine xI rfl ?_ | refine xE ?_ | refine xF ?_ | refine xG ?_) | go_values | go_skip | go_guarded | go_step | go_upon | go_back | ((with_reducible show Oper.upon _ _ _ _ _ _); go_simp) | (dsimp only)))
    have HS1 : (fun u => Below w.heap.size w u ∧ u.heap[w.heap.size]? = some (.cells #[.int .i64 x0, .int .i64 x1, .int .u64 x2, .int .i64 x3, .int .i64 x4, .int .i64 x5] 49 (0, 0))) (u0.alloc (.cells #[] 49)) := ⟨Below.alloc HS0.1 HS0.1.size _, (heap_alloc_old u0 _ (lt_of_block HS0.2)).trans HS0.2⟩
    have HE1 := OwnN.new u0 (w.heap.size + 1) (lt_of_block HS0.2)
    obtain ⟨eb, heb⟩ : ∃ eb, u0.heap.size = eb := ⟨_, rfl⟩
    rw [heb] at HE1 ⊢
    refine ⟨HS1, ?_⟩
    generalize u0.alloc (.cells #[] 49) = u1 at *
    refine wpAnyH_all (rs := [2, 4]) (by kernel_rfl) (by simp) (fun i hi => ?_)
    rcases (by simpa using hi : i = 2 ∨ i = 4) with rfl | rfl
    · refine wpOp_one rfl ?_
      (repeat (first | (with_reducible first | refine xA ?_ | refine xB ?_ | refine xC ?_ | refine xD ?_ | refine xH ?_ | refine xI rfl ?_ | refine xE ?_ | refine xF ?_ | refine xG ?_) | go_skip | go_guarded | ((with_reducible refine wl_id ?_); refine wl_appendN rfl _ _ rfl (w.heap.size + 1) _ [] rfl HE1 _ A rfl (HSL.out.below HS1.1) (by have := HLN.out; simp; omega) (lt_of_block HS1.2) ?_; intro vc u2 hC hg hl; (try simp only [Act.put, qz4, qz5, qz6])) | go_values | go_skip | go_guarded | go_step | go_upon | go_back | ((with_reducible show Oper.upon _ _ _ _ _ _); go_simp) | (dsimp only)))
      simp only [List.nil_append] at hC
      have HS2 : (fun u => Below w.heap.size w u ∧ u.heap[w.heap.size]? = some (.cells #[.int .i64 x0, .int .i64 x1, .int .u64 x2, .int .i64 x3, .int .i64 x4, .int .i64 x5] 49 (0, 0))) u2 := ⟨below_grown HS1.1 hg (fun k e => Nat.le_of_succ_le (World.ownsRow.lt HE1 k e).1), keep_at hg HS1.2 (fun e => by have := (World.ownsRow.lt HE1 _ e.symm).1; omega)⟩
      obtain ⟨ac, cc, rfl, -⟩ := hC.sl
      have HC2 : OwnN u2 (w.heap.size + 1) (.slice ac A.length cc) A := hC
      refine ⟨HS2, ?_⟩
      refine wpAnyH_all (rs := [4]) (by kernel_rfl) (by simp) (fun i hi => ?_)
      obtain rfl : i = 4 := by simpa using hi
      refine wpOp_one rfl ?_
      (repeat (first | (with_reducible first | refine xA ?_ | refine xB ?_ | refine xC ?_ | refine xD ?_ | refine xH ?_ | refine xI rfl ?_ | refine xE ?_ | refine xF ?_ | refine xG ?_) | go_values | go_skip | go_guarded | go_step | go_upon | go_back | ((with_reducible show Oper.upon _ _ _ _ _ _); go_simp) | (dsimp only)))
      have HS3 : (fun u => Below w.heap.size w u ∧ u.heap[w.heap.size]? = some (.cells #[.int .i64 x0, .int .i64 x1, .int .u64 x2, .int .i64 x3, .int .i64 x4, .int .i64 x5] 49 (0, 0))) (u2.alloc (.cells #[.int .i64 x0, .int .i64 x1, .int .u64 x2, .int .i64 x3, .int .i64 x4, .int .i64 x5] 49)) := ⟨Below.alloc HS2.1 HS2.1.size _, (heap_alloc_old u2 _ (lt_of_block HS2.2)).trans HS2.2⟩
      have HN3 := heap_alloc_new u2 (.cells #[.int .i64 x0, .int .i64 x1, .int .u64 x2, .int .i64 x3, .int .i64 x4, .int .i64 x5] 49)
      obtain ⟨nb, hnb⟩ : ∃ nb, u2.heap.size = nb := ⟨_, rfl⟩
      have HC3 := HC2.alloc (.cells #[.int .i64 x0, .int .i64 x1, .int .u64 x2, .int .i64 x3, .int .i64 x4, .int .i64 x5] 49)
      have hnc : ∀ k, (Value.slice ac A.length cc).ownBlock = some k → k < nb := fun k e => by rw [← hnb]; exact (World.ownsRow.lt HC2 k e).2
      rw [hnb] at HN3 ⊢
      refine ⟨HS3, ?_⟩
      generalize u2.alloc (.cells #[.int .i64 x0, .int .i64 x1, .int .u64 x2, .int .i64 x3, .int .i64 x4, .int .i64 x5] 49) = u3 at *
      refine wpAnyH_all (rs := [5]) (by kernel_rfl) (by simp) (fun i hi => ?_)
      obtain rfl : i = 5 := by simpa using hi
      refine wpOp_one rfl ?_
      (repeat (first | (with_reducible first | refine xA ?_ | refine xB ?_ | refine xC ?_ | refine xD ?_ | refine xH ?_ | refine xI rfl ?_ | refine xE ?_ | refine xF ?_ | refine xG ?_) | go_skip | go_guarded | ((with_reducible refine wl_id ?_); refine wl_appendN rfl _ _ rfl (w.heap.size + 1) _ A rfl HC3 _ [⟨x0, x1, x2, x3, x4, x5⟩] rfl (one_nd u3 nb _ _ _ _ _ _ HN3) (by have := HLN.out; simp; omega) (lt_of_block HS3.2) ?_; intro vf u4 hF hgf hlf; (try simp only [Act.put, qz4, qz5, qz6])) | go_values | go_skip | go_guarded | go_step | go_upon | go_back | ((with_reducible show Oper.upon _ _ _ _ _ _); go_simp) | (dsimp only)))
      have HS4 : (fun u => Below w.heap.size w u ∧ u.heap[w.heap.size]? = some (.cells #[.int .i64 x0, .int .i64 x1, .int .u64 x2, .int .i64 x3, .int .i64 x4, .int .i64 x5] 49 (0, 0))) u4 := ⟨below_grown HS3.1 hgf (fun k e => Nat.le_of_succ_le (World.ownsRow.lt HC3 k e).1), keep_at hgf HS3.2 (fun e => by have := (World.ownsRow.lt HC3 _ e.symm).1; omega)⟩
      refine ⟨HS4, ?_⟩
      clear HSC
      have HSC := HS4
      (refine wpAnyH_take (i := 8) (v := vf) rfl (by kernel_rfl) (by kernel_rfl) (by kernel_rfl) (fun _ _ _ h => h) (Or.inl ⟨rfl, fun w _ => by go_simp⟩) HSC ?_; simp only [Act.put, qz1, qz2, qz3, qz4, qz5, qz6])
      (refine wpAnyH_take (i := 9) (v := .int .i64 A.length) rfl (by kernel_rfl) (by kernel_rfl) (by kernel_rfl) (fun _ _ _ h => h) (Or.inl ⟨rfl, fun w _ => by go_simp⟩) HSC ?_; simp only [Act.put, qz1, qz2, qz3, qz4, qz5, qz6])
      (refine wpAnyH_take (i := 10) (v := .int .i64 0) rfl (by kernel_rfl) (by kernel_rfl) (by kernel_rfl) (fun _ _ _ h => h) (Or.inl ⟨rfl, fun w _ => by go_simp⟩) HSC ?_; simp only [Act.put, qz1, qz2, qz3, qz4, qz5, qz6])
      refine wpAnyH_done (by kernel_rfl) ?_ _
      (repeat (first | (with_reducible first | refine xA ?_ | refine xB ?_ | refine xC ?_ | refine xD ?_ | refine xH ?_ | refine xI rfl ?_ | refine xE ?_ | refine xF ?_ | refine xG ?_) | go_values | go_skip | go_guarded | go_step | go_upon | go_back | ((with_reducible show Oper.upon _ _ _ _ _ _); go_simp) | (dsimp only)))
      go_ret3
      exact ⟨⟨_, rfl, owns_low hF (Nat.le_succ _)⟩, HS4.1⟩
    · refine wpOp_one rfl ?_
      (repeat (first | (with_reducible first | refine xA ?_ | refine xB ?_ | refine xC ?_ | refine xD ?_ | refine xH ?_ | refine xI rfl ?_ | refine xE ?_ | refine xF ?_ | refine xG ?_) | go_values | go_skip | go_guarded | go_step | go_upon | go_back | ((with_reducible show Oper.upon _ _ _ _ _ _); go_simp) | (dsimp only)))
      have HS2 : (fun u => Below w.heap.size w u ∧ u.heap[w.heap.size]? = some (.cells #[.int .i64 x0, .int .i64 x1, .int .u64 x2, .int .i64 x3, .int .i64 x4, .int .i64 x5] 49 (0, 0))) (u1.alloc (.cells #[.int .i64 x0, .int .i64 x1, .int .u64 x2, .int .i64 x3, .int .i64 x4, .int .i64 x5] 49)) := ⟨Below.alloc HS1.1 HS1.1.size _, (heap_alloc_old u1 _ (lt_of_block HS1.2)).trans HS1.2⟩
      have HN2 := heap_alloc_new u1 (.cells #[.int .i64 x0, .int .i64 x1, .int .u64 x2, .int .i64 x3, .int .i64 x4, .int .i64 x5] 49)
      obtain ⟨nb, hnb⟩ : ∃ nb, u1.heap.size = nb := ⟨_, rfl⟩
      have HE2 := HE1.alloc (.cells #[.int .i64 x0, .int .i64 x1, .int .u64 x2, .int .i64 x3, .int .i64 x4, .int .i64 x5] 49)
      have hne : eb < nb := by rw [← hnb]; exact (World.ownsRow.lt HE1 eb rfl).2
      rw [hnb] at HN2 ⊢
      refine ⟨HS2, ?_⟩
      generalize u1.alloc (.cells #[.int .i64 x0, .int .i64 x1, .int .u64 x2, .int .i64 x3, .int .i64 x4, .int .i64 x5] 49) = u2 at *
      refine wpAnyH_all (rs := [2]) (by kernel_rfl) (by simp) (fun i hi => ?_)
      obtain rfl : i = 2 := by simpa using hi
      refine wpOp_one rfl ?_
      (repeat (first | (with_reducible first | refine xA ?_ | refine xB ?_ | refine xC ?_ | refine xD ?_ | refine xH ?_ | refine xI rfl ?_ | refine xE ?_ | refine xF ?_ | refine xG ?_) | go_skip | go_guarded | ((with_reducible refine wl_id ?_); refine wl_appendN rfl _ _ rfl (w.heap.size + 1) _ [] rfl HE2 _ A rfl (HSL.out.below HS2.1) (by have := HLN.out; simp; omega) (lt_of_block HS2.2) ?_; intro vc u3 hC hg hl; (try simp only [Act.put, qz4, qz5, qz6])) | go_values | go_skip | go_guarded | go_step | go_upon | go_back | ((with_reducible show Oper.upon _ _ _ _ _ _); go_simp) | (dsimp only)))
      simp only [List.nil_append] at hC
      have HS3 : (fun u => Below w.heap.size w u ∧ u.heap[w.heap.size]? = some (.cells #[.int .i64 x0, .int .i64 x1, .int .u64 x2, .int .i64 x3, .int .i64 x4, .int .i64 x5] 49 (0, 0))) u3 := ⟨below_grown HS2.1 hg (fun k e => Nat.le_of_succ_le (World.ownsRow.lt HE2 k e).1), keep_at hg HS2.2 (fun e => by have := (World.ownsRow.lt HE2 _ e.symm).1; omega)⟩
      have HN3 := keep_at hg HN2 (fun e => by injection e with e; have e : nb = eb := e; omega)
      obtain ⟨ac, cc, rfl, -⟩ := hC.sl
      have hnc : ∀ k, (Value.slice ac A.length cc).ownBlock = some k → k ≠ nb := fun k e => by
        rcases hl with hl | hl
        · rw [hl] at e; injection e with e; have e : eb = k := e; omega
        · rw [hl] at e; injection e with e; have := lt_of_block HN2; omega
      have HC3 : OwnN u3 (w.heap.size + 1) (.slice ac A.length cc) A := hC
      refine ⟨HS3, ?_⟩
      refine wpAnyH_all (rs := [5]) (by kernel_rfl) (by simp) (fun i hi => ?_)
      obtain rfl : i = 5 := by simpa using hi
      refine wpOp_one rfl ?_
      (repeat (first | (with_reducible first | refine xA ?_ | refine xB ?_ | refine xC ?_ | refine xD ?_ | refine xH ?_ | refine xI rfl ?_ | refine xE ?_ | refine xF ?_ | refine xG ?_) | go_skip | go_guarded | ((with_reducible refine wl_id ?_); refine wl_appendN rfl _ _ rfl (w.heap.size + 1) _ A rfl HC3 _ [⟨x0, x1, x2, x3, x4, x5⟩] rfl (one_nd u3 nb _ _ _ _ _ _ HN3) (by have := HLN.out; simp; omega) (lt_of_block HS3.2) ?_; intro vf u4 hF hgf hlf; (try simp only [Act.put, qz4, qz5, qz6])) | go_values | go_skip | go_guarded | go_step | go_upon | go_back | ((with_reducible show Oper.upon _ _ _ _ _ _); go_simp) | (dsimp only)))
      have HS4 : (fun u => Below w.heap.size w u ∧ u.heap[w.heap.size]? = some (.cells #[.int .i64 x0, .int .i64 x1, .int .u64 x2, .int .i64 x3, .int .i64 x4, .int .i64 x5] 49 (0, 0))) u4 := ⟨below_grown HS3.1 hgf (fun k e => Nat.le_of_succ_le (World.ownsRow.lt HC3 k e).1), keep_at hgf HS3.2 (fun e => by have := (World.ownsRow.lt HC3 _ e.symm).1; omega)⟩
      refine ⟨HS4, ?_⟩
      clear HSC
      have HSC := HS4
      (refine wpAnyH_take (i := 8) (v := vf) rfl (by kernel_rfl) (by kernel_rfl) (by kernel_rfl) (fun _ _ _ h => h) (Or.inl ⟨rfl, fun w _ => by go_simp⟩) HSC ?_; simp only [Act.put, qz1, qz2, qz3, qz4, qz5, qz6])
      (refine wpAnyH_take (i := 9) (v := .int .i64 A.length) rfl (by kernel_rfl) (by kernel_rfl) (by kernel_rfl) (fun _ _ _ h => h) (Or.inl ⟨rfl, fun w _ => by go_simp⟩) HSC ?_; simp only [Act.put, qz1, qz2, qz3, qz4, qz5, qz6])
      (refine wpAnyH_take (i := 10) (v := .int .i64 0) rfl (by kernel_rfl) (by kernel_rfl) (by kernel_rfl) (fun _ _ _ h => h) (Or.inl ⟨rfl, fun w _ => by go_simp⟩) HSC ?_; simp only [Act.put, qz1, qz2, qz3, qz4, qz5, qz6])
      refine wpAnyH_done (by kernel_rfl) ?_ _
      (repeat (first | (with_reducible first | refine xA ?_ | refine xB ?_ | refine xC ?_ | refine xD ?_ | refine xH ?_ | refine xI rfl ?_ | refine xE ?_ | refine xF ?_ | refine xG ?_) | go_values | go_skip | go_guarded | go_step | go_upon | go_back | ((with_reducible show Oper.upon _ _ _ _ _ _); go_simp) | (dsimp only)))
      go_ret3
      exact ⟨⟨_, rfl, owns_low hF (Nat.le_succ _)⟩, HS4.1⟩
  · refine wpOp_one rfl ?_
    (repeat (first | (with_reducible first | refine xA ?_ | refine xB ?_ | refine xC ?_ | refine xD ?_ | refine xH ?_ | refine xI rfl ?_ | refine xE ?_ | refine xF ?_ | refine xG ?_) | go_values | go_skip | go_guarded | go_step | go_upon | go_back | ((with_reducible show Oper.upon _ _ _ _ _ _); go_simp) | (dsimp only)))
    have HS1 : (fun u => Below w.heap.size w u ∧ u.heap[w.heap.size]? = some (.cells #[.int .i64 x0, .int .i64 x1, .int .u64 x2, .int .i64 x3, .int .i64 x4, .int .i64 x5] 49 (0, 0))) (u0.alloc (.cells #[.int .i64 x0, .int .i64 x1, .int .u64 x2, .int .i64 x3, .int .i64 x4, .int .i64 x5] 49)) := ⟨Below.alloc HS0.1 HS0.1.size _, (heap_alloc_old u0 _ (lt_of_block HS0.2)).trans HS0.2⟩
    have HN1 := heap_alloc_new u0 (.cells #[.int .i64 x0, .int .i64 x1, .int .u64 x2, .int .i64 x3, .int .i64 x4, .int .i64 x5] 49)
    obtain ⟨nb, hnb⟩ : ∃ nb, u0.heap.size = nb := ⟨_, rfl⟩
    rw [hnb] at HN1 ⊢
    refine ⟨HS1, ?_⟩
    generalize u0.alloc (.cells #[.int .i64 x0, .int .i64 x1, .int .u64 x2, .int .i64 x3, .int .i64 x4, .int .i64 x5] 49) = u1 at *
    refine wpAnyH_all (rs := [0]) (by kernel_rfl) (by simp) (fun i hi => ?_)
    obtain rfl : i = 0 := by simpa using hi
    refine wpOp_one rfl ?_
    (repeat (first | (with_reducible first | refine xA ?_ | refine xB ?_ | refine xC ?_ | refine xD ?_ | refine xH ?_ | refine xI rfl ?_ | refine xE ?_ | refine xF ?_ | refine xG ?_) | go_values | go_skip | go_guarded | go_step | go_upon | go_back | ((with_reducible show Oper.upon _ _ _ _ _ _); go_simp) | (dsimp only)))
    have HS2 : (fun u => Below w.heap.size w u ∧ u.heap[w.heap.size]? = some (.cells #[.int .i64 x0, .int .i64 x1, .int .u64 x2, .int .i64 x3, .int .i64 x4, .int .i64 x5] 49 (0, 0))) (u1.alloc (.cells #[] 49)) := ⟨Below.alloc HS1.1 HS1.1.size _, (heap_alloc_old u1 _ (lt_of_block HS1.2)).trans HS1.2⟩
    have HE2 := OwnN.new u1 (w.heap.size + 1) (lt_of_block HS1.2)
    obtain ⟨eb, heb⟩ : ∃ eb, u1.heap.size = eb := ⟨_, rfl⟩
    have HN2 := (heap_alloc_old u1 (.cells #[] 49) (lt_of_block HN1)).trans HN1
    have hne : nb < eb := by rw [← heb]; exact lt_of_block HN1
    rw [heb] at HE2 ⊢
    refine ⟨HS2, ?_⟩
    generalize u1.alloc (.cells #[] 49) = u2 at *
    refine wpAnyH_all (rs := [2]) (by kernel_rfl) (by simp) (fun i hi => ?_)
    obtain rfl : i = 2 := by simpa using hi
    refine wpOp_one rfl ?_
    (repeat (first | (with_reducible first | refine xA ?_ | refine xB ?_ | refine xC ?_ | refine xD ?_ | refine xH ?_ | refine xI rfl ?_ | refine xE ?_ | refine xF ?_ | refine xG ?_) | go_skip | go_guarded | ((with_reducible refine wl_id ?_); refine wl_appendN rfl _ _ rfl (w.heap.size + 1) _ [] rfl HE2 _ A rfl (HSL.out.below HS2.1) (by have := HLN.out; simp; omega) (lt_of_block HS2.2) ?_; intro vc u3 hC hg hl; (try simp only [Act.put, qz4, qz5, qz6])) | go_values | go_skip | go_guarded | go_step | go_upon | go_back | ((with_reducible show Oper.upon _ _ _ _ _ _); go_simp) | (dsimp only)))
    simp only [List.nil_append] at hC
    have HS3 : (fun u => Below w.heap.size w u ∧ u.heap[w.heap.size]? = some (.cells #[.int .i64 x0, .int .i64 x1, .int .u64 x2, .int .i64 x3, .int .i64 x4, .int .i64 x5] 49 (0, 0))) u3 := ⟨below_grown HS2.1 hg (fun k e => Nat.le_of_succ_le (World.ownsRow.lt HE2 k e).1), keep_at hg HS2.2 (fun e => by have := (World.ownsRow.lt HE2 _ e.symm).1; omega)⟩
    have HN3 := keep_at hg HN2 (fun e => by injection e with e; have e : nb = eb := e; omega)
    obtain ⟨ac, cc, rfl, -⟩ := hC.sl
    have hnc : ∀ k, (Value.slice ac A.length cc).ownBlock = some k → k ≠ nb := fun k e => by
      rcases hl with hl | hl
      · rw [hl] at e; injection e with e; have e : eb = k := e; omega
      · rw [hl] at e; injection e with e; have := lt_of_block HN2; omega
    have HC3 : OwnN u3 (w.heap.size + 1) (.slice ac A.length cc) A := hC
    refine ⟨HS3, ?_⟩
    refine wpAnyH_all (rs := [5]) (by kernel_rfl) (by simp) (fun i hi => ?_)
    obtain rfl : i = 5 := by simpa using hi
    refine wpOp_one rfl ?_
    (repeat (first | (with_reducible first | refine xA ?_ | refine xB ?_ | refine xC ?_ | refine xD ?_ | refine xH ?_ | refine xI rfl ?_ | refine xE ?_ | refine xF ?_ | refine xG ?_) | go_skip | go_guarded | ((with_reducible refine wl_id ?_); refine wl_appendN rfl _ _ rfl (w.heap.size + 1) _ A rfl HC3 _ [⟨x0, x1, x2, x3, x4, x5⟩] rfl (one_nd u3 nb _ _ _ _ _ _ HN3) (by have := HLN.out; simp; omega) (lt_of_block HS3.2) ?_; intro vf u4 hF hgf hlf; (try simp only [Act.put, qz4, qz5, qz6])) | go_values | go_skip | go_guarded | go_step | go_upon | go_back | ((with_reducible show Oper.upon _ _ _ _ _ _); go_simp) | (dsimp only)))
    have HS4 : (fun u => Below w.heap.size w u ∧ u.heap[w.heap.size]? = some (.cells #[.int .i64 x0, .int .i64 x1, .int .u64 x2, .int .i64 x3, .int .i64 x4, .int .i64 x5] 49 (0, 0))) u4 := ⟨below_grown HS3.1 hgf (fun k e => Nat.le_of_succ_le (World.ownsRow.lt HC3 k e).1), keep_at hgf HS3.2 (fun e => by have := (World.ownsRow.lt HC3 _ e.symm).1; omega)⟩
    refine ⟨HS4, ?_⟩
    clear HSC
    have HSC := HS4
    (refine wpAnyH_take (i := 8) (v := vf) rfl (by kernel_rfl) (by kernel_rfl) (by kernel_rfl) (fun _ _ _ h => h) (Or.inl ⟨rfl, fun w _ => by go_simp⟩) HSC ?_; simp only [Act.put, qz1, qz2, qz3, qz4, qz5, qz6])
    (refine wpAnyH_take (i := 9) (v := .int .i64 A.length) rfl (by kernel_rfl) (by kernel_rfl) (by kernel_rfl) (fun _ _ _ h => h) (Or.inl ⟨rfl, fun w _ => by go_simp⟩) HSC ?_; simp only [Act.put, qz1, qz2, qz3, qz4, qz5, qz6])
    (refine wpAnyH_take (i := 10) (v := .int .i64 0) rfl (by kernel_rfl) (by kernel_rfl) (by kernel_rfl) (fun _ _ _ h => h) (Or.inl ⟨rfl, fun w _ => by go_simp⟩) HSC ?_; simp only [Act.put, qz1, qz2, qz3, qz4, qz5, qz6])
    refine wpAnyH_done (by kernel_rfl) ?_ _
    (repeat (first | (with_reducible first | refine xA ?_ | refine xB ?_ | refine xC ?_ | refine xD ?_ | refine xH ?_ | refine xI rfl ?_ | refine xE ?_ | refine xF ?_ | refine xG ?_) | go_values | go_skip | go_guarded | go_step | go_upon | go_back | ((with_reducible show Oper.upon _ _ _ _ _ _); go_simp) | (dsimp only)))
    go_ret3
    exact ⟨⟨_, rfl, owns_low hF (Nat.le_succ _)⟩, HS4.1⟩
end Go.Proofs.YtmaogkgjiplckaaGreat
namespace Go.Proofs.YtmaogkgjiplckaaGreat
open Go.RowKit
def SlT (w : World) (v : Value) (ls : List Nd) : Prop :=
  ∃ ao cap, v = .slice ao ls.length cap ∧ ls.length ≤ cap ∧ (ao = none → cap = 0) ∧ (ls ≠ [] → ∃ b o cur fr, ao = some ⟨b, o, none⟩ ∧ w.heap[b]? = some (.cells cur 49 fr) ∧ RowAt 6 Nd.cells w b o ls)
theorem SlT.sl {w : World} {v : Value} {ls : List Nd} (h : SlT w v ls) : SlIs 6 Nd.cells w v ls :=
  let ⟨ao, cap, h1, h2, h3, h4⟩ := h
  ⟨ao, cap, h1, h2, h3, fun hn => let ⟨b, o, _, _, e, _, hr⟩ := h4 hn; ⟨b, o, e, hr⟩⟩
theorem SlT.nil (w : World) : SlT w (.slice none 0 0) [] := ⟨none, 0, rfl, Nat.le_refl _, fun _ => rfl, fun h => absurd rfl h⟩
theorem SlT.below {w w' : World} {v : Value} {ls : List Nd} (h : SlT w v ls) (hb : Below w.heap.size w w') : SlT w' v ls :=
  let ⟨ao, cap, h1, h2, h3, h4⟩ := h
  ⟨ao, cap, h1, h2, h3, fun hn => let ⟨b, o, cur, fr, e, hh, hr⟩ := h4 hn; ⟨b, o, cur, fr, e, (hb.block _ (lt_of_block hh)).trans hh, hr.below hb⟩⟩
theorem SlT.grown {w w' : World} {v vo : Value} {ls : List Nd} {B n : Nat} {l : List Value} (h : SlT w v ls) (hO : w.ownsRow B 3 1 vo n l) (hg : w.grownBy w' vo.ownBlock) : SlT w' v ls :=
  let ⟨ao, cap, h1, h2, h3, h4⟩ := h
  ⟨ao, cap, h1, h2, h3, fun hn => by
    obtain ⟨b, o, cur, fr, e, hh, hr⟩ := h4 hn
    have hne : some b ≠ vo.ownBlock := fun he => by
      rcases hO.2 with ⟨rfl, _⟩ | ⟨g, c, cu, rfl, hb, hgh, _⟩
      · cases he
      · injection he with he
        subst he
        rw [hgh] at hh
        injection hh with hh
        injection hh with _ ht
        exact absurd ht (by decide)
    have hk := hg.block b (lt_of_block hh) hne
    refine ⟨b, o, cur, fr, e, hk.trans hh, fun i d hi j c hj => ?_⟩
    exact (World.cell?_of_block (a := ⟨b, _, none⟩) hk).trans (hr i d hi j c hj)⟩
theorem OwnN.slT {w : World} {base : Nat} {v : Value} {ls : List Nd} (h : OwnN w base v ls) : SlT w v ls := by
  obtain ⟨ao, cap, e, h2, h3, h4⟩ := h.sl
  refine ⟨ao, cap, e, h2, h3, fun hn => ?_⟩
  obtain ⟨b, o, rfl, hr⟩ := h4 hn
  rcases h.2 with ⟨rfl, hn0⟩ | ⟨g, c, cur, rfl, hb, hh, _⟩
  · cases e
  · injection e with e1 _ _
    injection e1 with e1
    injection e1 with e1 _
    subst e1
    exact ⟨_, o, cur, (0, 0), rfl, hh, hr⟩
theorem told_eq {d : Nd} {tm : List Int} {K : Nat} (hK : kidsI d.op = K) : toldN d tm = ⟨d.op, d.w, d.n, kdK K 0 d.k0 tm, kdK K 1 d.k1 tm, kdK K 2 d.k2 tm⟩ := by
  unfold toldN kdK
  rw [hK]
  congr 1
  · by_cases h : 0 < K
    · rw [if_pos h, if_pos (by omega)]
    · rw [if_neg h, if_neg (by omega)]
  · by_cases h : 1 < K
    · rw [if_pos h, if_pos (by omega)]
    · rw [if_neg h, if_neg (by omega)]
  · by_cases h : 2 < K
    · rw [if_pos h, if_pos (by omega)]
    · rw [if_neg h, if_neg (by omega)]
theorem kids_le (op : Int) : ∃ K : Nat, kidsI op = K ∧ K ≤ 3 := by
  unfold kidsI
  split
  · exact ⟨0, rfl, by decide⟩
  · split
    · exact ⟨1, rfl, by decide⟩
    · split
      · exact ⟨2, rfl, by decide⟩
      · exact ⟨3, rfl, by decide⟩
set_option maxRecDepth 100000 in
set_option maxHeartbeats 8000000 in
theorem put_any (v : Value) (ls : List Nd) (w : World) (h : SlIs 6 Nd.cells w v ls) (hwf : ∀ d ∈ ls, NdWf d) (hE : (tchk ls).1 = 0) (hT : RT ls) (hne : ls ≠ []) (hll : ls.length ≤ 60) :
    Calls Tryz.prog 17 #[.slice none 0 0, v] w fun e w' => (∃ (va : Value) (A : List Nd) (tm : List Int) (p : Nat), e = .returned (.tuple #[va, .int .i64 p, .int .i64 0]) ∧ SlIs 6 Nd.cells w' va A ∧ PutI ls ls.length A tm ∧ tm.getD (ls.length - 1) 0 = (p : Int)) ∧ Below w.heap.size w w' := by
  have HC : Hid (∀ u : World, Below w.heap.size w u → Calls Tryz.prog 28 #[v] u fun e w' => e = .returned (.tuple #[.int .i64 0, .int .i64 (tchk ls).2]) ∧ Below u.heap.size u w') := Lib.hid (fun u hb => by
    have := rcheck_any ls v u (h.below hb) hwf
    rw [hE] at this
    exact this)
  generalize (tchk ls).2 = E2 at HC
  have HT := Lib.hid hT
  have HWF := Lib.hid hwf
  have HNE := Lib.hid hne
  obtain ⟨ao, cap, rfl, hcap, -, hrow⟩ := h
  obtain ⟨b, off, rfl, HR⟩ := hrow hne
  have HRW := Lib.hid HR
  have hlI : (ls.length : Int) ≤ 60 := by omega
  clear hrow HR hcap hT hwf hne hll
  go_enter Tryz.func17, Tryz.ntmps17
  (repeat (first | (with_reducible first | refine xA ?_ | refine xB ?_ | refine xC ?_ | refine xD ?_ | refine xH ?_ | refine xI rfl ?_ | refine xE ?_ | refine xF ?_ | refine xG ?_) | go_skip | go_guarded | (go_at_call 28; (with_reducible refine (HC.out _ (Below.refl _ _)).mono ?_); rintro _ w1 ⟨rfl, hb1⟩) | go_values | go_skip | go_guarded | go_step | go_upon | go_back | ((with_reducible show Oper.upon _ _ _ _ _ _); go_simp) | (dsimp only)))
  go_loopw [0, 9, 10] (fun va vt i wr => ∃ (k : Nat) (A : List Nd) (tm : List Int), k ≤ ls.length ∧ i = .int .i64 k ∧ Hid (SlT wr va A) ∧ Hid (wr.ownsRow w.heap.size 3 1 vt k (tm.map (Value.int .i64))) ∧ Hid (PutI ls k A tm) ∧ Below w.heap.size w wr) (fun _ _ i _ => ls.length - (intOf i).toNat)
  case atStart => exact ⟨0, [], [], Nat.zero_le _, rfl, Lib.hid (SlT.nil _), Lib.hid (World.ownsRow_nil _ _ _ _), Lib.hid (PutI.start ls), hb1⟩
  case round =>
    clear hb1
    obtain ⟨k, A, tm, hk, rfl, HSA, HO, HPI, hbr⟩ := hrel
    have htl := HPI.out.len
    have hal := HPI.out.al
    rcases Nat.lt_or_ge k ls.length with hlt | hge
    · obtain ⟨d, hd⟩ : ∃ d, ls[k]? = some d := ⟨_, List.getElem?_eq_getElem hlt⟩
      have hN := HT.out k d hd
      have hl : (ls.take k).length = k := by rw [List.length_take]; omega
      obtain ⟨K, hK, hK3⟩ := kids_le d.op
      obtain ⟨l0, l1, l2⟩ := kid_lt hN
      rw [hl, ← htl] at l0 l1 l2
      have hte := told_eq (d := d) (tm := tm) hK
      have hrn := told_rn' HT.out hd (B := A) (by omega) (fun a _ ha => HPI.out.emb a ha)
      have HTO := Lib.hid (rtold_any d.op d.w d.n d.k0 d.k1 d.k2 _ tm wr (own_sl (X := fun _ => True) HO.out (fun _ _ => trivial)) hN.ops (by omega) K hK hK3 (fun h => l0 (by omega)) (fun h => l1 (by omega)) (fun h => l2 (by omega)))
      generalize kdK K 0 d.k0 tm = y0 at *
      generalize kdK K 1 d.k1 tm = y1 at *
      generalize kdK K 2 d.k2 tm = y2 at *
      have hwd := (HWF.out d (List.mem_of_getElem? hd)).2.2.1
      rw [hte] at hrn
      have hAw : ∀ e ∈ A, 0 ≤ e.w := fun e he => by
        obtain ⟨j, hj⟩ := List.mem_iff_getElem?.1 he
        have h1 := HPI.out.rt.tf.wd j (List.getElem?_eq_some_iff.1 hj).1
        rw [wAt_get hj] at h1
        omega
      have i0 : (0 : Int) ≤ (k : Int) := by omega
      have i1 : (k : Int) < (ls.length : Int) := by omega
      have HTE := Lib.hid hte
      have HK2 := Lib.hid hk
      obtain ⟨at', ct, rfl⟩ := ownsRow_shape HO.out
      by_cases hin : (⟨d.op, d.w, d.n, y0, y1, y2⟩ : Nd) ∈ A
      · have HMK : Hid (∀ (u : World), SlIs 6 Nd.cells u u0 A → Calls Tryz.prog 39 #[u0, .agg #[.int .i64 d.op, .int .i64 d.w, .int .u64 d.n, .int .i64 y0, .int .i64 y1, .int .i64 y2]] u fun e w' => (∃ p : Nat, e = .returned (.tuple #[u0, .int .i64 p, .int .i64 0]) ∧ A[p]? = some ⟨d.op, d.w, d.n, y0, y1, y2⟩) ∧ Below u.heap.size u w') := Lib.hid (fun u hs => make_hit _ A _ _ _ _ _ _ u hs (by omega) hin)
        have HD := Lib.hid hd
        have HTL := Lib.hid htl
        clear hin hAw hrn hwd hte l0 l1 l2 hl hN hK htl hal hd
        (repeat (first | (with_reducible first | refine xA ?_ | refine xB ?_ | refine xC ?_ | refine xD ?_ | refine xH ?_ | refine xI rfl ?_ | refine xE ?_ | refine xF ?_ | refine xG ?_) | go_skip | go_guarded | ((with_reducible refine wl_id ?_); refine wl_ldNdA HRW.out hbr k d HD.out rfl _ rfl rfl ?_; (try simp only [Act.put, qz4, qz5, qz6])) | (go_at_call 40; (with_reducible refine HTO.out.mono ?_); rintro _ w2 ⟨rfl, hb2⟩; have hbr2 := hbr.trans (hb2.mono hbr.size); have HO2 := Lib.hid (owns_kept HO.out (Kept.ofBelow (X := fun _ => True) hb2) (fun _ _ => trivial)); have HS2 := Lib.hid (HSA.out.below hb2); clear hb2) | (go_at_call 39; (with_reducible refine (HMK.out _ HS2.out.sl).mono ?_); rintro _ w3 ⟨⟨p, rfl, hp⟩, hb3⟩; have HP := Lib.hid hp; have hbr3 := hbr2.trans (hb3.mono hbr2.size); have HO3 := Lib.hid (owns_kept HO2.out (Kept.ofBelow (X := fun _ => True) hb3) (fun _ _ => trivial)); have HS3 := Lib.hid (HS2.out.below hb3); clear hb3 hp) | ((with_reducible refine wl_id ?_); refine wl_push rfl _ _ rfl w.heap.size _ k tm rfl (HO3.out.alloc _) w3.heap.size (p : Int) rfl (cell_new w3 _ _) (by omega) (Nat.le_trans hbr3.size (by simp)) ?_; intro v9 w9 hO9 hg9 hl9; have HO9 := Lib.hid hO9; have HB9 := Lib.hid (below_grown (Below.alloc hbr3 hbr3.size _) hg9 (fun q e => (HO3.out.lt q e).1)); have HS9 := Lib.hid ((HS3.out.below (Below.alloc (Below.refl _ _) (Nat.le_refl _) _)).grown (HO3.out.alloc _) hg9); clear hO9 hg9 hl9; (try simp only [Act.put, qz4, qz5, qz6])) | go_values | go_skip | go_guarded | go_step | go_upon | go_back | ((with_reducible show Oper.upon _ _ _ _ _ _); go_simp) | (dsimp only)))
        exact ⟨⟨k + 1, A, tm ++ [(p : Int)], by omega, by go_num, HS9, HO9, Lib.hid (HPI.out.hit HT.out HD.out (by rw [HTE.out]; exact HP.out)), HB9.out⟩, by simp [intOf]; omega⟩
      · have HMK : Hid (∀ (u : World), SlIs 6 Nd.cells u u0 A → Calls Tryz.prog 39 #[u0, .agg #[.int .i64 d.op, .int .i64 d.w, .int .u64 d.n, .int .i64 y0, .int .i64 y1, .int .i64 y2]] u fun e w' => (∃ v', e = .returned (.tuple #[v', .int .i64 (A.length : Nat), .int .i64 0]) ∧ OwnN w' u.heap.size v' (A ++ [⟨d.op, d.w, d.n, y0, y1, y2⟩])) ∧ Below u.heap.size u w') := Lib.hid (fun u hs => make_miss _ A _ _ _ _ _ _ u hs (by omega) hin hwd hAw hrn.1)
        have HD := Lib.hid hd
        have HTL := Lib.hid htl
        clear hin hAw hrn hwd hte l0 l1 l2 hl hN hK htl hal hd
        (repeat (first | (with_reducible first | refine xA ?_ | refine xB ?_ | refine xC ?_ | refine xD ?_ | refine xH ?_ | refine xI rfl ?_ | refine xE ?_ | refine xF ?_ | refine xG ?_) | go_skip | go_guarded | ((with_reducible refine wl_id ?_); refine wl_ldNdA HRW.out hbr k d HD.out rfl _ rfl rfl ?_; (try simp only [Act.put, qz4, qz5, qz6])) | (go_at_call 40; (with_reducible refine HTO.out.mono ?_); rintro _ w2 ⟨rfl, hb2⟩; have hbr2 := hbr.trans (hb2.mono hbr.size); have HO2 := Lib.hid (owns_kept HO.out (Kept.ofBelow (X := fun _ => True) hb2) (fun _ _ => trivial)); have HS2 := Lib.hid (HSA.out.below hb2); clear hb2) | (go_at_call 39; (with_reducible refine (HMK.out _ HS2.out.sl).mono ?_); rintro _ w3 ⟨⟨v3, rfl, hv3⟩, hb3⟩; have hbr3 := hbr2.trans (hb3.mono hbr2.size); have HO3 := Lib.hid (owns_kept HO2.out (Kept.ofBelow (X := fun _ => True) hb3) (fun _ _ => trivial)); have HS3 := Lib.hid hv3.slT; clear hb3 hv3) | ((with_reducible refine wl_id ?_); refine wl_push rfl _ _ rfl w.heap.size _ k tm rfl (HO3.out.alloc _) w3.heap.size (A.length : Int) rfl (cell_new w3 _ _) (by omega) (Nat.le_trans hbr3.size (by simp)) ?_; intro v9 w9 hO9 hg9 hl9; have HO9 := Lib.hid hO9; have HB9 := Lib.hid (below_grown (Below.alloc hbr3 hbr3.size _) hg9 (fun q e => (HO3.out.lt q e).1)); have HS9 := Lib.hid ((HS3.out.below (Below.alloc (Below.refl _ _) (Nat.le_refl _) _)).grown (HO3.out.alloc _) hg9); clear hO9 hg9 hl9; (try simp only [Act.put, qz4, qz5, qz6])) | go_values | go_skip | go_guarded | go_step | go_upon | go_back | ((with_reducible show Oper.upon _ _ _ _ _ _); go_simp) | (dsimp only)))
        exact ⟨⟨k + 1, A ++ [toldN d tm], tm ++ [(A.length : Int)], by omega, by go_num, Lib.hid (by rw [HTE.out]; exact HS9.out), HO9, Lib.hid (HPI.out.miss HT.out (by have := HK2.out; omega) HD.out), HB9.out⟩, by simp [intOf]; omega⟩
    · have hkl : ls.length = k := by omega
      obtain ⟨N, rfl⟩ : ∃ N : Nat, k = N + 1 := ⟨k - 1, by have := List.length_pos_iff.2 HNE.out; omega⟩
      have hemb := (HPI.out.emb N (by omega)).1
      obtain ⟨p, hp⟩ := Int.eq_ofNat_of_zero_le hemb
      have hq : tm[N]? = some (p : Int) := by
        rw [List.getD_eq_getElem?_getD, List.getElem?_eq_getElem (show N < tm.length by omega)] at hp
        rw [List.getElem?_eq_getElem (show N < tm.length by omega)]
        exact congrArg some hp
      obtain ⟨at', ct, rfl⟩ := ownsRow_shape HO.out
      obtain ⟨bt, ot, rfl, -, -, -, hRt⟩ := (own_sl (X := fun _ => True) HO.out (fun _ _ => trivial)).row (by omega)
      have hct := hRt N _ hq
      have hkn : ¬ ((N : Int) + 1 < (ls.length : Int)) := by omega
      have iN1 : (N : Int) < (N : Int) + 1 := by omega
      have iN0 : (0 : Int) ≤ (N : Int) := by omega
      have iN3 : (N : Int) ≤ 60 := by omega
      have HPP := Lib.hid hp
      have HKL := Lib.hid hkl
      clear hRt hq hp hemb hkl hk hge htl hal
      (repeat (first | (with_reducible first | refine xA ?_ | refine xB ?_ | refine xC ?_ | refine xD ?_ | refine xH ?_ | refine xI rfl ?_ | refine xE ?_ | refine xF ?_ | refine xG ?_) | go_values | go_skip | go_guarded | go_step | go_upon | go_back | ((with_reducible show Oper.upon _ _ _ _ _ _); go_simp) | (dsimp only)))
      go_quiet (fail)
      have HB9 := Lib.hid (below_drewN hbr nq)
      have HS9 := Lib.hid (HSA.out.sl.below (below_drewN (Below.refl _ _) nq))
      clear hct hbr
      (repeat (first | (with_reducible first | refine xA ?_ | refine xB ?_ | refine xC ?_ | refine xD ?_ | refine xH ?_ | refine xI rfl ?_ | refine xE ?_ | refine xF ?_ | refine xG ?_) | go_values | go_skip | go_guarded | go_step | go_upon | go_back | ((with_reducible show Oper.upon _ _ _ _ _ _); go_simp) | (dsimp only)))
      go_ret3
      refine ⟨⟨_, A, tm, p, rfl, HS9.out, ?_, ?_⟩, HB9.out⟩
      · rw [HKL.out]; exact HPI.out
      · rw [HKL.out]; exact HPP.out
end Go.Proofs.YtmaogkgjiplckaaGreat
namespace Go.Proofs.YtmaogkgjiplckaaGreat
open Go.RowKit
theorem info_bool : (Tryz.prog.info? 4).map (fun i => (i.zero, i.size, i.bytes)) = some (some (.bool false), 1, 1) := by kernel_rfl
def OwnB (w : World) (q n : Nat) (l : List Bool) : Prop := l.length = n ∧ w.ownsRow q 4 1 (.slice (some ⟨q, 0, none⟩) n n) n (l.map Value.bool)
theorem OwnB.lt {w : World} {q n : Nat} {l : List Bool} (h : OwnB w q n l) : q < w.heap.size := (h.2.lt q rfl).2
theorem OwnB.kept {w w' : World} {q n : Nat} {l : List Bool} (h : OwnB w q n l) {X : Nat → Prop} (hk : Kept X w w') (hx : X q) : OwnB w' q n l := by
  refine ⟨h.1, ?_⟩
  rcases h.2 with ⟨b2, hr⟩
  refine ⟨b2, ?_⟩
  rcases hr with ⟨e, _⟩ | ⟨g, cap, cur, e, hb, hh, r⟩
  · cases e
  · refine .inr ⟨g, cap, cur, e, hb, ?_, r⟩
    simp only [Value.slice.injEq, Option.some.injEq, Addr.mk.injEq, and_true] at e
    obtain ⟨rfl, _⟩ := e
    exact hk.at hh hx
theorem OwnB.below {w w' : World} {q n : Nat} {l : List Bool} (h : OwnB w q n l) (hb : Below w.heap.size w w') : OwnB w' q n l := h.kept (Kept.ofBelow (X := fun _ => True) hb) trivial
theorem OwnI.below {w w' : World} {q n : Nat} {l : List Int} (h : OwnI w q n l) (hb : Below w.heap.size w w') : OwnI w' q n l := h.kept (Kept.ofBelow (X := fun _ => True) hb) trivial
theorem OwnB.cell {w : World} {q n : Nat} {l : List Bool} (h : OwnB w q n l) {j : Nat} {x : Bool} (hj : l[j]? = some x) : w.cell? ⟨q, j, none⟩ = some (.bool x) := by
  have := h.2.cellAt j (by have := (List.getElem?_eq_some_iff.1 hj).1; have := h.1; omega)
  rw [List.getElem?_map, hj] at this
  exact this
section
variable {ops : Array Oper} {rest : List Oper} {o : Oper} {a : Act} {w : World} {Q : Exit → Act → World → Prop}
theorem wl_store_ownB (hgd : o.guard = none) (x y : Operand) (ho : o.op = .store 4 x y) (q n : Nat) (l : List Bool) (j : Nat) (hx : a.eval x = .pointer (some ⟨q, j, none⟩)) (u : Bool) (hy : a.eval y = .bool u) (hO : OwnB w q n l) (hj : j < n)
    (h : ∀ w', OwnB w' q n (l.set j u) → w.grownBy w' (some q) → wpList Tryz.prog ops Q rest (a.put o.dst undef) w') : wpList Tryz.prog ops Q (o :: rest) a w :=
  wpList_plain hgd fun _ hK => by
    obtain ⟨hl, hO2⟩ := hO
    have hc := hO2.cellAt j (by omega)
    have hlt : j < l.length := by omega
    rw [List.getElem?_map, List.getElem?_eq_getElem hlt] at hc
    have hf := hO2.frozenAt j
    have hst : (Instr.storeAt 4 (.pointer (some ⟨q, j, none⟩)) (.bool u)).run Tryz.prog w = .ok () (w.setCell ⟨q, j, none⟩ (.bool u)) := by
      simp only [Option.map_some] at hc
      go_simp
    obtain ⟨s1, s2⟩ := hO2.stored j (.bool u)
    unfold Oper.wp execOp
    simp only [ho, hx, hy, Sem.run_bind, hst, Result.andThen_ok]
    exact hK _ _ (h _ ⟨by simp [hl], by rw [List.map_set]; exact s1⟩ s2)
theorem wl_make_ownB (hgd : o.guard = none) (l c : Operand) (hop : o.op = Op.makeSlice 92 l c) (n : Nat) (hl : a.eval l = .int .i64 n) (hc : a.eval c = .int .i64 n) (hn : n ≤ 1000000)
    (h : ∀ w', OwnB w' w.heap.size n (List.replicate n false) → w.grownBy w' none → wpList Tryz.prog ops Q rest (a.put o.dst (.slice (some ⟨w.heap.size, 0, none⟩) n n)) w') : wpList Tryz.prog ops Q (o :: rest) a w := by
  obtain ⟨i0, hi0, hz0, hz1, hz2⟩ := info_parts info_bool
  refine wpList_make_full w hgd l c 92 hop w.heap.size 4 i0 (.bool false) 1 Tryz.underlying92 hi0 hz0 hz1 .i64 .i64 n n n hl hc rfl rfl (by rw [hz2]; omega) (by unfold maxLen; omega) (Nat.le_refl _) ?_
  intro w' h1 h2
  refine h w' ⟨by simp, ?_⟩ h2
  have e : (madeCells (Value.bool false).cells (n * 1)).toList = (List.replicate n false).map Value.bool := by
    rw [Nat.mul_one, List.map_replicate]
    unfold madeCells
    rw [Array.toList_map, Array.toList_range]
    apply List.ext_getElem?
    intro i
    rw [List.getElem?_map, List.getElem?_replicate]
    by_cases hi : i < n
    · rw [List.getElem?_range hi, if_pos hi]
      simp [Value.cells, Nat.mod_one]
    · rw [if_neg hi, List.getElem?_eq_none (by simpa using hi)]
      rfl
  rw [← e]; exact h1
end
theorem below_none {w u w' : World} {B : Nat} (hb : Below B w u) (hg : u.grownBy w' none) (hB : B ≤ u.heap.size) : Below B w w' :=
  ⟨hg.os.trans hb.os, hg.tape.trans hb.tape, hg.output.trans hb.output, Nat.le_trans hb.size hg.size, fun k hk => (hg.block k (Nat.lt_of_lt_of_le hk hB) (by simp)).trans (hb.block k hk)⟩
def kdA (d : Nd) (q : Nat) : Int := if q = 0 then d.k0 else if q = 1 then d.k1 else d.k2
theorem kid_q {d : Nd} {a K : Nat} (hK : kidsI d.op = K) (hK3 : K ≤ 3) : isKid d a ↔ ∃ q, q < K ∧ kdA d q = a := by
  unfold isKid kdA
  rw [hK]
  constructor
  · rintro (⟨h, e⟩ | ⟨h, e⟩ | ⟨h, e⟩)
    · exact ⟨0, by omega, by simpa using e⟩
    · exact ⟨1, by omega, by simpa using e⟩
    · exact ⟨2, by omega, by simpa using e⟩
  · rintro ⟨q, hq, e⟩
    have h3 : q = 0 ∨ q = 1 ∨ q = 2 := by omega
    rcases h3 with rfl | rfl | rfl
    · exact .inl ⟨by omega, by simpa using e⟩
    · exact .inr (.inl ⟨by omega, by simpa using e⟩)
    · exact .inr (.inr ⟨by omega, by simpa using e⟩)
theorem kid_qlt {A : List Nd} {d : Nd} {q K : Nat} (h : RN A d) (hK : kidsI d.op = K) (hq : q < K) (hK3 : K ≤ 3) : ∃ a : Nat, kdA d q = a ∧ a < A.length := by
  obtain ⟨l0, l1, l2⟩ := kid_lt h
  rw [hK] at l0 l1 l2
  have h3 : q = 0 ∨ q = 1 ∨ q = 2 := by omega
  unfold kdA
  rcases h3 with rfl | rfl | rfl
  · exact l0 (by omega)
  · exact l1 (by omega)
  · exact l2 (by omega)
structure NdI (A : List Nd) (p m : Nat) (nb : List Bool) : Prop where
  len : nb.length = A.length
  at' : nb.getD p false = true
  cl : ∀ j d, m ≤ j → j ≤ p → A[j]? = some d → nb.getD j false = true → ∀ a, isKid d a → a < j → nb.getD a false = true
theorem getB_set {l : List Bool} {i j : Nat} {x : Bool} (hi : i < l.length) : (l.set i x).getD j false = if j = i then x else l.getD j false := by
  rw [List.getD_eq_getElem?_getD]
  by_cases e : j = i
  · subst e; rw [List.getElem?_set_self hi, if_pos rfl]; rfl
  · rw [List.getElem?_set_ne (Ne.symm e), if_neg e, List.getD_eq_getElem?_getD]
theorem NdI.start {A : List Nd} {p : Nat} (hp : p < A.length) : NdI A p (p + 1) ((List.replicate A.length false).set p true) :=
  ⟨by simp, by rw [getB_set (by simpa using hp), if_pos rfl], fun j d h1 h2 => by omega⟩
theorem NdI.set {A : List Nd} {p m a : Nat} {nb : List Bool} (h : NdI A p m nb) (ha : a < m) (hal : a < A.length) : NdI A p m (nb.set a true) := by
  have hl : a < nb.length := by rw [h.len]; exact hal
  refine ⟨by simp [h.len], ?_, fun j d h1 h2 hd hn c hc hcj => ?_⟩
  · rw [getB_set hl]
    split
    · rfl
    · exact h.at'
  · rw [getB_set hl, if_neg (by omega)] at hn
    rw [getB_set hl]
    split
    · rfl
    · exact h.cl j d h1 h2 hd hn c hc hcj
theorem NdI.down {A : List Nd} {p m : Nat} {nb : List Bool} (h : NdI A p (m + 1) nb) {d : Nd} (hd : A[m]? = some d) (hk : nb.getD m false = true → ∀ a, isKid d a → a < m → nb.getD a false = true) : NdI A p m nb := by
  refine ⟨h.len, h.at', fun j e h1 h2 he hn a ha haj => ?_⟩
  rcases Nat.lt_or_ge m j with hj | hj
  · exact h.cl j e (by omega) h2 he hn a ha haj
  · obtain rfl : j = m := by omega
    rw [hd] at he
    injection he with he
    subst he
    exact hk hn a ha haj
end Go.Proofs.YtmaogkgjiplckaaGreat

