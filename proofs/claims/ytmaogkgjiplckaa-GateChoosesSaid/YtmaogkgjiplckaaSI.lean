import Derived.Test.YtmaogkgjiplckaaSG
import Derived.Test.YtmaogkgjiplckaaSB
set_option linter.unusedSimpArgs false
set_option linter.unusedVariables false
namespace Go.Proofs.Ytmaogkgjiplckaa
open Go.RowKit
def lenOf : Value → Nat
  | .slice _ n _ => n
  | _ => 0
theorem own_len {w : World} {B T n : Nat} {v : Value} {l : List Value} (h : w.ownsRow B T 1 v n l) : lenOf v = n := by
  rcases h.2 with ⟨rfl, h0⟩ | ⟨g, cap, cur, rfl, _⟩
  · exact h0.symm
  · rfl
theorem owns_base {w : World} {B B' T n : Nat} {v : Value} {l : List Value} (h : w.ownsRow B T 1 v n l) (hb : B' ≤ B) : w.ownsRow B' T 1 v n l := by
  rcases h with ⟨b2, ⟨e, r⟩ | ⟨g, cap, cur, e, h1, h2⟩⟩
  · exact ⟨b2, .inl ⟨e, r⟩⟩
  · exact ⟨b2, .inr ⟨g, cap, cur, e, by omega, h2⟩⟩
theorem perm_pick {L : List Int} (hn : L.Nodup) {x : Int} (hx : x ∈ L) : (x :: L.filter fun y => decide (y ≠ x)).Perm L := by
  have h1 := List.perm_cons_erase hx
  rw [hn.erase_eq_filter] at h1
  have : (L.filter fun y => decide (y ≠ x)) = L.filter fun y => y != x := List.filter_congr fun y _ => by simp [bne, Bool.beq_eq_decide_eq]
  rw [this]
  exact h1.symm
/-- while the places are gathered -/
structure S1 (w0 : World) (lv : Value) (gi : Int → List Int) (m : List (Int × Value)) (u : World) : Prop where
  box : u.heap[w0.heap.size + 1 + 1 + 1]? = some (.cells #[lv, .map (some w0.heap.size), .map (some (w0.heap.size + 1)), .map (some (w0.heap.size + 1 + 1))] 109 (0, 0))
  ms : MapV encI okI u (w0.heap.size + 1) []
  mw : MapV encI okI u (w0.heap.size + 1 + 1) []
  grp : Grp u (w0.heap.size + 1 + 1 + 1 + 1) w0.heap.size gi m
  bel : Below w0.heap.size w0 u
section
variable {w0 u u2 u3 : World} {lv : Value} {gi : Int → List Int} {m : List (Int × Value)}
theorem S1.same (h : S1 w0 lv gi m u) (hg : u.grownBy u2 none) : S1 w0 lv gi m u2 := by
  have hk : Kept (fun _ => True) u u2 := ⟨hg.os, hg.tape, hg.output, hg.size, fun i hi _ => hg.block i hi (by simp)⟩
  obtain ⟨h1, h2, h3, ⟨g1, g2, g3, g4⟩, h5⟩ := h
  exact ⟨hk.at h1 trivial, h2.kept hk trivial, h3.kept hk trivial, ⟨g1.kept hk trivial, g2, fun x v hx => owns_kept (g3 x v hx) hk fun _ _ => trivial, g4⟩, h5.trans (hk.toBelow h5.size fun _ _ => trivial)⟩
theorem S1.step (h : S1 w0 lv gi m u) {x i : Int} {v' : Value} (hg : u.grownBy u2 ((getM m x).getD (.slice none 0 0)).ownBlock)
    (ho : u2.ownsRow (w0.heap.size + 1 + 1 + 1 + 1) 3 1 v' ((gi x).length + 1) ((gi x ++ [i]).map (Value.int .i64))) (hl : v'.ownBlock = ((getM m x).getD (.slice none 0 0)).ownBlock ∨ ∀ k, v'.ownBlock = some k → u.heap.size ≤ k)
    (hM : MapV encI okI u3 w0.heap.size (putM m x v')) (hg3 : u2.grownBy u3 (some w0.heap.size)) : S1 w0 lv (updG gi x i) (putM m x v') u3 := by
  have ho0 := h.grp.own x
  have hk : Kept (fun k => k < w0.heap.size + 1 + 1 + 1 + 1) u u2 := ⟨hg.os, hg.tape, hg.output, hg.size, fun j hj hx => hg.block j hj (fun e => by have := (ho0.lt j e.symm).1; omega)⟩
  have hk3 : Kept (fun k => k < w0.heap.size + 1 + 1 + 1 + 1 ∧ k ≠ w0.heap.size) u u3 := (hk.mono fun _ _ h => h.1).trans ⟨hg3.os, hg3.tape, hg3.output, hg3.size, fun j hj hx => hg3.block j hj (fun e => hx.2 (by injection e))⟩
  refine ⟨hk3.at h.box ⟨by omega, by omega⟩, h.ms.kept hk3 ⟨by omega, by omega⟩, h.mw.kept hk3 ⟨by omega, by omega⟩, h.grp.put hg ho hl hM hg3 (by omega), h.bel.trans (hk3.toBelow h.bel.size fun k hk => ⟨by omega, by omega⟩)⟩
end


theorem S1.new (w : World) (lv : Value) : S1 w lv (fun _ => []) [] ((((w.alloc (.map #[] 0)).alloc (.map #[] 0)).alloc (.map #[] 0)).alloc (.cells #[lv, .map (some w.heap.size), .map (some (w.heap.size + 1)), .map (some (w.heap.size + 1 + 1))] 109)) := by
  have k0 := MapV.made (enc := encI) (ok := okI) w
  have k1 := MapV.made (enc := encI) (ok := okI) (w.alloc (.map #[] 0))
  have k2 := MapV.made (enc := encI) (ok := okI) ((w.alloc (.map #[] 0)).alloc (.map #[] 0))
  have k3 := heap_alloc_new (((w.alloc (.map #[] 0)).alloc (.map #[] 0)).alloc (.map #[] 0)) (.cells #[lv, .map (some w.heap.size), .map (some (w.heap.size + 1)), .map (some (w.heap.size + 1 + 1))] 109)
  have al : ∀ (u : World) (o : Obj), Kept (fun _ => True) u (u.alloc o) := fun u o => (Kept.refl _ u).alloc o
  simp only [World.size_alloc] at k0 k1 k2 k3
  refine ⟨k3, ?_, ?_, Grp.made ?_, ?_⟩
  · exact ((k1.kept (al _ _) trivial).kept (al _ _) trivial)
  · exact k2.kept (al _ _) trivial
  · exact ((k0.kept (al _ _) trivial).kept (al _ _) trivial).kept (al _ _) trivial
  · exact ((((((Kept.refl (fun _ => True) w).alloc _).alloc _).alloc _).alloc _).toBelow (Nat.le_refl _) fun _ _ => trivial)
theorem S1.alloc {w0 u : World} {lv : Value} {gi : Int → List Int} {m : List (Int × Value)} (h : S1 w0 lv gi m u) (o : Obj) : S1 w0 lv gi m (u.alloc o) := h.same ⟨rfl, rfl, rfl, by simp, fun k hk _ => Below.heap_alloc u o k hk⟩
set_option maxRecDepth 100000 in
set_option maxHeartbeats 4000000 in
theorem Spread_any {Y : Nat → Prop} (w : World) (q n : Nat) (vs : List Value) (cl : List (List Int)) (vf : Value) (fr : List Int) (hq : RowV w q vs) (hqb : q < w.heap.size) (hS : SlsX Y w vs cl) (hn : cl.length = n) (hf : SlX Y w vf fr) (hcl : ∀ c ∈ cl, ∀ x ∈ c, okL x) (hfr : ∀ x ∈ fr, okL x) (hnb : n ≤ 10000000) (hll : ∀ c ∈ cl, c.length ≤ 64) (hfl : fr.length ≤ 1000000) (hone : ∃ x, Der cl fr x) :
    Calls Try.prog 34 #[.slice (some ⟨q, 0, none⟩) n n, vf] w fun e w' => (Conflict cl fr ∧ e = .returned (.tuple #[.slice none 0 0, .bool false]) ∧ Below w.heap.size w w') ∨
      ∃ (v : Value) (out is : List Int), e = .returned (.tuple #[v, .bool true]) ∧ w'.ownsRow w.heap.size 3 1 v out.length (out.map (Value.int .i64)) ∧ (∀ x, x ∈ is ↔ Der cl fr x) ∧ (∀ x ∈ is, -x ∉ is) ∧ is.Nodup ∧ out.Perm is ∧ out.Pairwise (fun x y => absI x ≤ absI y) ∧ ¬ Conflict cl fr ∧ Below w.heap.size w w' := by
  have hmm := @run_makeMap Try.prog
  obtain ⟨af, mf, rfl⟩ := hf.shape
  have HQ := Lib.hid hq
  have HS := Lib.hid hS
  have HN := Lib.hid hn
  have HF := Lib.hid hf
  have HCL := Lib.hid hcl
  have HFR := Lib.hid hfr
  have HLL := Lib.hid hll
  have HQB := Lib.hid hqb
  have hnI : (n : Int) ≤ 10000000 := by omega
  have hfI : (fr.length : Int) ≤ 1000000 := by omega
  have HONE := Lib.hid hone
  clear hq hS hn hf hcl hfr hll hfl hqb hone
  go_enter Try.func34, Try.ntmps34
  (repeat (first | (with_reducible first | refine xA ?_ | refine xB ?_ | refine xC ?_ | refine xD ?_ | refine xH ?_ | refine xI rfl ?_ | refine xE ?_ | refine xF ?_ | refine xG ?_) | go_skip | go_guarded | (go_at_call 65; (with_reducible refine (Right_any _ q n vs cl (HQ.out.kept (Kept.ofBelow (X := fun _ => True) (S1.new w _).bel) trivial) (HS.out.kept (Kept.ofBelow (S1.new w _).bel)) HN.out HCL.out (by omega) (fun c hc => by have := HLL.out c hc; omega)).mono ?_); rintro _ w1 ⟨rfl, hw1⟩; have HS1 := Lib.hid (S1.new w (.slice (some ⟨q, 0, none⟩) n n)); (rw [← hw1] at HS1); clear hw1) | (go_at_call 65; (with_reducible refine (Right_any (Y := Y) _ w1.heap.size 1 [.slice af fr.length mf] [fr] (RowV.one _ _ _) (SlsX.one (HF.out.kept (Kept.ofBelow (HS1.out.alloc _).bel))) rfl (fun c hc => by (rw [List.mem_singleton] at hc); subst hc; exact HFR.out) (by omega) (fun c hc => by (rw [List.mem_singleton] at hc); subst hc; omega)).mono ?_); rintro _ w2 ⟨rfl, hw2⟩; replace HS1 := Lib.hid (HS1.out.alloc (.cells #[.slice af fr.length mf] 26)); (rw [← hw2] at HS1); clear hw2) | go_values | go_skip | go_guarded | go_step | go_upon | go_back | (dsimp only)))
  go_loopw [34] (fun i wr => ∃ (k : Nat) (gi : Int → List Int) (m : List (Int × Value)), k ≤ n ∧ i = .int .i64 k ∧ Hid (GI2 cl gi k 0) ∧ Hid (S1 w (.slice (some ⟨q, 0, none⟩) n n) gi m wr)) (fun i _ => n - (intOf i).toNat)
  case atStart => exact ⟨0, _, _, Nat.zero_le _, rfl, Lib.hid GI2.start, HS1⟩
  case round =>
    clear HS1
    obtain ⟨k, gi, m, hk, rfl, HG2, HS1⟩ := hrel
    rcases Nat.lt_or_ge k n with hlt | hge
    · obtain ⟨c, hc⟩ : ∃ c, cl[k]? = some c := ⟨_, List.getElem?_eq_getElem (by have := HN.out; omega)⟩
      obtain ⟨xv, hx⟩ : ∃ x, vs[k]? = some x := ⟨_, List.getElem?_eq_getElem (by have := HN.out; have := HS.out.1; omega)⟩
      have hcx := cell_keep HS1.out.bel (HQ.out k xv hx)
      have hsx := HS.out.2 k xv c hx hc
      have hcl := HLL.out c (List.mem_of_getElem? hc)
      have hclI : (c.length : Int) ≤ 64 := by omega
      have HC := Lib.hid (HCL.out c (List.mem_of_getElem? hc))
      have Hck := Lib.hid hc
      have Hcl := Lib.hid hcl
      obtain ⟨ax, cx, rfl⟩ := hsx.shape
      have HSx := Lib.hid hsx
      clear hsx hc hx hcl
      (repeat (first | (with_reducible first | refine xA ?_ | refine xB ?_ | refine xC ?_ | refine xD ?_ | refine xH ?_ | refine xI rfl ?_ | refine xE ?_ | refine xF ?_ | refine xG ?_) | go_values | go_skip | go_guarded | go_step | go_upon | go_back | (dsimp only)))
      go_loopw [41] (fun i wr => ∃ (j : Nat) (gi : Int → List Int) (m : List (Int × Value)), j ≤ c.length ∧ i = .int .i64 j ∧ Hid (GI2 cl gi k j) ∧ Hid (S1 w (.slice (some ⟨q, 0, none⟩) n n) gi m wr)) (fun i _ => c.length - (intOf i).toNat)
      case atStart => exact ⟨0, gi, m, Nat.zero_le _, rfl, HG2, HS1⟩
      case round =>
        clear HS1 HG2 hcx gi m
        obtain ⟨j, gi, m, hj, rfl, HG2, HS1⟩ := hrel
        rcases Nat.lt_or_ge j c.length with hlt' | hge'
        · obtain ⟨b, o, rfl, _, _, _, hR⟩ := HSx.out.row (by omega)
          obtain ⟨x, hx⟩ : ∃ y, c[j]? = some y := ⟨_, List.getElem?_eq_getElem hlt'⟩
          have hcy := cell_keep HS1.out.bel (hR j x hx)
          have hxo := HC.out x (List.mem_of_getElem? hx)
          have hokx : okI x := ⟨by have := hxo.2.1; omega, by have := hxo.2.2; omega⟩
          have Hx := Lib.hid hx
          clear hR hx hxo
          (repeat (first | (with_reducible first | refine xA ?_ | refine xB ?_ | refine xC ?_ | refine xD ?_ | refine xH ?_ | refine xI rfl ?_ | refine xE ?_ | refine xF ?_ | refine xG ?_) | go_values | go_skip | go_guarded | go_step | go_upon | go_back | (dsimp only)))
          refine wp_region_held (S := fun u => u.heap[w.heap.size + 1 + 1 + 1]? = some (.cells #[.slice (some ⟨q, 0, none⟩) n n, .map (some w.heap.size), .map (some (w.heap.size + 1)), .map (some (w.heap.size + 1 + 1))] 109 (0, 0))) (by kernel_rfl) ?_
          replace HS1 : Hid (S1 w (.slice (some ⟨q, 0, none⟩) n n) gi m ({ wr with drawn := wr.drawn + 1 } : World)) := Lib.hid (HS1.out.same ⟨rfl, rfl, rfl, Nat.le_refl _, fun _ _ _ => rfl⟩)
          clear hcy
          generalize ({ wr with drawn := wr.drawn + 1 } : World) = u0 at *
          have HSb := HS1.out.box
          refine wpAnyH_take (i := 0) (v := .pointer (some ⟨w.heap.size + 1 + 1 + 1, 0, none⟩)) rfl (by kernel_rfl) (by kernel_rfl) (by kernel_rfl) (fun _ _ _ h => h) (Or.inl ⟨rfl, fun w _ => by go_simp⟩) HSb ?_; simp only [Act.put, List.getElem_toArray, List.getElem_cons_zero, List.getElem_cons_succ, List.setIfInBounds_toArray, List.set_cons_succ, List.set_cons_zero]
          refine wpAnyH_take (i := 1) (v := .pointer (some ⟨w.heap.size + 1 + 1 + 1, 0, none⟩)) rfl (by kernel_rfl) (by kernel_rfl) (by kernel_rfl) (fun _ _ _ h => h) (Or.inl ⟨rfl, fun w _ => by go_simp⟩) HSb ?_; simp only [Act.put, List.getElem_toArray, List.getElem_cons_zero, List.getElem_cons_succ, List.setIfInBounds_toArray, List.set_cons_succ, List.set_cons_zero]
          refine wpAnyH_take (i := 2) (v := .pointer (some ⟨w.heap.size + 1 + 1 + 1, 1, none⟩)) rfl (by kernel_rfl) (by kernel_rfl) (by kernel_rfl) (fun _ _ _ h => h) (Or.inl ⟨rfl, fun w _ => by go_simp⟩) HSb ?_; simp only [Act.put, List.getElem_toArray, List.getElem_cons_zero, List.getElem_cons_succ, List.setIfInBounds_toArray, List.set_cons_succ, List.set_cons_zero]
          refine wpAnyH_take (i := 3) (v := .map (some w.heap.size)) rfl (by kernel_rfl) (by kernel_rfl) (by kernel_rfl) (fun _ _ _ h => h) (Or.inl ⟨rfl, fun w hw => by have hx := (box4g hw).2.1; go_simp⟩) HSb ?_
          simp only [Act.put, List.getElem_toArray, List.getElem_cons_zero, List.getElem_cons_succ, List.setIfInBounds_toArray, List.set_cons_succ, List.set_cons_zero]
          refine wpAnyH_take (i := 4) (v := .int .i64 x) rfl (by kernel_rfl) (by kernel_rfl) (by kernel_rfl) (fun _ _ _ h => h) (Or.inl ⟨rfl, fun w _ => by go_simp⟩) HSb ?_; simp only [Act.put, List.getElem_toArray, List.getElem_cons_zero, List.getElem_cons_succ, List.setIfInBounds_toArray, List.set_cons_succ, List.set_cons_zero]
          refine wpAnyH_take (i := 5) (v := .pointer (some ⟨w.heap.size + 1 + 1 + 1, 0, none⟩)) rfl (by kernel_rfl) (by kernel_rfl) (by kernel_rfl) (fun _ _ _ h => h) (Or.inl ⟨rfl, fun w _ => by go_simp⟩) HSb ?_; simp only [Act.put, List.getElem_toArray, List.getElem_cons_zero, List.getElem_cons_succ, List.setIfInBounds_toArray, List.set_cons_succ, List.set_cons_zero]
          refine wpAnyH_take (i := 6) (v := .pointer (some ⟨w.heap.size + 1 + 1 + 1, 0, none⟩)) rfl (by kernel_rfl) (by kernel_rfl) (by kernel_rfl) (fun _ _ _ h => h) (Or.inl ⟨rfl, fun w _ => by go_simp⟩) HSb ?_; simp only [Act.put, List.getElem_toArray, List.getElem_cons_zero, List.getElem_cons_succ, List.setIfInBounds_toArray, List.set_cons_succ, List.set_cons_zero]
          refine wpAnyH_take (i := 7) (v := .pointer (some ⟨w.heap.size + 1 + 1 + 1, 1, none⟩)) rfl (by kernel_rfl) (by kernel_rfl) (by kernel_rfl) (fun _ _ _ h => h) (Or.inl ⟨rfl, fun w _ => by go_simp⟩) HSb ?_; simp only [Act.put, List.getElem_toArray, List.getElem_cons_zero, List.getElem_cons_succ, List.setIfInBounds_toArray, List.set_cons_succ, List.set_cons_zero]
          refine wpAnyH_take (i := 8) (v := .map (some w.heap.size)) rfl (by kernel_rfl) (by kernel_rfl) (by kernel_rfl) (fun _ _ _ h => h) (Or.inl ⟨rfl, fun w hw => by have hx := (box4g hw).2.1; go_simp⟩) HSb ?_
          simp only [Act.put, List.getElem_toArray, List.getElem_cons_zero, List.getElem_cons_succ, List.setIfInBounds_toArray, List.set_cons_succ, List.set_cons_zero]
          refine wpAnyH_take (i := 9) (v := .int .i64 x) rfl (by kernel_rfl) (by kernel_rfl) (by kernel_rfl) (fun _ _ _ h => h) (Or.inl ⟨rfl, fun w _ => by go_simp⟩) HSb ?_; simp only [Act.put, List.getElem_toArray, List.getElem_cons_zero, List.getElem_cons_succ, List.setIfInBounds_toArray, List.set_cons_succ, List.set_cons_zero]
          refine wpAnyH_take (i := 11) (v := .int .i64 k) rfl (by kernel_rfl) (by kernel_rfl) (by kernel_rfl) (fun _ _ _ h => h) (Or.inl ⟨rfl, fun w _ => by go_simp⟩) HSb ?_; simp only [Act.put, List.getElem_toArray, List.getElem_cons_zero, List.getElem_cons_succ, List.setIfInBounds_toArray, List.set_cons_succ, List.set_cons_zero]
          obtain ⟨v, hv⟩ : ∃ v, (getM m x).getD (.slice none 0 0) = v := ⟨_, rfl⟩
          have HO0 := HS1.out.grp.own x
          rw [hv] at HO0
          have HV := Lib.hid hv
          have HL := Lib.hid (show (gi x).length ≤ 1000000000 by have := HG2.out.len x; have := Hcl.out; omega)
          have HO := HO0.alloc (.cells #[.int .i64 (k : Int)] 3)
          have HBS := Lib.hid (show w.heap.size + 1 + 1 + 1 < u0.heap.size from lt_of_block HSb)
          have HSa := hp_al u0 (.cells #[.int .i64 (k : Int)] 3) HSb
          clear hv
          refine wpAnyH_all (rs := [10, 12]) (by kernel_rfl) (by simp) (fun i hi => ?_)
          rcases (show i = 10 ∨ i = 12 by simpa using hi) with rfl | rfl
          · refine wpOp_one rfl ?_
            have HM := HS1.out.grp.1
            (repeat (first | (with_reducible first | refine xA ?_ | refine xB ?_ | refine xC ?_ | refine xD ?_ | refine xH ?_ | refine xI rfl ?_ | refine xE ?_ | refine xF ?_ | refine xG ?_) | go_skip | go_guarded | ((with_reducible refine wl_id ?_); refine wl_lookup rfl _ _ 107 false rfl 3 26 keyI Try.underlying107 (.slice none 0 0) (zeroS _) w.heap.size m rfl HM x rfl hokx ?_; (simp only [Bool.false_eq_true, if_false]; (rw [HV.out])); (try simp only [Act.put, List.setIfInBounds_toArray, List.set_cons_succ, List.set_cons_zero])) | go_values | go_skip | go_guarded | go_step | go_upon | go_back | (dsimp only)))
            refine ⟨HSb, ?_⟩
            refine wpAnyH_all (rs := [12]) (by kernel_rfl) (by simp) (fun i hi => ?_)
            obtain rfl : i = 12 := by simpa using hi
            refine wpOp_one rfl ?_
            (repeat (first | (with_reducible first | refine xA ?_ | refine xB ?_ | refine xC ?_ | refine xD ?_ | refine xH ?_ | refine xI rfl ?_ | refine xE ?_ | refine xF ?_ | refine xG ?_) | go_values | go_skip | go_guarded | go_step | go_upon | go_back | (dsimp only)))
            refine ⟨HSa, ?_⟩
            refine wpAnyH_all (rs := [13]) (by kernel_rfl) (by simp) (fun i hi => ?_); obtain rfl : i = 13 := (by simpa using hi); refine wpOp_one rfl ?_; (repeat (first | (with_reducible first | refine xA ?_ | refine xB ?_ | refine xC ?_ | refine xD ?_ | refine xH ?_ | refine xI rfl ?_ | refine xE ?_ | refine xF ?_ | refine xG ?_) | go_skip | go_guarded | ((with_reducible refine wl_id ?_); refine wl_push rfl _ _ rfl (w.heap.size + 1 + 1 + 1 + 1) v (gi x).length (gi x) rfl HO u0.heap.size (k : Int) rfl (cell_new _ _ _) HL.out (by have := HBS.out; simp; omega) ?_; intro v' u2 hO2 hg2 hl2; (try simp only [Act.put, List.setIfInBounds_toArray, List.set_cons_succ, List.set_cons_zero])) | go_values | go_skip | go_guarded | go_step | go_upon | go_back | (dsimp only))); have HG := (World.grownBy_alloc u0 (.cells #[.int .i64 (k : Int)] 3) _).trans hg2; have HSc := (HG.block _ (lt_of_block HSb) (fun e => by have := (HO0.lt _ e.symm).1; omega)).trans HSb; refine ⟨HSc, ?_⟩; refine wpAnyH_all (rs := [14]) (by kernel_rfl) (by simp) (fun i hi => ?_); obtain rfl : i = 14 := (by simpa using hi); refine wpOp_one rfl ?_; have HM2 := HS1.out.grp.1.same (HG.block _ HS1.out.grp.1.lt (fun e => by have := (HO0.lt _ e.symm).1; omega)); (repeat (first | (with_reducible first | refine xA ?_ | refine xB ?_ | refine xC ?_ | refine xD ?_ | refine xH ?_ | refine xI rfl ?_ | refine xE ?_ | refine xF ?_ | refine xG ?_) | go_skip | go_guarded | ((with_reducible refine wl_id ?_); refine wl_mapUpdate rfl _ _ _ 107 rfl _ _ keyI Try.underlying107 w.heap.size m rfl HM2 x rfl hokx v' rfl ?_; intro u3 hM3 hg3; (try simp only [Act.put, List.setIfInBounds_toArray, List.set_cons_succ, List.set_cons_zero])) | go_values | go_skip | go_guarded | go_step | go_upon | go_back | (dsimp only))); have HSd := (hg3.block _ (lt_of_block HSc) (fun e => by injection e with e; omega)).trans HSc; refine ⟨HSd, ?_⟩; refine wpAnyH_done (by kernel_rfl) ?_ _; have HS3 := Lib.hid (HS1.out.step (x := x) (i := (k : Int)) (by (rw [HV.out]; exact HG)) hO2 (by (rw [HV.out]; exact hl2.imp id (fun e k ek => by (rw [e] at ek; cases ek; simp)))) hM3 hg3); clear HSd HSc HM2 hM3 hg3 hg2 hl2 hO2 HG HM HSa HO HO0; (repeat (first | (with_reducible first | refine xA ?_ | refine xB ?_ | refine xC ?_ | refine xD ?_ | refine xH ?_ | refine xI rfl ?_ | refine xE ?_ | refine xF ?_ | refine xG ?_) | go_values | go_skip | go_guarded | go_step | go_upon | go_back | (dsimp only))); exact ⟨⟨j + 1, _, _, by omega, by go_num, Lib.hid (HG2.out.nextJ Hck.out Hx.out), HS3⟩, by simp [intOf]; omega⟩
          · refine wpOp_one rfl ?_
            (repeat (first | (with_reducible first | refine xA ?_ | refine xB ?_ | refine xC ?_ | refine xD ?_ | refine xH ?_ | refine xI rfl ?_ | refine xE ?_ | refine xF ?_ | refine xG ?_) | go_values | go_skip | go_guarded | go_step | go_upon | go_back | (dsimp only)))
            refine ⟨HSa, ?_⟩
            refine wpAnyH_all (rs := [10]) (by kernel_rfl) (by simp) (fun i hi => ?_)
            obtain rfl : i = 10 := by simpa using hi
            refine wpOp_one rfl ?_
            have HM := (HS1.out.alloc (.cells #[.int .i64 (k : Int)] 3)).grp.1
            (repeat (first | (with_reducible first | refine xA ?_ | refine xB ?_ | refine xC ?_ | refine xD ?_ | refine xH ?_ | refine xI rfl ?_ | refine xE ?_ | refine xF ?_ | refine xG ?_) | go_skip | go_guarded | ((with_reducible refine wl_id ?_); refine wl_lookup rfl _ _ 107 false rfl 3 26 keyI Try.underlying107 (.slice none 0 0) (zeroS _) w.heap.size m rfl HM x rfl hokx ?_; (simp only [Bool.false_eq_true, if_false]; (rw [HV.out])); (try simp only [Act.put, List.setIfInBounds_toArray, List.set_cons_succ, List.set_cons_zero])) | go_values | go_skip | go_guarded | go_step | go_upon | go_back | (dsimp only)))
            refine ⟨HSa, ?_⟩
            refine wpAnyH_all (rs := [13]) (by kernel_rfl) (by simp) (fun i hi => ?_); obtain rfl : i = 13 := (by simpa using hi); refine wpOp_one rfl ?_; (repeat (first | (with_reducible first | refine xA ?_ | refine xB ?_ | refine xC ?_ | refine xD ?_ | refine xH ?_ | refine xI rfl ?_ | refine xE ?_ | refine xF ?_ | refine xG ?_) | go_skip | go_guarded | ((with_reducible refine wl_id ?_); refine wl_push rfl _ _ rfl (w.heap.size + 1 + 1 + 1 + 1) v (gi x).length (gi x) rfl HO u0.heap.size (k : Int) rfl (cell_new _ _ _) HL.out (by have := HBS.out; simp; omega) ?_; intro v' u2 hO2 hg2 hl2; (try simp only [Act.put, List.setIfInBounds_toArray, List.set_cons_succ, List.set_cons_zero])) | go_values | go_skip | go_guarded | go_step | go_upon | go_back | (dsimp only))); have HG := (World.grownBy_alloc u0 (.cells #[.int .i64 (k : Int)] 3) _).trans hg2; have HSc := (HG.block _ (lt_of_block HSb) (fun e => by have := (HO0.lt _ e.symm).1; omega)).trans HSb; refine ⟨HSc, ?_⟩; refine wpAnyH_all (rs := [14]) (by kernel_rfl) (by simp) (fun i hi => ?_); obtain rfl : i = 14 := (by simpa using hi); refine wpOp_one rfl ?_; have HM2 := HS1.out.grp.1.same (HG.block _ HS1.out.grp.1.lt (fun e => by have := (HO0.lt _ e.symm).1; omega)); (repeat (first | (with_reducible first | refine xA ?_ | refine xB ?_ | refine xC ?_ | refine xD ?_ | refine xH ?_ | refine xI rfl ?_ | refine xE ?_ | refine xF ?_ | refine xG ?_) | go_skip | go_guarded | ((with_reducible refine wl_id ?_); refine wl_mapUpdate rfl _ _ _ 107 rfl _ _ keyI Try.underlying107 w.heap.size m rfl HM2 x rfl hokx v' rfl ?_; intro u3 hM3 hg3; (try simp only [Act.put, List.setIfInBounds_toArray, List.set_cons_succ, List.set_cons_zero])) | go_values | go_skip | go_guarded | go_step | go_upon | go_back | (dsimp only))); have HSd := (hg3.block _ (lt_of_block HSc) (fun e => by injection e with e; omega)).trans HSc; refine ⟨HSd, ?_⟩; refine wpAnyH_done (by kernel_rfl) ?_ _; have HS3 := Lib.hid (HS1.out.step (x := x) (i := (k : Int)) (by (rw [HV.out]; exact HG)) hO2 (by (rw [HV.out]; exact hl2.imp id (fun e k ek => by (rw [e] at ek; cases ek; simp)))) hM3 hg3); clear HSd HSc HM2 hM3 hg3 hg2 hl2 hO2 HG HM HSa HO HO0; (repeat (first | (with_reducible first | refine xA ?_ | refine xB ?_ | refine xC ?_ | refine xD ?_ | refine xH ?_ | refine xI rfl ?_ | refine xE ?_ | refine xF ?_ | refine xG ?_) | go_values | go_skip | go_guarded | go_step | go_upon | go_back | (dsimp only))); exact ⟨⟨j + 1, _, _, by omega, by go_num, Lib.hid (HG2.out.nextJ Hck.out Hx.out), HS3⟩, by simp [intOf]; omega⟩
        · obtain rfl : j = c.length := by omega
          (repeat (first | (with_reducible first | refine xA ?_ | refine xB ?_ | refine xC ?_ | refine xD ?_ | refine xH ?_ | refine xI rfl ?_ | refine xE ?_ | refine xF ?_ | refine xG ?_) | go_values | go_skip | go_guarded | go_step | go_upon | go_back | (dsimp only)))
          exact ⟨⟨k + 1, gi, m, by omega, by go_num, Lib.hid (HG2.out.nextK Hck.out rfl Hcl.out), HS1⟩, by simp [intOf]; omega⟩
    · obtain rfl : k = n := by omega
      have HGI := Lib.hid (HG2.out.done HN.out.symm (by have := HN.out; omega))
      have hsz : w.heap.size + 1 + 1 + 1 < wr.heap.size := lt_of_block HS1.out.box
      have hsk : ∀ i, i < w.heap.size → SK (w.heap.size + 1) (w.heap.size + 1 + 1) i := fun i hi => ⟨by omega, by omega⟩
      have HSP := Lib.hid (show SPR wr (w.heap.size + 1 + 1 + 1) (.slice (some ⟨q, 0, none⟩) k k) w.heap.size (w.heap.size + 1) (w.heap.size + 1 + 1) [] [] from ⟨HS1.out.box, HS1.out.ms, HS1.out.mw, by omega, by simp⟩)
      have HSG := Lib.hid (show SGr wr q k vs cl gi w.heap.size (w.heap.size + 1) (w.heap.size + 1 + 1) from ⟨HQ.out.kept (Kept.ofBelow (X := fun _ => True) HS1.out.bel) trivial, hsk q HQB.out, (HS.out.mono (Z := SK (w.heap.size + 1) (w.heap.size + 1 + 1)) fun i hi _ => hsk i hi).kept (Kept.ofBelow HS1.out.bel), ⟨m, HS1.out.grp.1, HS1.out.grp.2.1, fun x v hv => SlX.ofOwns (HS1.out.grp.2.2.1 x v hv) fun g hg _ => ⟨by omega, by omega⟩⟩, ⟨by omega, by omega⟩⟩)
      have HFX := Lib.hid ((HF.out.mono (Y := SK (w.heap.size + 1) (w.heap.size + 1 + 1)) fun i hi _ => hsk i hi).kept (Kept.ofBelow HS1.out.bel))
      have HBW := Lib.hid HS1.out.bel
      have HSK := Lib.hid hsk
      have HLL2 := Lib.hid (show ∀ c ∈ cl, c.length ≤ 1000000 from fun c hc => by have := HLL.out c hc; omega)
      clear HS1 HG2 hsk hge
      obtain ⟨wB, hwB⟩ : ∃ u, u = wr := ⟨_, rfl⟩
      rw [← hwB] at HSP HSG HFX HBW hsz ⊢
      clear hwB
      generalize hsbE : w.heap.size + 1 + 1 + 1 = sb at HSP hsz ⊢
      generalize hmwE : w.heap.size + 1 + 1 = mw at HSP HSG HFX HSK ⊢
      generalize hmsE : w.heap.size + 1 = ms at HSP HSG HFX HSK ⊢
      (repeat (first | (with_reducible first | refine xA ?_ | refine xB ?_ | refine xC ?_ | refine xD ?_ | refine xH ?_ | refine xI rfl ?_ | refine xE ?_ | refine xF ?_ | refine xG ?_) | go_values | go_skip | go_guarded | go_step | go_upon | go_back | (dsimp only)))
      go_loopw [63] (fun i wr => ∃ (j : Nat) (is wt : List Int), j ≤ fr.length ∧ i = .int .i64 j ∧ Hid (SPR wr (sb) (.slice (some ⟨q, 0, none⟩) k k) w.heap.size ms mw is wt) ∧ Hid (SQ cl fr (fr.take j) is wt cl) ∧ Kept (SK ms mw) wB wr) (fun i _ => fr.length - (intOf i).toNat)
      case atStart => exact ⟨0, [], [], Nat.zero_le _, rfl, HSP, Lib.hid (SQ.start trivial), Kept.refl _ _⟩
      case round =>
        clear HSP
        obtain ⟨j, is, wt, hj, rfl, HSP, HSQ, hK⟩ := hrel
        rcases Nat.lt_or_ge j fr.length with hlt | hge
        · obtain ⟨b, o, rfl, hbs, _, _, hR⟩ := HFX.out.row (by omega)
          obtain ⟨x, hx⟩ : ∃ y, fr[j]? = some y := ⟨_, List.getElem?_eq_getElem hlt⟩
          have hcx := hK.cell (hR j x hx) hbs
          have HXO := Lib.hid (HFR.out x (List.mem_of_getElem? hx))
          have HXM := Lib.hid (List.mem_of_getElem? hx)
          have HTK := Lib.hid (list_upto hx)
          obtain ⟨r, hr⟩ : ∃ r, Hid (holdP is wt x = r) := ⟨_, Lib.hid rfl⟩
          have HA := Lib.hid (hold_any wr HSP.out x HXO.out)
          rw [hr.out] at HA
          clear hR hx
          (repeat (first | (with_reducible first | refine xA ?_ | refine xB ?_ | refine xC ?_ | refine xD ?_ | refine xH ?_ | refine xI rfl ?_ | refine xE ?_ | refine xF ?_ | refine xG ?_) | go_skip | go_guarded | (go_at_call 66; (with_reducible refine (HA.out).mono ?_); rintro _ w4 ⟨rfl, hR4, hK4⟩; have hK24 := hK.trans hK4; rcases r with _ | r; rotate_left; all_goals (simp only [Option.isSome_some, Option.isSome_none])) | go_values | go_skip | go_guarded | go_step | go_upon | go_back | (dsimp only)))
          · have hq6 := HSQ.out.hold (.base x HXM.out) HXO.out hr.out
            exact ⟨⟨j + 1, r.1, r.2, by omega, by go_num, Lib.hid (hR4 r rfl), Lib.hid (by rw [HTK.out]; exact hq6.1), hK24⟩, by simp [intOf]; omega⟩
          · (repeat (first | (with_reducible first | refine xA ?_ | refine xB ?_ | refine xC ?_ | refine xD ?_ | refine xH ?_ | refine xI rfl ?_ | refine xE ?_ | refine xF ?_ | refine xG ?_) | go_values | go_skip | go_guarded | go_step | go_upon | go_back | (dsimp only)))
            go_ret2
            exact .inl ⟨.inl ⟨x, HXM.out, hold_no HSQ.out.sound hr.out⟩, rfl, HBW.out.trans (hK24.toBelow HBW.out.size HSK.out)⟩
        · obtain rfl : j = fr.length := by omega
          have HSQ2 := HSQ.out
          rw [List.take_of_length_le (Nat.le_refl _)] at HSQ2
          have HSQ3 := Lib.hid HSQ2
          clear HSQ HSQ2 hge
          (repeat (first | (with_reducible first | refine xA ?_ | refine xB ?_ | refine xC ?_ | refine xD ?_ | refine xH ?_ | refine xI rfl ?_ | refine xE ?_ | refine xF ?_ | refine xG ?_) | go_values | go_skip | go_guarded | go_step | go_upon | go_back | (dsimp only)))
          go_loopw [74] (fun i wr => ∃ (j : Nat) (is wt : List Int), j ≤ k ∧ i = .int .i64 j ∧ Hid (SPR wr (sb) (.slice (some ⟨q, 0, none⟩) k k) w.heap.size ms mw is wt) ∧ Hid (SQ cl fr fr is wt (cl.drop j)) ∧ Kept (SK ms mw) wB wr) (fun i _ => k - (intOf i).toNat)
          case atStart => exact ⟨0, is, wt, Nat.zero_le _, rfl, HSP, HSQ3, hK⟩
          case round =>
            clear HSP HSQ3 hK is wt
            obtain ⟨j, is, wt, hj, rfl, HSP, HSQ, hK⟩ := hrel
            rcases Nat.lt_or_ge j k with hlt | hge
            · obtain ⟨c, hc⟩ : ∃ c, cl[j]? = some c := ⟨_, List.getElem?_eq_getElem (by have := HN.out; omega)⟩
              obtain ⟨v, hv⟩ : ∃ v, vs[j]? = some v := ⟨_, List.getElem?_eq_getElem (by have := HN.out; have := HSG.out.sls.1; omega)⟩
              have hcv := hK.cell (HSG.out.rows j v hv) HSG.out.sk
              have hsv := (HSG.out.sls.2 j v c hv hc).kept hK
              obtain ⟨av, mv, rfl⟩ := hsv.shape
              obtain ⟨r, hr⟩ : ∃ r, Hid (askP is wt c = r) := ⟨_, Lib.hid rfl⟩
              have HCM := Lib.hid (List.mem_of_getElem? hc)
              have HA := Lib.hid (ask_any wr HSP.out _ c hsv (HCL.out c HCM.out) (HLL2.out c HCM.out) r hr)
              have HQ4 := HSQ.out
              rw [drop_at hc] at HQ4
              have HQ5 := Lib.hid (HQ4.ask HCM.out (HCL.out c HCM.out))
              rw [hr.out] at HQ5
              clear hc hv hsv HQ4
              (repeat (first | (with_reducible first | refine xA ?_ | refine xB ?_ | refine xC ?_ | refine xD ?_ | refine xH ?_ | refine xI rfl ?_ | refine xE ?_ | refine xF ?_ | refine xG ?_) | go_skip | go_guarded | (go_at_call 67; (with_reducible refine (HA.out).mono ?_); rintro _ w4 ⟨rfl, hR4, hK4⟩; have hK24 := hK.trans hK4; rcases r with _ | r; rotate_left; all_goals (simp only [Option.isSome_some, Option.isSome_none])) | go_values | go_skip | go_guarded | go_step | go_upon | go_back | (dsimp only)))
              · have hq6 := HQ5.out.1 r rfl
                exact ⟨⟨j + 1, r.1, r.2, by omega, by go_num, Lib.hid (hR4 r rfl), Lib.hid hq6.1, hK24⟩, by simp [intOf]; omega⟩
              · (repeat (first | (with_reducible first | refine xA ?_ | refine xB ?_ | refine xC ?_ | refine xD ?_ | refine xH ?_ | refine xI rfl ?_ | refine xE ?_ | refine xF ?_ | refine xG ?_) | go_values | go_skip | go_guarded | go_step | go_upon | go_back | (dsimp only)))
                go_ret2
                exact .inl ⟨HQ5.out.2 rfl, rfl, HBW.out.trans (hK24.toBelow HBW.out.size HSK.out)⟩
            · obtain rfl : j = k := by omega
              have HSQ2 := HSQ.out
              rw [List.drop_eq_nil_of_le (by have := HN.out; omega)] at HSQ2
              have HRU := Lib.hid (run_any wr HSP.out (HSG.out.kept hK) HN.out (by omega) HGI.out HCL.out HLL2.out HSQ2)
              clear HSQ HSQ2 hge
              (repeat (first | (with_reducible first | refine xA ?_ | refine xB ?_ | refine xC ?_ | refine xD ?_ | refine xH ?_ | refine xI rfl ?_ | refine xE ?_ | refine xF ?_ | refine xG ?_) | go_skip | go_guarded | (go_at_call 68; (with_reducible refine (HRU.out).mono ?_); rintro _ w5 ⟨b, rfl, hb1, hb2, hK5⟩; have hK25 := hK.trans hK5; cases b; rotate_left) | go_values | go_skip | go_guarded | go_step | go_upon | go_back | (dsimp only)))
              · obtain ⟨is', hSP5, hSQ5⟩ := hb1 rfl
                have c2 : w5.cell? ⟨sb, 2, none⟩ = some (.map (some ms)) := by simp [World.cell?, hSP5.box]
                have hM5 := hSP5.mis
                have HB5 := Lib.hid (HBW.out.trans (hK25.toBelow HBW.out.size HSK.out))
                have HQ5 := Lib.hid hSQ5
                clear hb1 hb2 hSP5 hSQ5 HRU HSP hK
                (repeat (first | (with_reducible first | refine xA ?_ | refine xB ?_ | refine xC ?_ | refine xD ?_ | refine xH ?_ | refine xI rfl ?_ | refine xE ?_ | refine xF ?_ | refine xG ?_) | go_skip | go_guarded | ((with_reducible refine wl_id ?_); refine wl_range rfl _ 39 rfl 3 3 Try.underlying39 ms (oneM is') rfl hM5 ?_; intro w6 hI hb6; (rw [oneM_keys] at hI); (try simp only [Act.put, List.setIfInBounds_toArray, List.set_cons_succ, List.set_cons_zero])) | (show Oper.upon _ _ _ _ _ _; go_simp) | go_values | go_skip | go_guarded | go_step | go_upon | go_back | (dsimp only)))
                have HLN := Lib.hid (okL_len HQ5.out.nod HQ5.out.rng)
                have hlI : (is'.length : Int) ≤ 2097153 := by have := HLN.out; omega
                have HB6 := Lib.hid (HB5.out.trans (hb6.mono HB5.out.size))
                have hrl := hI.lt.1
                have hwi : w.heap.size ≤ w5.heap.size := HB5.out.size
                have hml := hI.lt.2
                generalize hitE : w5.heap.size = it at hI hrl hwi ⊢
                have HB56 : w.heap.size ≤ w6.heap.size := HB6.out.size
                clear hb6 hM5 c2
                go_loopw [15] (fun u wr => ∃ (outs L : List Int), Hid (IterV encI okI wr it ms (oneM is') L) ∧ Hid ((outs ++ L).Perm is') ∧ wr.ownsRow w6.heap.size 3 1 u outs.length (outs.map (Value.int .i64)) ∧ Kept (fun k => k ≠ it) w6 wr) (fun u _ => is'.length - lenOf u)
                case atStart => exact ⟨[], is', Lib.hid hI, Lib.hid (List.Perm.refl _), World.ownsRow_nil _ _ _ _, Kept.refl _ _⟩
                case round =>
                  clear hI
                  obtain ⟨outs, L, HI, HP, hO, hB⟩ := hrel
                  have HO := Lib.hid hO
                  have hle := HP.out.length_eq
                  rw [List.length_append] at hle
                  rcases L with _ | ⟨x0, L⟩
                  · rw [List.append_nil] at HP
                    have HD := Lib.hid (HQ5.out.done (fun x h => h))
                    obtain ⟨z1, hz1⟩ := HONE.out
                    have h1m : z1 ∈ outs := HP.out.mem_iff.2 ((HD.out.1 z1).2 hz1)
                    rcases hO.2 with ⟨_, h0⟩ | ⟨g, cap, cur, rfl, hgb, _⟩
                    · exact absurd h1m (by rw [List.length_eq_zero_iff.1 h0]; simp)
                    · have HRT := Lib.hid (sorted_any wr w6.heap.size g cap outs hO (fun x hx => HQ5.out.rng x (HP.out.mem_iff.1 hx)) (by have := HLN.out; simp at hle; omega))
                      have HGB := Lib.hid hgb
                      clear h1m hO hgb hle hz1
                      (repeat (first | (with_reducible first | refine xA ?_ | refine xB ?_ | refine xC ?_ | refine xD ?_ | refine xH ?_ | refine xI rfl ?_ | refine xE ?_ | refine xF ?_ | refine xG ?_) | go_skip | go_guarded | ((with_reducible refine wl_id ?_); refine wl_next rfl _ rfl (fun x y h => keyI.inj x y h) it ms (oneM is') [] rfl HI.out (fun _ => ?_) (fun x xv w7 hxL => by cases hxL); (try simp only [Act.put, List.setIfInBounds_toArray, List.set_cons_succ, List.set_cons_zero])) | (go_at_call 69; (with_reducible refine (HRT.out).mono ?_); rintro _ w9 ⟨rfl, l', hp9, hs9, hO9, hg9⟩) | go_values | go_skip | go_guarded | go_step | go_upon | go_back | (dsimp only)))
                      go_ret2
                      have hl9 := hp9.length_eq
                      rw [← hl9] at hO9 ⊢
                      have hbw : Below w.heap.size w wr := HB6.out.trans (hB.toBelow HB56 fun i hi => by omega)
                      exact .inr ⟨_, l', is', rfl, owns_base hO9 HB56, HD.out.1, HQ5.out.cons, HQ5.out.nod, hp9.trans HP.out, hs9, HD.out.2, Below.grown hbw hg9 hbw.size (fun i hi => by injection hi with hi; have := HGB.out; omega)⟩
                  · rw [List.length_cons] at hle
                    (repeat (first | (with_reducible first | refine xA ?_ | refine xB ?_ | refine xC ?_ | refine xD ?_ | refine xH ?_ | refine xI rfl ?_ | refine xE ?_ | refine xF ?_ | refine xG ?_) | go_skip | go_guarded | ((with_reducible refine wl_id ?_); refine wl_next rfl _ rfl (fun x y h => keyI.inj x y h) it ms (oneM is') (x0 :: L) rfl HI.out (fun e => by cases e) ?_; intro x xv w7 hxL hxm hI2 hg2 hent; have HI2 := Lib.hid hI2; have HXL := Lib.hid hxL; have HG2 := Lib.hid hg2; have hO7 := HO.out.kept hg2 (.inr (fun e => by have := (HO.out.lt _ e).1; omega)); have HO7 := Lib.hid hO7; have hb7 := hB.grown hg2 (fun q e _ hx => hx (by injection e with e; exact e.symm)); clear hxm hI2 hg2 hxL hO7; (simp only [encI] at hent ⊢); (try simp only [Act.put, List.setIfInBounds_toArray, List.set_cons_succ, List.set_cons_zero])) | ((with_reducible refine wl_id ?_); refine wl_entry rfl _ rfl it rfl _ hent ?_; (try simp only [Act.put, List.setIfInBounds_toArray, List.set_cons_succ, List.set_cons_zero])) | ((with_reducible refine wl_id ?_); refine wl_push rfl _ _ rfl w6.heap.size u15 outs.length outs rfl (HO7.out.alloc _) w7.heap.size x rfl (cell_new _ _ _) (by omega) (by have := hb7.size; simp; omega) ?_; intro v8 w8 hO8 hg8 hl8; (try simp only [Act.put, List.setIfInBounds_toArray, List.set_cons_succ, List.set_cons_zero])) | go_values | go_skip | go_guarded | go_step | go_upon | go_back | (dsimp only)))
                    have k8 : Kept (fun k => k < w6.heap.size) w7 w8 := ((Kept.refl _ w7).alloc _).grown hg8 (fun q e _ hx => by have := (HO7.out.lt q e).1; omega)
                    have hnd := (List.nodup_append.1 (HP.out.nodup_iff.2 HQ5.out.nod)).2.1
                    have e8 := own_len hO8
                    have e7 := own_len hO
                    refine ⟨⟨outs ++ [x], _, Lib.hid (HI2.out.same (k8.block _ HI2.out.lt.2 hml) (k8.block _ HI2.out.lt.1 hrl)), Lib.hid ?_, by simpa using hO8, (hb7.alloc _).grown hg8 (fun q e hlt _ => by have := (HO7.out.lt q e).1; omega)⟩, by rw [e8, e7]; omega⟩
                    rw [List.append_assoc, List.singleton_append]
                    exact (List.Perm.append_left outs (perm_pick hnd HXL.out)).trans HP.out
              · (repeat (first | (with_reducible first | refine xA ?_ | refine xB ?_ | refine xC ?_ | refine xD ?_ | refine xH ?_ | refine xI rfl ?_ | refine xE ?_ | refine xF ?_ | refine xG ?_) | go_values | go_skip | go_guarded | go_step | go_upon | go_back | (dsimp only)))
                go_ret2
                exact .inl ⟨hb2 rfl, rfl, HBW.out.trans (hK25.toBelow HBW.out.size HSK.out)⟩

end Go.Proofs.Ytmaogkgjiplckaa
