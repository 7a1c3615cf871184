import Derived.Test.YtmaogkgjiplckaaGreatQW3
import Derived.Test.YtmaogkgjiplckaaGreatQW1
import Derived.Deep.QuietTactic
import Derived.BigQuiet
import Derived.Deep.WholeRow
import Derived.Test.YtmaogkgjiplckaaGreatQW2
set_option linter.unusedVariables false
set_option linter.unusedSimpArgs false
namespace Go.Proofs.YtmaogkgjiplckaaGreat
open Go.RowKit
def lenOf : Value → Nat
  | .slice _ n _ => n
  | _ => 0
theorem own_len {w : World} {B T n : Nat} {v : Value} {l : List Value} (h : w.ownsRow B T 1 v n l) : lenOf v = n := by
  rcases h.2 with ⟨rfl, h0⟩ | ⟨g, cap, cur, rfl, _⟩
  · exact h0.symm
  · rfl
theorem owns_base {w : World} {B B' T n : Nat} {v : Value} {l : List Value} (h : w.ownsRow B T 1 v n l) (hb : B' ≤ B) : w.ownsRow B' T 1 v n l := by
  rcases h with ⟨b2, ⟨e, r⟩ | ⟨g, cap, cur, e, h1, h2⟩⟩
  · exact ⟨b2, .inl ⟨e, r⟩⟩
  · exact ⟨b2, .inr ⟨g, cap, cur, e, by omega, h2⟩⟩
theorem perm_pick {L : List Int} (hn : L.Nodup) {x : Int} (hx : x ∈ L) : (x :: L.filter fun y => decide (y ≠ x)).Perm L := by
  have h1 := List.perm_cons_erase hx
  rw [hn.erase_eq_filter] at h1
  have : (L.filter fun y => decide (y ≠ x)) = L.filter fun y => y != x := List.filter_congr fun y _ => by simp [bne, Bool.beq_eq_decide_eq]
  rw [this]
  exact h1.symm
structure S1 (w0 : World) (lv : Value) (gi : Int → List Int) (m : List (Int × Value)) (u : World) : Prop where
  box : u.heap[w0.heap.size + 1 + 1 + 1]? = some (.cells #[lv, .map (some w0.heap.size), .map (some (w0.heap.size + 1)), .map (some (w0.heap.size + 1 + 1))] 81 (0, 0))
  ms : MapV encI okI u (w0.heap.size + 1) []
  mw : MapV encI okI u (w0.heap.size + 1 + 1) []
  grp : Grp u (w0.heap.size + 1 + 1 + 1 + 1) w0.heap.size gi m
  bel : Below w0.heap.size w0 u
section
variable {w0 u u2 u3 : World} {lv : Value} {gi : Int → List Int} {m : List (Int × Value)}
theorem S1.same (h : S1 w0 lv gi m u) (hg : u.grownBy u2 none) : S1 w0 lv gi m u2 := by
  have hk : Kept (fun _ => True) u u2 := ⟨hg.os, hg.tape, hg.output, hg.size, fun i hi _ => hg.block i hi (by simp)⟩
  obtain ⟨h1, h2, h3, ⟨g1, g2, g3, g4⟩, h5⟩ := h
  exact ⟨hk.at h1 trivial, h2.kept hk trivial, h3.kept hk trivial, ⟨g1.kept hk trivial, g2, fun x v hx => owns_kept (g3 x v hx) hk fun _ _ => trivial, g4⟩, h5.trans (hk.toBelow h5.size fun _ _ => trivial)⟩
theorem S1.step (h : S1 w0 lv gi m u) {x i : Int} {v' : Value} (hg : u.grownBy u2 ((getM m x).getD (.slice none 0 0)).ownBlock)
    (ho : u2.ownsRow (w0.heap.size + 1 + 1 + 1 + 1) 3 1 v' ((gi x).length + 1) ((gi x ++ [i]).map (Value.int .i64))) (hl : v'.ownBlock = ((getM m x).getD (.slice none 0 0)).ownBlock ∨ ∀ k, v'.ownBlock = some k → u.heap.size ≤ k)
    (hM : MapV encI okI u3 w0.heap.size (putM m x v')) (hg3 : u2.grownBy u3 (some w0.heap.size)) : S1 w0 lv (updG gi x i) (putM m x v') u3 := by
  have ho0 := h.grp.own x
  have hk : Kept (fun k => k < w0.heap.size + 1 + 1 + 1 + 1) u u2 := ⟨hg.os, hg.tape, hg.output, hg.size, fun j hj hx => hg.block j hj (fun e => by have := (ho0.lt j e.symm).1; omega)⟩
  have hk3 : Kept (fun k => k < w0.heap.size + 1 + 1 + 1 + 1 ∧ k ≠ w0.heap.size) u u3 := (hk.mono fun _ _ h => h.1).trans ⟨hg3.os, hg3.tape, hg3.output, hg3.size, fun j hj hx => hg3.block j hj (fun e => hx.2 (by injection e))⟩
  refine ⟨hk3.at h.box ⟨by omega, by omega⟩, h.ms.kept hk3 ⟨by omega, by omega⟩, h.mw.kept hk3 ⟨by omega, by omega⟩, h.grp.put hg ho hl hM hg3 (by omega), h.bel.trans (hk3.toBelow h.bel.size fun k hk => ⟨by omega, by omega⟩)⟩
end
theorem S1.new (w : World) (lv : Value) : S1 w lv (fun _ => []) [] ((((w.alloc (.map #[] 0)).alloc (.map #[] 0)).alloc (.map #[] 0)).alloc (.cells #[lv, .map (some w.heap.size), .map (some (w.heap.size + 1)), .map (some (w.heap.size + 1 + 1))] 81)) := by
  have k0 := MapV.made (enc := encI) (ok := okI) w
  have k1 := MapV.made (enc := encI) (ok := okI) (w.alloc (.map #[] 0))
  have k2 := MapV.made (enc := encI) (ok := okI) ((w.alloc (.map #[] 0)).alloc (.map #[] 0))
  have k3 := heap_alloc_new (((w.alloc (.map #[] 0)).alloc (.map #[] 0)).alloc (.map #[] 0)) (.cells #[lv, .map (some w.heap.size), .map (some (w.heap.size + 1)), .map (some (w.heap.size + 1 + 1))] 81)
  have al : ∀ (u : World) (o : Obj), Kept (fun _ => True) u (u.alloc o) := fun u o => (Kept.refl _ u).alloc o
  simp only [World.size_alloc] at k0 k1 k2 k3
  refine ⟨k3, ?_, ?_, Grp.made ?_, ?_⟩
  · exact ((k1.kept (al _ _) trivial).kept (al _ _) trivial)
  · exact k2.kept (al _ _) trivial
  · exact ((k0.kept (al _ _) trivial).kept (al _ _) trivial).kept (al _ _) trivial
  · exact ((((((Kept.refl (fun _ => True) w).alloc _).alloc _).alloc _).alloc _).toBelow (Nat.le_refl _) fun _ _ => trivial)
theorem S1.alloc {w0 u : World} {lv : Value} {gi : Int → List Int} {m : List (Int × Value)} (h : S1 w0 lv gi m u) (o : Obj) : S1 w0 lv gi m (u.alloc o) := h.same ⟨rfl, rfl, rfl, by simp, fun k hk _ => Below.heap_alloc u o k hk⟩
set_option maxRecDepth 100000 in
set_option maxHeartbeats 4000000 in
theorem Spread_any {Y : Nat → Prop} (w : World) (q n : Nat) (vs : List Value) (cl : List (List Int)) (vf : Value) (fr : List Int) (hq : RowV w q vs) (hqb : q < w.heap.size) (hS : SlsX Y w vs cl) (hn : cl.length = n) (hf : SlX Y w vf fr) (hcl : ∀ c ∈ cl, ∀ x ∈ c, okL x) (hfr : ∀ x ∈ fr, okL x) (hnb : n ≤ 10000000) (hll : ∀ c ∈ cl, c.length ≤ 64) (hfl : fr.length ≤ 1000000) (hone : ∃ x, Der cl fr x) :
    Calls Tryz.prog 10 #[.slice (some ⟨q, 0, none⟩) n n, vf] w fun e w' => (Conflict cl fr ∧ e = .returned (.tuple #[.slice none 0 0, .bool false]) ∧ Below w.heap.size w w') ∨
      ∃ (v : Value) (out is : List Int), e = .returned (.tuple #[v, .bool true]) ∧ w'.ownsRow w.heap.size 3 1 v out.length (out.map (Value.int .i64)) ∧ (∀ x, x ∈ is ↔ Der cl fr x) ∧ (∀ x ∈ is, -x ∉ is) ∧ is.Nodup ∧ out.Perm is ∧ out.Pairwise (fun x y => absI x ≤ absI y) ∧ ¬ Conflict cl fr ∧ Below w.heap.size w w' := by
  have hmm := @run_makeMap Tryz.prog
  obtain ⟨af, mf, rfl⟩ := hf.shape
  have HQ := Lib.hid hq
  have HS := Lib.hid hS
  have HN := Lib.hid hn
  have HF := Lib.hid hf
  have HCL := Lib.hid hcl
  have HFR := Lib.hid hfr
  have HLL := Lib.hid hll
  have HQB := Lib.hid hqb
  have hnI : (n : Int) ≤ 10000000 := by omega
  have hfI : (fr.length : Int) ≤ 1000000 := by omega
  have HONE := Lib.hid hone
  clear hq hS hn hf hcl hfr hll hfl hqb hone
  go_enter Tryz.func10, Tryz.ntmps10
  (repeat (first | (with_reducible first | refine xA ?_ | refine xB ?_ | refine xC ?_ | refine xD ?_ | refine xH ?_ | refine xI rfl ?_ | refine xE ?_ | refine xF ?_ | refine xG ?_) | go_skip | go_guarded | (go_at_call 29; (with_reducible refine (Right_any _ q n vs cl (HQ.out.kept (Kept.ofBelow (X := fun _ => True) (S1.new w _).bel) trivial) (HS.out.kept (Kept.ofBelow (S1.new w _).bel)) HN.out HCL.out (by omega) (fun c hc => by have := HLL.out c hc; omega)).mono ?_); rintro _ w1 ⟨rfl, hw1⟩; have HS1 := Lib.hid (S1.new w (.slice (some ⟨q, 0, none⟩) n n)); (rw [← hw1] at HS1); clear hw1) | (go_at_call 29; (with_reducible refine (Right_any (Y := Y) _ w1.heap.size 1 [.slice af fr.length mf] [fr] (RowV.one _ _ _) (SlsX.one (HF.out.kept (Kept.ofBelow (HS1.out.alloc _).bel))) rfl (fun c hc => by (rw [List.mem_singleton] at hc); subst hc; exact HFR.out) (by omega) (fun c hc => by (rw [List.mem_singleton] at hc); subst hc; omega)).mono ?_); rintro _ w2 ⟨rfl, hw2⟩; replace HS1 := Lib.hid (HS1.out.alloc (.cells #[.slice af fr.length mf] 31)); (rw [← hw2] at HS1); clear hw2) | go_values | go_skip | go_guarded | go_step | go_upon | go_back | (dsimp only)))
  go_loopw [34] (fun i wr => ∃ (k : Nat) (gi : Int → List Int) (m : List (Int × Value)), k ≤ n ∧ i = .int .i64 k ∧ Hid (GI2 cl gi k 0) ∧ Hid (S1 w (.slice (some ⟨q, 0, none⟩) n n) gi m wr)) (fun i _ => n - (intOf i).toNat)
  case atStart => exact ⟨0, _, _, Nat.zero_le _, rfl, Lib.hid GI2.start, HS1⟩
  case round =>
    clear HS1
    obtain ⟨k, gi, m, hk, rfl, HG2, HS1⟩ := hrel
    rcases Nat.lt_or_ge k n with hlt | hge
    · obtain ⟨c, hc⟩ : ∃ c, cl[k]? = some c := ⟨_, List.getElem?_eq_getElem (by have := HN.out; omega)⟩
      obtain ⟨xv, hx⟩ : ∃ x, vs[k]? = some x := ⟨_, List.getElem?_eq_getElem (by have := HN.out; have := HS.out.1; omega)⟩
      have hcx := cell_keep HS1.out.bel (HQ.out k xv hx)
      have hsx := HS.out.2 k xv c hx hc
      have hcl := HLL.out c (List.mem_of_getElem? hc)
      have hclI : (c.length : Int) ≤ 64 := by omega
      have HC := Lib.hid (HCL.out c (List.mem_of_getElem? hc))
      have Hck := Lib.hid hc
      have Hcl := Lib.hid hcl
      obtain ⟨ax, cx, rfl⟩ := hsx.shape
      have HSx := Lib.hid hsx
      clear hsx hc hx hcl
      (repeat (first | (with_reducible first | refine xA ?_ | refine xB ?_ | refine xC ?_ | refine xD ?_ | refine xH ?_ | refine xI rfl ?_ | refine xE ?_ | refine xF ?_ | refine xG ?_) | go_values | go_skip | go_guarded | go_step | go_upon | go_back | (dsimp only)))
      go_loopw [41] (fun i wr => ∃ (j : Nat) (gi : Int → List Int) (m : List (Int × Value)), j ≤ c.length ∧ i = .int .i64 j ∧ Hid (GI2 cl gi k j) ∧ Hid (S1 w (.slice (some ⟨q, 0, none⟩) n n) gi m wr)) (fun i _ => c.length - (intOf i).toNat)
      case atStart => exact ⟨0, gi, m, Nat.zero_le _, rfl, HG2, HS1⟩
      case round =>
        clear HS1 HG2 hcx gi m
        obtain ⟨j, gi, m, hj, rfl, HG2, HS1⟩ := hrel
        rcases Nat.lt_or_ge j c.length with hlt' | hge'
        · obtain ⟨b, o, rfl, _, _, _, hR⟩ := HSx.out.row (by omega)
          obtain ⟨x, hx⟩ : ∃ y, c[j]? = some y := ⟨_, List.getElem?_eq_getElem hlt'⟩
          have hcy := cell_keep HS1.out.bel (hR j x hx)
          have hxo := HC.out x (List.mem_of_getElem? hx)
          have hokx : okI x := ⟨by have := hxo.2.1; omega, by have := hxo.2.2; omega⟩
          have Hx := Lib.hid hx
          clear hR hx hxo
          (repeat (first | (with_reducible first | refine xA ?_ | refine xB ?_ | refine xC ?_ | refine xD ?_ | refine xH ?_ | refine xI rfl ?_ | refine xE ?_ | refine xF ?_ | refine xG ?_) | go_values | go_skip | go_guarded | go_step | go_upon | go_back | (dsimp only)))
          refine wp_region_held (S := fun u => u.heap[w.heap.size + 1 + 1 + 1]? = some (.cells #[.slice (some ⟨q, 0, none⟩) n n, .map (some w.heap.size), .map (some (w.heap.size + 1)), .map (some (w.heap.size + 1 + 1))] 81 (0, 0))) (by kernel_rfl) ?_
          replace HS1 : Hid (S1 w (.slice (some ⟨q, 0, none⟩) n n) gi m ({ wr with drawn := wr.drawn + 1 } : World)) := Lib.hid (HS1.out.same ⟨rfl, rfl, rfl, Nat.le_refl _, fun _ _ _ => rfl⟩)
          clear hcy
          generalize ({ wr with drawn := wr.drawn + 1 } : World) = u0 at *
          have HSb := HS1.out.box
          refine wpAnyH_take (i := 0) (v := .pointer (some ⟨w.heap.size + 1 + 1 + 1, 0, none⟩)) rfl (by kernel_rfl) (by kernel_rfl) (by kernel_rfl) (fun _ _ _ h => h) (Or.inl ⟨rfl, fun w _ => by go_simp⟩) HSb ?_; simp only [Act.put, qz1, qz2, qz3, qz4, qz5, qz6]
          refine wpAnyH_take (i := 1) (v := .pointer (some ⟨w.heap.size + 1 + 1 + 1, 0, none⟩)) rfl (by kernel_rfl) (by kernel_rfl) (by kernel_rfl) (fun _ _ _ h => h) (Or.inl ⟨rfl, fun w _ => by go_simp⟩) HSb ?_; simp only [Act.put, qz1, qz2, qz3, qz4, qz5, qz6]
          refine wpAnyH_take (i := 2) (v := .pointer (some ⟨w.heap.size + 1 + 1 + 1, 1, none⟩)) rfl (by kernel_rfl) (by kernel_rfl) (by kernel_rfl) (fun _ _ _ h => h) (Or.inl ⟨rfl, fun w _ => by go_simp⟩) HSb ?_; simp only [Act.put, qz1, qz2, qz3, qz4, qz5, qz6]
          refine wpAnyH_take (i := 3) (v := .map (some w.heap.size)) rfl (by kernel_rfl) (by kernel_rfl) (by kernel_rfl) (fun _ _ _ h => h) (Or.inl ⟨rfl, fun w hw => by have hx := (box4g hw).2.1; go_simp⟩) HSb ?_
          simp only [Act.put, qz1, qz2, qz3, qz4, qz5, qz6]
          refine wpAnyH_take (i := 4) (v := .int .i64 x) rfl (by kernel_rfl) (by kernel_rfl) (by kernel_rfl) (fun _ _ _ h => h) (Or.inl ⟨rfl, fun w _ => by go_simp⟩) HSb ?_; simp only [Act.put, qz1, qz2, qz3, qz4, qz5, qz6]
          refine wpAnyH_take (i := 5) (v := .pointer (some ⟨w.heap.size + 1 + 1 + 1, 0, none⟩)) rfl (by kernel_rfl) (by kernel_rfl) (by kernel_rfl) (fun _ _ _ h => h) (Or.inl ⟨rfl, fun w _ => by go_simp⟩) HSb ?_; simp only [Act.put, qz1, qz2, qz3, qz4, qz5, qz6]
          refine wpAnyH_take (i := 6) (v := .pointer (some ⟨w.heap.size + 1 + 1 + 1, 0, none⟩)) rfl (by kernel_rfl) (by kernel_rfl) (by kernel_rfl) (fun _ _ _ h => h) (Or.inl ⟨rfl, fun w _ => by go_simp⟩) HSb ?_; simp only [Act.put, qz1, qz2, qz3, qz4, qz5, qz6]
          refine wpAnyH_take (i := 7) (v := .pointer (some ⟨w.heap.size + 1 + 1 + 1, 1, none⟩)) rfl (by kernel_rfl) (by kernel_rfl) (by kernel_rfl) (fun _ _ _ h => h) (Or.inl ⟨rfl, fun w _ => by go_simp⟩) HSb ?_; simp only [Act.put, qz1, qz2, qz3, qz4, qz5, qz6]
          refine wpAnyH_take (i := 8) (v := .map (some w.heap.size)) rfl (by kernel_rfl) (by kernel_rfl) (by kernel_rfl) (fun _ _ _ h => h) (Or.inl ⟨rfl, fun w hw => by have hx := (box4g hw).2.1; go_simp⟩) HSb ?_
          simp only [Act.put, qz1, qz2, qz3, qz4, qz5, qz6]
          refine wpAnyH_take (i := 9) (v := .int .i64 x) rfl (by kernel_rfl) (by kernel_rfl) (by kernel_rfl) (fun _ _ _ h => h) (Or.inl ⟨rfl, fun w _ => by go_simp⟩) HSb ?_; simp only [Act.put, qz1, qz2, qz3, qz4, qz5, qz6]
          refine wpAnyH_take (i := 11) (v := .int .i64 k) rfl (by kernel_rfl) (by kernel_rfl) (by kernel_rfl) (fun _ _ _ h => h) (Or.inl ⟨rfl, fun w _ => by go_simp⟩) HSb ?_; simp only [Act.put, qz1, qz2, qz3, qz4, qz5, qz6]
          obtain ⟨v, hv⟩ : ∃ v, (getM m x).getD (.slice none 0 0) = v := ⟨_, rfl⟩
          have HO0 := HS1.out.grp.own x
          rw [hv] at HO0
          have HV := Lib.hid hv
          have HL := Lib.hid (show (gi x).length ≤ 1000000000 by have := HG2.out.len x; have := Hcl.out; omega)
          have HO := HO0.alloc (.cells #[.int .i64 (k : Int)] 3)
          have HBS := Lib.hid (show w.heap.size + 1 + 1 + 1 < u0.heap.size from lt_of_block HSb)
          have HSa := hp_al u0 (.cells #[.int .i64 (k : Int)] 3) HSb
          clear hv
          refine wpAnyH_all (rs := [10, 12]) (by kernel_rfl) (by simp) (fun i hi => ?_)
          rcases (show i = 10 ∨ i = 12 by simpa using hi) with rfl | rfl
          · refine wpOp_one rfl ?_
            have HM := HS1.out.grp.1
            (repeat (first | (with_reducible first | refine xA ?_ | refine xB ?_ | refine xC ?_ | refine xD ?_ | refine xH ?_ | refine xI rfl ?_ | refine xE ?_ | refine xF ?_ | refine xG ?_) | go_skip | go_guarded | ((with_reducible refine wl_id ?_); refine wl_lookup rfl _ _ 78 false rfl 3 31 keyI Tryz.underlying78 (.slice none 0 0) (zeroS _) w.heap.size m rfl HM x rfl hokx ?_; (simp only [Bool.false_eq_true, if_false]; (rw [HV.out])); (try simp only [Act.put, qz4, qz5, qz6])) | go_values | go_skip | go_guarded | go_step | go_upon | go_back | (dsimp only)))
            refine ⟨HSb, ?_⟩
            refine wpAnyH_all (rs := [12]) (by kernel_rfl) (by simp) (fun i hi => ?_)
            obtain rfl : i = 12 := by simpa using hi
            refine wpOp_one rfl ?_
            (repeat (first | (with_reducible first | refine xA ?_ | refine xB ?_ | refine xC ?_ | refine xD ?_ | refine xH ?_ | refine xI rfl ?_ | refine xE ?_ | refine xF ?_ | refine xG ?_) | go_values | go_skip | go_guarded | go_step | go_upon | go_back | (dsimp only)))
            refine ⟨HSa, ?_⟩
            refine wpAnyH_all (rs := [13]) (by kernel_rfl) (by simp) (fun i hi => ?_); obtain rfl : i = 13 := (by simpa using hi); refine wpOp_one rfl ?_; (repeat (first | (with_reducible first | refine xA ?_ | refine xB ?_ | refine xC ?_ | refine xD ?_ | refine xH ?_ | refine xI rfl ?_ | refine xE ?_ | refine xF ?_ | refine xG ?_) | go_skip | go_guarded | ((with_reducible refine wl_id ?_); refine wl_push rfl _ _ rfl (w.heap.size + 1 + 1 + 1 + 1) v (gi x).length (gi x) rfl HO u0.heap.size (k : Int) rfl (cell_new _ _ _) HL.out (by have := HBS.out; simp; omega) ?_; intro v' u2 hO2 hg2 hl2; (try simp only [Act.put, qz4, qz5, qz6])) | go_values | go_skip | go_guarded | go_step | go_upon | go_back | (dsimp only))); have HG := (World.grownBy_alloc u0 (.cells #[.int .i64 (k : Int)] 3) _).trans hg2; have HSc := (HG.block _ (lt_of_block HSb) (fun e => by have := (HO0.lt _ e.symm).1; omega)).trans HSb; refine ⟨HSc, ?_⟩; refine wpAnyH_all (rs := [14]) (by kernel_rfl) (by simp) (fun i hi => ?_); obtain rfl : i = 14 := (by simpa using hi); refine wpOp_one rfl ?_; have HM2 := HS1.out.grp.1.same (HG.block _ HS1.out.grp.1.lt (fun e => by have := (HO0.lt _ e.symm).1; omega)); (repeat (first | (with_reducible first | refine xA ?_ | refine xB ?_ | refine xC ?_ | refine xD ?_ | refine xH ?_ | refine xI rfl ?_ | refine xE ?_ | refine xF ?_ | refine xG ?_) | go_skip | go_guarded | ((with_reducible refine wl_id ?_); refine wl_mapUpdate rfl _ _ _ 78 rfl _ _ keyI Tryz.underlying78 w.heap.size m rfl HM2 x rfl hokx v' rfl ?_; intro u3 hM3 hg3; (try simp only [Act.put, qz4, qz5, qz6])) | go_values | go_skip | go_guarded | go_step | go_upon | go_back | (dsimp only))); have HSd := (hg3.block _ (lt_of_block HSc) (fun e => by injection e with e; omega)).trans HSc; refine ⟨HSd, ?_⟩; refine wpAnyH_done (by kernel_rfl) ?_ _; have HS3 := Lib.hid (HS1.out.step (x := x) (i := (k : Int)) (by (rw [HV.out]; exact HG)) hO2 (by (rw [HV.out]; exact hl2.imp id (fun e k ek => by (rw [e] at ek; cases ek; simp)))) hM3 hg3); clear HSd HSc HM2 hM3 hg3 hg2 hl2 hO2 HG HM HSa HO HO0; (repeat (first | (with_reducible first | refine xA ?_ | refine xB ?_ | refine xC ?_ | refine xD ?_ | refine xH ?_ | refine xI rfl ?_ | refine xE ?_ | refine xF ?_ | refine xG ?_) | go_values | go_skip | go_guarded | go_step | go_upon | go_back | (dsimp only))); exact ⟨⟨j + 1, _, _, by omega, by go_num, Lib.hid (HG2.out.nextJ Hck.out Hx.out), HS3⟩, by simp [intOf]; omega⟩
          · refine wpOp_one rfl ?_
            (repeat (first | (with_reducible first | refine xA ?_ | refine xB ?_ | refine xC ?_ | refine xD ?_ | refine xH ?_ | refine xI rfl ?_ | refine xE ?_ | refine xF ?_ | refine xG ?_) | go_values | go_skip | go_guarded | go_step | go_upon | go_back | (dsimp only)))
            refine ⟨HSa, ?_⟩
            refine wpAnyH_all (rs := [10]) (by kernel_rfl) (by simp) (fun i hi => ?_)
            obtain rfl : i = 10 := by simpa using hi
            refine wpOp_one rfl ?_
            have HM := (HS1.out.alloc (.cells #[.int .i64 (k : Int)] 3)).grp.1
            (repeat (first | (with_reducible first | refine xA ?_ | refine xB ?_ | refine xC ?_ | refine xD ?_ | refine xH ?_ | refine xI rfl ?_ | refine xE ?_ | refine xF ?_ | refine xG ?_) | go_skip | go_guarded | ((with_reducible refine wl_id ?_); refine wl_lookup rfl _ _ 78 false rfl 3 31 keyI Tryz.underlying78 (.slice none 0 0) (zeroS _) w.heap.size m rfl HM x rfl hokx ?_; (simp only [Bool.false_eq_true, if_false]; (rw [HV.out])); (try simp only [Act.put, qz4, qz5, qz6])) | go_values | go_skip | go_guarded | go_step | go_upon | go_back | (dsimp only)))
            refine ⟨HSa, ?_⟩
            refine wpAnyH_all (rs := [13]) (by kernel_rfl) (by simp) (fun i hi => ?_); obtain rfl : i = 13 := (by simpa using hi); refine wpOp_one rfl ?_; (repeat (first | (with_reducible first | refine xA ?_ | refine xB ?_ | refine xC ?_ | refine xD ?_ | refine xH ?_ | refine xI rfl ?_ | refine xE ?_ | refine xF ?_ | refine xG ?_) | go_skip | go_guarded | ((with_reducible refine wl_id ?_); refine wl_push rfl _ _ rfl (w.heap.size + 1 + 1 + 1 + 1) v (gi x).length (gi x) rfl HO u0.heap.size (k : Int) rfl (cell_new _ _ _) HL.out (by have := HBS.out; simp; omega) ?_; intro v' u2 hO2 hg2 hl2; (try simp only [Act.put, qz4, qz5, qz6])) | go_values | go_skip | go_guarded | go_step | go_upon | go_back | (dsimp only))); have HG := (World.grownBy_alloc u0 (.cells #[.int .i64 (k : Int)] 3) _).trans hg2; have HSc := (HG.block _ (lt_of_block HSb) (fun e => by have := (HO0.lt _ e.symm).1; omega)).trans HSb; refine ⟨HSc, ?_⟩; refine wpAnyH_all (rs := [14]) (by kernel_rfl) (by simp) (fun i hi => ?_); obtain rfl : i = 14 := (by simpa using hi); refine wpOp_one rfl ?_; have HM2 := HS1.out.grp.1.same (HG.block _ HS1.out.grp.1.lt (fun e => by have := (HO0.lt _ e.symm).1; omega)); (repeat (first | (with_reducible first | refine xA ?_ | refine xB ?_ | refine xC ?_ | refine xD ?_ | refine xH ?_ | refine xI rfl ?_ | refine xE ?_ | refine xF ?_ | refine xG ?_) | go_skip | go_guarded | ((with_reducible refine wl_id ?_); refine wl_mapUpdate rfl _ _ _ 78 rfl _ _ keyI Tryz.underlying78 w.heap.size m rfl HM2 x rfl hokx v' rfl ?_; intro u3 hM3 hg3; (try simp only [Act.put, qz4, qz5, qz6])) | go_values | go_skip | go_guarded | go_step | go_upon | go_back | (dsimp only))); have HSd := (hg3.block _ (lt_of_block HSc) (fun e => by injection e with e; omega)).trans HSc; refine ⟨HSd, ?_⟩; refine wpAnyH_done (by kernel_rfl) ?_ _; have HS3 := Lib.hid (HS1.out.step (x := x) (i := (k : Int)) (by (rw [HV.out]; exact HG)) hO2 (by (rw [HV.out]; exact hl2.imp id (fun e k ek => by (rw [e] at ek; cases ek; simp)))) hM3 hg3); clear HSd HSc HM2 hM3 hg3 hg2 hl2 hO2 HG HM HSa HO HO0; (repeat (first | (with_reducible first | refine xA ?_ | refine xB ?_ | refine xC ?_ | refine xD ?_ | refine xH ?_ | refine xI rfl ?_ | refine xE ?_ | refine xF ?_ | refine xG ?_) | go_values | go_skip | go_guarded | go_step | go_upon | go_back | (dsimp only))); exact ⟨⟨j + 1, _, _, by omega, by go_num, Lib.hid (HG2.out.nextJ Hck.out Hx.out), HS3⟩, by simp [intOf]; omega⟩
        · obtain rfl : j = c.length := by omega
          (repeat (first | (with_reducible first | refine xA ?_ | refine xB ?_ | refine xC ?_ | refine xD ?_ | refine xH ?_ | refine xI rfl ?_ | refine xE ?_ | refine xF ?_ | refine xG ?_) | go_values | go_skip | go_guarded | go_step | go_upon | go_back | (dsimp only)))
          exact ⟨⟨k + 1, gi, m, by omega, by go_num, Lib.hid (HG2.out.nextK Hck.out rfl Hcl.out), HS1⟩, by simp [intOf]; omega⟩
    · obtain rfl : k = n := by omega
      have HGI := Lib.hid (HG2.out.done HN.out.symm (by have := HN.out; omega))
      have hsz : w.heap.size + 1 + 1 + 1 < wr.heap.size := lt_of_block HS1.out.box
      have hsk : ∀ i, i < w.heap.size → SK (w.heap.size + 1) (w.heap.size + 1 + 1) i := fun i hi => ⟨by omega, by omega⟩
      have HSP := Lib.hid (show SPR wr (w.heap.size + 1 + 1 + 1) (.slice (some ⟨q, 0, none⟩) k k) w.heap.size (w.heap.size + 1) (w.heap.size + 1 + 1) [] [] from ⟨HS1.out.box, HS1.out.ms, HS1.out.mw, by omega, by simp⟩)
      have HSG := Lib.hid (show SGr wr q k vs cl gi w.heap.size (w.heap.size + 1) (w.heap.size + 1 + 1) from ⟨HQ.out.kept (Kept.ofBelow (X := fun _ => True) HS1.out.bel) trivial, hsk q HQB.out, (HS.out.mono (Z := SK (w.heap.size + 1) (w.heap.size + 1 + 1)) fun i hi _ => hsk i hi).kept (Kept.ofBelow HS1.out.bel), ⟨m, HS1.out.grp.1, HS1.out.grp.2.1, fun x v hv => SlX.ofOwns (HS1.out.grp.2.2.1 x v hv) fun g hg _ => ⟨by omega, by omega⟩⟩, ⟨by omega, by omega⟩⟩)
      have HFX := Lib.hid ((HF.out.mono (Y := SK (w.heap.size + 1) (w.heap.size + 1 + 1)) fun i hi _ => hsk i hi).kept (Kept.ofBelow HS1.out.bel))
      have HBW := Lib.hid HS1.out.bel
      have HSK := Lib.hid hsk
      have HLL2 := Lib.hid (show ∀ c ∈ cl, c.length ≤ 1000000 from fun c hc => by have := HLL.out c hc; omega)
      clear HS1 HG2 hsk hge
      obtain ⟨wB, hwB⟩ : ∃ u, u = wr := ⟨_, rfl⟩
      rw [← hwB] at HSP HSG HFX HBW hsz ⊢
      clear hwB
      generalize hsbE : w.heap.size + 1 + 1 + 1 = sb at HSP hsz ⊢
      generalize hmwE : w.heap.size + 1 + 1 = mw at HSP HSG HFX HSK ⊢
      generalize hmsE : w.heap.size + 1 = ms at HSP HSG HFX HSK ⊢
      (repeat (first | (with_reducible first | refine xA ?_ | refine xB ?_ | refine xC ?_ | refine xD ?_ | refine xH ?_ | refine xI rfl ?_ | refine xE ?_ | refine xF ?_ | refine xG ?_) | go_values | go_skip | go_guarded | go_step | go_upon | go_back | (dsimp only)))
      go_loopw [63] (fun i wr => ∃ (j : Nat) (is wt : List Int), j ≤ fr.length ∧ i = .int .i64 j ∧ Hid (SPR wr (sb) (.slice (some ⟨q, 0, none⟩) k k) w.heap.size ms mw is wt) ∧ Hid (SQ cl fr (fr.take j) is wt cl) ∧ Kept (SK ms mw) wB wr) (fun i _ => fr.length - (intOf i).toNat)
      case atStart => exact ⟨0, [], [], Nat.zero_le _, rfl, HSP, Lib.hid (SQ.start trivial), Kept.refl _ _⟩
      case round =>
        clear HSP
        obtain ⟨j, is, wt, hj, rfl, HSP, HSQ, hK⟩ := hrel
        rcases Nat.lt_or_ge j fr.length with hlt | hge
        · obtain ⟨b, o, rfl, hbs, _, _, hR⟩ := HFX.out.row (by omega)
          obtain ⟨x, hx⟩ : ∃ y, fr[j]? = some y := ⟨_, List.getElem?_eq_getElem hlt⟩
          have hcx := hK.cell (hR j x hx) hbs
          have HXO := Lib.hid (HFR.out x (List.mem_of_getElem? hx))
          have HXM := Lib.hid (List.mem_of_getElem? hx)
          have HTK := Lib.hid (list_upto hx)
          obtain ⟨r, hr⟩ : ∃ r, Hid (holdP is wt x = r) := ⟨_, Lib.hid rfl⟩
          have HA := Lib.hid (hold_any wr HSP.out x HXO.out)
          rw [hr.out] at HA
          clear hR hx
          (repeat (first | (with_reducible first | refine xA ?_ | refine xB ?_ | refine xC ?_ | refine xD ?_ | refine xH ?_ | refine xI rfl ?_ | refine xE ?_ | refine xF ?_ | refine xG ?_) | go_skip | go_guarded | (go_at_call 30; (with_reducible refine (HA.out).mono ?_); rintro _ w4 ⟨rfl, hR4, hK4⟩; have hK24 := hK.trans hK4; rcases r with _ | r; rotate_left; all_goals (simp only [Option.isSome_some, Option.isSome_none])) | go_values | go_skip | go_guarded | go_step | go_upon | go_back | (dsimp only)))
          · have hq6 := HSQ.out.hold (.base x HXM.out) HXO.out hr.out
            exact ⟨⟨j + 1, r.1, r.2, by omega, by go_num, Lib.hid (hR4 r rfl), Lib.hid (by rw [HTK.out]; exact hq6.1), hK24⟩, by simp [intOf]; omega⟩
          · (repeat (first | (with_reducible first | refine xA ?_ | refine xB ?_ | refine xC ?_ | refine xD ?_ | refine xH ?_ | refine xI rfl ?_ | refine xE ?_ | refine xF ?_ | refine xG ?_) | go_values | go_skip | go_guarded | go_step | go_upon | go_back | (dsimp only)))
            go_ret2
            exact .inl ⟨.inl ⟨x, HXM.out, hold_no HSQ.out.sound hr.out⟩, rfl, HBW.out.trans (hK24.toBelow HBW.out.size HSK.out)⟩
        · obtain rfl : j = fr.length := by omega
          have HSQ2 := HSQ.out
          rw [List.take_of_length_le (Nat.le_refl _)] at HSQ2
          have HSQ3 := Lib.hid HSQ2
          clear HSQ HSQ2 hge
          (repeat (first | (with_reducible first | refine xA ?_ | refine xB ?_ | refine xC ?_ | refine xD ?_ | refine xH ?_ | refine xI rfl ?_ | refine xE ?_ | refine xF ?_ | refine xG ?_) | go_values | go_skip | go_guarded | go_step | go_upon | go_back | (dsimp only)))
          go_loopw [74] (fun i wr => ∃ (j : Nat) (is wt : List Int), j ≤ k ∧ i = .int .i64 j ∧ Hid (SPR wr (sb) (.slice (some ⟨q, 0, none⟩) k k) w.heap.size ms mw is wt) ∧ Hid (SQ cl fr fr is wt (cl.drop j)) ∧ Kept (SK ms mw) wB wr) (fun i _ => k - (intOf i).toNat)
          case atStart => exact ⟨0, is, wt, Nat.zero_le _, rfl, HSP, HSQ3, hK⟩
          case round =>
            clear HSP HSQ3 hK is wt
            obtain ⟨j, is, wt, hj, rfl, HSP, HSQ, hK⟩ := hrel
            rcases Nat.lt_or_ge j k with hlt | hge
            · obtain ⟨c, hc⟩ : ∃ c, cl[j]? = some c := ⟨_, List.getElem?_eq_getElem (by have := HN.out; omega)⟩
              obtain ⟨v, hv⟩ : ∃ v, vs[j]? = some v := ⟨_, List.getElem?_eq_getElem (by have := HN.out; have := HSG.out.sls.1; omega)⟩
              have hcv := hK.cell (HSG.out.rows j v hv) HSG.out.sk
              have hsv := (HSG.out.sls.2 j v c hv hc).kept hK
              obtain ⟨av, mv, rfl⟩ := hsv.shape
              obtain ⟨r, hr⟩ : ∃ r, Hid (askP is wt c = r) := ⟨_, Lib.hid rfl⟩
              have HCM := Lib.hid (List.mem_of_getElem? hc)
              have HA := Lib.hid (ask_any wr HSP.out _ c hsv (HCL.out c HCM.out) (HLL2.out c HCM.out) r hr)
              have HQ4 := HSQ.out
              rw [drop_at hc] at HQ4
              have HQ5 := Lib.hid (HQ4.ask HCM.out (HCL.out c HCM.out))
              rw [hr.out] at HQ5
              clear hc hv hsv HQ4
              (repeat (first | (with_reducible first | refine xA ?_ | refine xB ?_ | refine xC ?_ | refine xD ?_ | refine xH ?_ | refine xI rfl ?_ | refine xE ?_ | refine xF ?_ | refine xG ?_) | go_skip | go_guarded | (go_at_call 31; (with_reducible refine (HA.out).mono ?_); rintro _ w4 ⟨rfl, hR4, hK4⟩; have hK24 := hK.trans hK4; rcases r with _ | r; rotate_left; all_goals (simp only [Option.isSome_some, Option.isSome_none])) | go_values | go_skip | go_guarded | go_step | go_upon | go_back | (dsimp only)))
              · have hq6 := HQ5.out.1 r rfl
                exact ⟨⟨j + 1, r.1, r.2, by omega, by go_num, Lib.hid (hR4 r rfl), Lib.hid hq6.1, hK24⟩, by simp [intOf]; omega⟩
              · (repeat (first | (with_reducible first | refine xA ?_ | refine xB ?_ | refine xC ?_ | refine xD ?_ | refine xH ?_ | refine xI rfl ?_ | refine xE ?_ | refine xF ?_ | refine xG ?_) | go_values | go_skip | go_guarded | go_step | go_upon | go_back | (dsimp only)))
                go_ret2
                exact .inl ⟨HQ5.out.2 rfl, rfl, HBW.out.trans (hK24.toBelow HBW.out.size HSK.out)⟩
            · obtain rfl : j = k := by omega
              have HSQ2 := HSQ.out
              rw [List.drop_eq_nil_of_le (by have := HN.out; omega)] at HSQ2
              have HRU := Lib.hid (run_any wr HSP.out (HSG.out.kept hK) HN.out (by omega) HGI.out HCL.out HLL2.out HSQ2)
              clear HSQ HSQ2 hge
              (repeat (first | (with_reducible first | refine xA ?_ | refine xB ?_ | refine xC ?_ | refine xD ?_ | refine xH ?_ | refine xI rfl ?_ | refine xE ?_ | refine xF ?_ | refine xG ?_) | go_skip | go_guarded | (go_at_call 32; (with_reducible refine (HRU.out).mono ?_); rintro _ w5 ⟨b, rfl, hb1, hb2, hK5⟩; have hK25 := hK.trans hK5; cases b; rotate_left) | go_values | go_skip | go_guarded | go_step | go_upon | go_back | (dsimp only)))
              · obtain ⟨is', hSP5, hSQ5⟩ := hb1 rfl
                have c2 : w5.cell? ⟨sb, 2, none⟩ = some (.map (some ms)) := by simp [World.cell?, hSP5.box]
                have hM5 := hSP5.mis
                have HB5 := Lib.hid (HBW.out.trans (hK25.toBelow HBW.out.size HSK.out))
                have HQ5 := Lib.hid hSQ5
                clear hb1 hb2 hSP5 hSQ5 HRU HSP hK
                (repeat (first | (with_reducible first | refine xA ?_ | refine xB ?_ | refine xC ?_ | refine xD ?_ | refine xH ?_ | refine xI rfl ?_ | refine xE ?_ | refine xF ?_ | refine xG ?_) | go_skip | go_guarded | ((with_reducible refine wl_id ?_); refine wl_range rfl _ 79 rfl 3 3 Tryz.underlying79 ms (oneM is') rfl hM5 ?_; intro w6 hI hb6; (rw [oneM_keys] at hI); (try simp only [Act.put, qz4, qz5, qz6])) | ((with_reducible show Oper.upon _ _ _ _ _ _); go_simp) | go_values | go_skip | go_guarded | go_step | go_upon | go_back | (dsimp only)))
                have HLN := Lib.hid (okL_len HQ5.out.nod HQ5.out.rng)
                have hlI : (is'.length : Int) ≤ 2097153 := by have := HLN.out; omega
                have HB6 := Lib.hid (HB5.out.trans (hb6.mono HB5.out.size))
                have hrl := hI.lt.1
                have hwi : w.heap.size ≤ w5.heap.size := HB5.out.size
                have hml := hI.lt.2
                generalize hitE : w5.heap.size = it at hI hrl hwi ⊢
                have HB56 : w.heap.size ≤ w6.heap.size := HB6.out.size
                clear hb6 hM5 c2
                go_loopw [15] (fun u wr => ∃ (outs L : List Int), Hid (IterV encI okI wr it ms (oneM is') L) ∧ Hid ((outs ++ L).Perm is') ∧ wr.ownsRow w6.heap.size 3 1 u outs.length (outs.map (Value.int .i64)) ∧ Kept (fun k => k ≠ it) w6 wr) (fun u _ => is'.length - lenOf u)
                case atStart => exact ⟨[], is', Lib.hid hI, Lib.hid (List.Perm.refl _), World.ownsRow_nil _ _ _ _, Kept.refl _ _⟩
                case round =>
                  clear hI
                  obtain ⟨outs, L, HI, HP, hO, hB⟩ := hrel
                  have HO := Lib.hid hO
                  have hle := HP.out.length_eq
                  rw [List.length_append] at hle
                  rcases L with _ | ⟨x0, L⟩
                  · rw [List.append_nil] at HP
                    have HD := Lib.hid (HQ5.out.done (fun x h => h))
                    obtain ⟨z1, hz1⟩ := HONE.out
                    have h1m : z1 ∈ outs := HP.out.mem_iff.2 ((HD.out.1 z1).2 hz1)
                    rcases hO.2 with ⟨_, h0⟩ | ⟨g, cap, cur, rfl, hgb, _⟩
                    · exact absurd h1m (by rw [List.length_eq_zero_iff.1 h0]; simp)
                    · have HRT := Lib.hid (sorted_any wr w6.heap.size g cap outs hO (fun x hx => HQ5.out.rng x (HP.out.mem_iff.1 hx)) (by have := HLN.out; simp at hle; omega))
                      have HGB := Lib.hid hgb
                      clear h1m hO hgb hle hz1
                      (repeat (first | (with_reducible first | refine xA ?_ | refine xB ?_ | refine xC ?_ | refine xD ?_ | refine xH ?_ | refine xI rfl ?_ | refine xE ?_ | refine xF ?_ | refine xG ?_) | go_skip | go_guarded | ((with_reducible refine wl_id ?_); refine wl_next rfl _ rfl (fun x y h => keyI.inj x y h) it ms (oneM is') [] rfl HI.out (fun _ => ?_) (fun x xv w7 hxL => by cases hxL); (try simp only [Act.put, qz4, qz5, qz6])) | (go_at_call 33; (with_reducible refine (HRT.out).mono ?_); rintro _ w9 ⟨rfl, l', hp9, hs9, hO9, hg9⟩) | go_values | go_skip | go_guarded | go_step | go_upon | go_back | (dsimp only)))
                      go_ret2
                      have hl9 := hp9.length_eq
                      rw [← hl9] at hO9 ⊢
                      have hbw : Below w.heap.size w wr := HB6.out.trans (hB.toBelow HB56 fun i hi => by omega)
                      exact .inr ⟨_, l', is', rfl, owns_base hO9 HB56, HD.out.1, HQ5.out.cons, HQ5.out.nod, hp9.trans HP.out, hs9, HD.out.2, Below.grown hbw hg9 hbw.size (fun i hi => by injection hi with hi; have := HGB.out; omega)⟩
                  · rw [List.length_cons] at hle
                    (repeat (first | (with_reducible first | refine xA ?_ | refine xB ?_ | refine xC ?_ | refine xD ?_ | refine xH ?_ | refine xI rfl ?_ | refine xE ?_ | refine xF ?_ | refine xG ?_) | go_skip | go_guarded | ((with_reducible refine wl_id ?_); refine wl_next rfl _ rfl (fun x y h => keyI.inj x y h) it ms (oneM is') (x0 :: L) rfl HI.out (fun e => by cases e) ?_; intro x xv w7 hxL hxm hI2 hg2 hent; have HI2 := Lib.hid hI2; have HXL := Lib.hid hxL; have HG2 := Lib.hid hg2; have hO7 := HO.out.kept hg2 (.inr (fun e => by have := (HO.out.lt _ e).1; omega)); have HO7 := Lib.hid hO7; have hb7 := hB.grown hg2 (fun q e _ hx => hx (by injection e with e; exact e.symm)); clear hxm hI2 hg2 hxL hO7; (simp only [encI] at hent ⊢); (try simp only [Act.put, qz4, qz5, qz6])) | ((with_reducible refine wl_id ?_); refine wl_entry rfl _ rfl it rfl _ hent ?_; (try simp only [Act.put, qz4, qz5, qz6])) | ((with_reducible refine wl_id ?_); refine wl_push rfl _ _ rfl w6.heap.size u15 outs.length outs rfl (HO7.out.alloc _) w7.heap.size x rfl (cell_new _ _ _) (by omega) (by have := hb7.size; simp; omega) ?_; intro v8 w8 hO8 hg8 hl8; (try simp only [Act.put, qz4, qz5, qz6])) | go_values | go_skip | go_guarded | go_step | go_upon | go_back | (dsimp only)))
                    have k8 : Kept (fun k => k < w6.heap.size) w7 w8 := ((Kept.refl _ w7).alloc _).grown hg8 (fun q e _ hx => by have := (HO7.out.lt q e).1; omega)
                    have hnd := (List.nodup_append.1 (HP.out.nodup_iff.2 HQ5.out.nod)).2.1
                    have e8 := own_len hO8
                    have e7 := own_len hO
                    refine ⟨⟨outs ++ [x], _, Lib.hid (HI2.out.same (k8.block _ HI2.out.lt.2 hml) (k8.block _ HI2.out.lt.1 hrl)), Lib.hid ?_, by simpa using hO8, (hb7.alloc _).grown hg8 (fun q e hlt _ => by have := (HO7.out.lt q e).1; omega)⟩, by rw [e8, e7]; omega⟩
                    rw [List.append_assoc, List.singleton_append]
                    exact (List.Perm.append_left outs (perm_pick hnd HXL.out)).trans HP.out
              · (repeat (first | (with_reducible first | refine xA ?_ | refine xB ?_ | refine xC ?_ | refine xD ?_ | refine xH ?_ | refine xI rfl ?_ | refine xE ?_ | refine xF ?_ | refine xG ?_) | go_values | go_skip | go_guarded | go_step | go_upon | go_back | (dsimp only)))
                go_ret2
                exact .inl ⟨hb2 rfl, rfl, HBW.out.trans (hK25.toBelow HBW.out.size HSK.out)⟩
end Go.Proofs.YtmaogkgjiplckaaGreat
namespace Go.Proofs.YtmaogkgjiplckaaGreat
open Go.RowKit
theorem isL_ok {n : Nat} {x : Int} (h : isL n x) (hn : n ≤ 1048576) : okL x := ⟨h.1, by have := h.2.2; omega, by have := h.2.1; omega⟩
theorem GI.ne {g : G} {fr : List Int} {s : Nat → Bool} (h : GI g fr s) : ∀ c ∈ g.cl, c ≠ [] := by
  rintro c hc rfl
  obtain ⟨x, hx, _⟩ := h.sat [] hc
  cases hx
theorem GI.der1 {g : G} {fr : List Int} {s : Nat → Bool} (h : GI g fr s) : ∃ x, Der g.cl fr x := ⟨_, h.det 1 (Nat.le_refl _) h.pos⟩
end Go.Proofs.YtmaogkgjiplckaaGreat
namespace Go.Proofs.YtmaogkgjiplckaaGreat
open Go.RowKit
set_option maxRecDepth 100000 in
theorem Is_any {Y : Nat → Prop} (w : World) (va : Value) (n : Nat) (s : Nat → Bool) (ha : SlX Y w va (toldL n s)) (x : Int) (hx : isL n x) (hn : n ≤ 1048576) (r : Bool) (hr : Hid (lit s x = r)) :
    Calls Tryz.prog 19 #[va, .int .i64 x] w fun e w' => e = .returned (.tuple #[.bool r, .bool true]) ∧ w' = w := by
  obtain ⟨ao, c, rfl⟩ := ha.shape
  obtain ⟨h0, h1, h2⟩ := hx
  have hl := toldL_len n s
  have hp : 0 < (toldL n s).length := by omega
  obtain ⟨b, o, rfl, _, _, _, hR⟩ := ha.row hp
  rw [hl]
  obtain ⟨V, hV⟩ : ∃ V : Int, absI x = V := ⟨_, rfl⟩
  have hV1 : 1 ≤ V ∧ V ≤ n := by unfold absI at hV; split at hV <;> omega
  have hg := toldL_get n s (V - 1).toNat (by omega)
  have hc' := hR (V - 1).toNat _ hg
  rw [show (V - 1).toNat + 1 = V.toNat by omega, show ((V - 1).toNat : Int) + 1 = V by omega, show (V - 1).toNat = V.toNat - 1 by omega] at hc'
  have i1 : ¬ V < 1 := by omega
  have i2 : ¬ V > (n : Int) := by omega
  have i3 : (0 : Int) ≤ V - 1 := by omega
  have i4 : V - 1 < (n : Int) := by omega
  have i6 : V ≤ 1048576 := by omega
  clear hg hR ha
  by_cases hx0 : x < 0
  · have ex : x = -V := by unfold absI at hV; rw [if_pos hx0] at hV; omega
    subst ex
    have hr' : r = !s V.toNat := by rw [← hr.out]; unfold lit; rw [if_neg (by omega), Int.neg_neg]
    have e0 : -(-V) = V := by omega
    cases hs : s V.toNat
    · rw [hs] at hc' hr'
      subst hr'
      simp only [Bool.false_eq_true, if_false] at hc'
      have t1 : (-V != V) = true := by simp; omega
      have t2 : (-V != -V) = false := by simp
      have t3 : (-V == -V) = true := by simp
      go_enter Tryz.func19, Tryz.ntmps19
      (repeat (first | (with_reducible first | refine xA ?_ | refine xB ?_ | refine xC ?_ | refine xD ?_ | refine xH ?_ | refine xI rfl ?_ | refine xE ?_ | refine xF ?_ | refine xG ?_) | go_values | go_skip | go_guarded | go_step | go_upon | go_back | ((with_reducible show Oper.upon _ _ _ _ _ _); go_simp) | (dsimp only)))
      go_ret2
      exact ⟨rfl, rfl⟩
    · rw [hs] at hc' hr'
      subst hr'
      simp only [if_true] at hc'
      have t1 : (V != V) = false := by simp
      have t3 : (V == -V) = false := by simp; omega
      go_enter Tryz.func19, Tryz.ntmps19
      (repeat (first | (with_reducible first | refine xA ?_ | refine xB ?_ | refine xC ?_ | refine xD ?_ | refine xH ?_ | refine xI rfl ?_ | refine xE ?_ | refine xF ?_ | refine xG ?_) | go_values | go_skip | go_guarded | go_step | go_upon | go_back | ((with_reducible show Oper.upon _ _ _ _ _ _); go_simp) | (dsimp only)))
      go_ret2
      exact ⟨rfl, rfl⟩
  · have ex : V = x := by unfold absI at hV; rw [if_neg hx0] at hV; omega
    subst ex
    have hr' : r = s V.toNat := by rw [← hr.out]; unfold lit; rw [if_pos (by omega)]
    cases hs : s V.toNat
    · rw [hs] at hc' hr'
      subst hr'
      simp only [Bool.false_eq_true, if_false] at hc'
      have t1 : (-V != V) = true := by simp; omega
      have t2 : (-V != -V) = false := by simp
      have t3 : (-V == V) = false := by simp; omega
      go_enter Tryz.func19, Tryz.ntmps19
      (repeat (first | (with_reducible first | refine xA ?_ | refine xB ?_ | refine xC ?_ | refine xD ?_ | refine xH ?_ | refine xI rfl ?_ | refine xE ?_ | refine xF ?_ | refine xG ?_) | go_values | go_skip | go_guarded | go_step | go_upon | go_back | ((with_reducible show Oper.upon _ _ _ _ _ _); go_simp) | (dsimp only)))
      go_ret2
      exact ⟨rfl, rfl⟩
    · rw [hs] at hc' hr'
      subst hr'
      simp only [if_true] at hc'
      have t1 : (V != V) = false := by simp
      have t3 : (V == V) = true := by simp
      go_enter Tryz.func19, Tryz.ntmps19
      (repeat (first | (with_reducible first | refine xA ?_ | refine xB ?_ | refine xC ?_ | refine xD ?_ | refine xH ?_ | refine xI rfl ?_ | refine xE ?_ | refine xF ?_ | refine xG ?_) | go_values | go_skip | go_guarded | go_step | go_upon | go_back | ((with_reducible show Oper.upon _ _ _ _ _ _); go_simp) | (dsimp only)))
      go_ret2
      exact ⟨rfl, rfl⟩
end Go.Proofs.YtmaogkgjiplckaaGreat
namespace Go.Proofs.YtmaogkgjiplckaaGreat
open Go.RowKit
def Int1 (X : Nat → Prop) (base gb : Nat) (w : World) (r : G × Int) (e : Ending) (w' : World) : Prop := e = .returned (.int .i64 r.2) ∧ GR X base w' gb r.1 ∧ Kept X w w'
theorem Int1.from {X : Nat → Prop} {base gb : Nat} {w w2 w' : World} {r : G × Int} {e : Ending} (h : Int1 X base gb w2 r e w') (hk : Kept X w w2) : Int1 X base gb w r e w' := ⟨h.1, h.2.1, hk.trans h.2.2⟩
end Go.Proofs.YtmaogkgjiplckaaGreat
namespace Go.Proofs.YtmaogkgjiplckaaGreat
open Go.RowKit
theorem told_sl {w : World} {B n : Nat} {v : Value} {s : Nat → Bool} (h : w.ownsRow B 3 1 v n ((toldL n s).map (Value.int .i64))) : SlX (fun _ => True) w v (toldL n s) := by
  refine SlX.ofOwns (base := B) (T := 3) ?_ (fun _ _ _ => trivial)
  rw [toldL_len]; exact h
end Go.Proofs.YtmaogkgjiplckaaGreat
namespace Go.Proofs.YtmaogkgjiplckaaGreat
open Go.RowKit
theorem chooseG_ok {g : G} {fr : List Int} {s : Nat → Bool} (hI : GI g fr s) {c : Int} (hc : isL g.n c) {xs ys : List Int} (hx : ∀ x ∈ xs, isL g.n x) (hy : ∀ y ∈ ys, isL g.n y) (hl : xs.length = ys.length) :
    WAns g fr s (3 * xs.length) (chooseG g c xs ys) (if lit s c then xs.map (lit s) else ys.map (lit s)) := by
  have h := zip_ok (f := fun g x y => choice g c x y) (k := 3) (b := fun p _ => p) (c := c) fr (fun g s x y a b d e => choice_ok a b d e) xs ys g s hI hc hx hy hl
  have e : (((xs.map (lit s)).zip (ys.map (lit s))).map fun p => if lit s c then p.1 else p.2) = if lit s c then xs.map (lit s) else ys.map (lit s) := by
    cases lit s c
    · simp only [Bool.false_eq_true, if_false]
      exact List.map_snd_zip (by simp; omega)
    · simp only [if_true]
      exact List.map_fst_zip (by simp; omega)
  rw [e] at h
  exact h
theorem wordB_ok {n N : Nat} {l : List Int} (h1 : 1 ≤ N) (h2 : N ≤ 64) (hl : l.length = N) (h : ∀ x ∈ l, isL n x) : wordB n N l = true := by
  unfold wordB
  rw [decide_eq_true ⟨by omega, by omega, by omega⟩, allL_iff.2 h]; rfl
theorem choose_law {X : Nat → Prop} {base gb : Nat} {g : G} {fr : List Int} {s : Nat → Bool} (w : World) (hG : GR X base w gb g) (hba : base ≤ w.heap.size) (c : Int) (N : Nat) (a1 a2 : Option Addr) (c1 c2 : Nat) (xs ys : List Int) (hxl : xs.length = N) (hyl : ys.length = N) (hX : SlX X w (.slice a1 N c1) xs) (hY : SlX X w (.slice a2 N c2) ys)
    (h1 : 1 ≤ N) (h64 : N ≤ 64) (hn : g.n + 192 ≤ 1048576) (hI : GI g fr s) (hc : isL g.n c) (hx : ∀ x ∈ xs, isL g.n x) (hy : ∀ y ∈ ys, isL g.n y) (r : G × List Int) (hr : Hid (chooseG g c xs ys = r)) :
    Calls Tryz.prog 65 #[.pointer (some ⟨gb, 0, none⟩), .int .i64 c, .slice a1 N c1, .slice a2 N c2] w fun e w' => ∃ q, e = .returned (.slice (some ⟨q, 0, none⟩) N N) ∧ OwnI w' q N r.2 ∧ w.heap.size ≤ q ∧ GR (fun k => X k ∨ k = q) base w' gb r.1 ∧ Kept X w w' := by
  have h := Choose_any w hG hba c _ _ xs ys hX hY (by omega) (by omega) hn hI (some r) (Lib.hid (by
    unfold ChooseR
    rw [allL_iff.2 (by intro x hx; rw [List.mem_singleton] at hx; subst hx; exact hc), List.all_cons, List.all_cons, List.all_nil, hxl, wordB_ok h1 h64 hxl hx, wordB_ok h1 h64 hyl hy, hr.out]
    rfl))
  rw [hxl] at h
  exact h
section
variable {ops : Array Oper} {rest : List Oper} {o : Oper} {a : Act} {w : World} {Q : Exit → Act → World → Prop}
theorem wl_appendI (hgd : o.guard = none) (s x : Operand) (ho : o.op = .call { callee := .builtin .append, args := #[s, x], argTypes := #[31, 31] }) (base : Nat) (v : Value) (n : Nat) (l : List Int) (hs : a.eval s = v) (hown : w.ownsRow base 3 1 v n (l.map (Value.int .i64))) (b oo m c : Nat) (us : List Int) (hx : a.eval x = .slice (some ⟨b, oo, none⟩) m c) (hm : us.length = m) (hb : RowI w b oo us) (hn : n + m ≤ 1000000000) (hbase : base ≤ w.heap.size)
    (h : ∀ v' w', w'.ownsRow base 3 1 v' (n + m) ((l ++ us).map (Value.int .i64)) → w.grownBy w' v.ownBlock → (v'.ownBlock = v.ownBlock ∨ v'.ownBlock = some w.heap.size) → wpList Tryz.prog ops Q rest (a.put o.dst v') w') : wpList Tryz.prog ops Q (o :: rest) a w := by
  obtain ⟨i0, hi0, hz0, hz1, hz2⟩ := info_parts info3
  refine wpList_append_own_at _ hgd s x 31 ho base 3 i0 (.int .i64 0) 1 8 Tryz.underlying31 hi0 hz0 hz1 hz2 rfl (by decide) v n _ hs hown ⟨b, oo, none⟩ m c (us.map (Value.int .i64)) hx (by simp [hm]) ?_ (by intro u hu; obtain ⟨i, _, rfl⟩ := List.mem_map.1 hu; rfl) (by simp only [maxLen]; omega) (by omega) hbase ?_
  · intro j y hj
    rw [List.getElem?_map] at hj
    rcases hu : us[j]? with _ | i
    · rw [hu] at hj; cases hj
    · rw [hu] at hj
      simp only [Option.map_some, Option.some.injEq] at hj
      subst hj
      have h := hb j i hu
      rcases j with _ | j
      · simpa [Addr.add] using h
      · simpa [Addr.add] using h
  · intro v' w' h1 h2 _ h4
    exact h v' w' (by rw [List.map_append]; exact h1) h2 h4
end
end Go.Proofs.YtmaogkgjiplckaaGreat
namespace Go.Proofs.YtmaogkgjiplckaaGreat
open Go.RowKit
end Go.Proofs.YtmaogkgjiplckaaGreat
namespace Go.Proofs.YtmaogkgjiplckaaGreat
open Go.RowKit
def wid (w : Int) : Nat := if w < 1 then 1 else if 64 < w then 64 else w.toNat
theorem wid_bd (w : Int) : 1 ≤ wid w ∧ wid w ≤ 64 := by unfold wid; split <;> (try split) <;> omega
theorem pow_le64 {W : Nat} (h : W ≤ 64) : (2 : Nat) ^ W ≤ 18446744073709551616 :=
  Nat.le_trans (Nat.pow_le_pow_right (by omega) h) (by decide)
def sgI (W : Nat) (x : Int) : Int := if 2 ^ (W - 1) ≤ x % 2 ^ W then x % 2 ^ W - 2 ^ W else x % 2 ^ W
def opI (op : Int) (W : Nat) (x y : Int) : Int :=
  if op = 5 then 2 ^ W - 1 - x
  else if op = 8 then (x + y) % 2 ^ W
  else if op = 9 then (x - y) % 2 ^ W
  else if op = 10 then x * y % 2 ^ W
  else if op = 11 then (if y = 0 then 2 ^ W - 1 else x / y)
  else if op = 12 then x % y
  else if op = 13 then ((x.toNat &&& y.toNat : Nat) : Int)
  else if op = 14 then ((x.toNat ||| y.toNat : Nat) : Int)
  else if op = 15 then ((x.toNat ^^^ y.toNat : Nat) : Int)
  else if op = 16 then x * 2 ^ y.toNat % 2 ^ W
  else if op = 17 then x / 2 ^ y.toNat
  else if op = 18 then sgI W x / 2 ^ y.toNat % 2 ^ W
  else if op = 19 then (if x = y then 1 else 0)
  else if op = 20 then (if x < y then 1 else 0)
  else if op = 21 then (if sgI W x < sgI W y then 1 else 0)
  else 0
theorem pow_nat (W : Nat) : ((2 : Int) ^ W) = ((2 ^ W : Nat) : Int) := by simp
theorem sg_bd {W : Nat} (hW : 1 ≤ W) (x : Int) : - 2 ^ (W - 1) ≤ sgI W x ∧ sgI W x < 2 ^ (W - 1) := by
  obtain ⟨V, rfl⟩ : ∃ V, W = V + 1 := ⟨W - 1, by omega⟩
  unfold sgI
  rw [show V + 1 - 1 = V from by omega]
  have hpc : ((2 : Int) ^ (V + 1)) = 2 * 2 ^ V := by rw [Int.pow_succ]; omega
  have hpV : (0 : Int) < 2 ^ V := Int.pow_pos (by decide)
  have h1 := Int.emod_nonneg x (show (2 : Int) ^ (V + 1) ≠ 0 by omega)
  have h2 := Int.emod_lt_of_pos x (show (0 : Int) < 2 ^ (V + 1) by omega)
  split <;> omega
theorem div_small {s H : Int} {P : Int} (h : H ≤ P) (h0 : 0 < P) (h1 : -H ≤ s) (h2 : s < H) : s / P = if s < 0 then -1 else 0 := by
  split
  · have := Int.ediv_lt_of_lt_mul h0 (show s < 0 * P by omega)
    have := Int.le_ediv_of_mul_le h0 (show -1 * P ≤ s by omega)
    omega
  · exact Int.ediv_eq_zero_of_lt (by omega) (by omega)
theorem xor_top_lt {n V : Nat} (h : n < 2 ^ V) : n ^^^ 2 ^ V = n + 2 ^ V := by
  apply Nat.eq_of_testBit_eq
  intro j
  rw [Nat.testBit_xor, Nat.testBit_two_pow, Nat.add_comm n]
  rcases Nat.lt_trichotomy j V with hj | hj | hj
  · rw [Nat.testBit_two_pow_add_gt hj]
    simp [show ¬ V = j by omega]
  · subst hj
    rw [Nat.testBit_two_pow_add_eq]
    simp
  · have h1 : n.testBit j = false := Nat.testBit_lt_two_pow (Nat.lt_of_lt_of_le h (Nat.pow_le_pow_right (by omega) (by omega)))
    have h2 : (2 ^ V + n).testBit j = false := by
      apply Nat.testBit_lt_two_pow
      have : 2 ^ (V + 1) ≤ 2 ^ j := Nat.pow_le_pow_right (by omega) (by omega)
      rw [Nat.pow_succ] at this
      omega
    rw [h1, h2]
    simp [show ¬ V = j by omega]
end Go.Proofs.YtmaogkgjiplckaaGreat
namespace Go.Proofs.YtmaogkgjiplckaaGreat
open Go.RowKit
def Cls (W w' : World) : Prop := Below W.heap.size W w'
section
variable {P : Program} {ops : Array Oper} {C : World → Prop} {o : Oper} {a : Act} {K : Act → Prop} {W : World}
theorem wp_region_cls {id : Nat} {Q : Exit → Act → World → Prop} {l : List Oper} (hm : P.follows .mixedOrders = true) (hB : Region.lexB .any l.toArray = true)
    (h : wpQuiet P l.toArray (Cls W) (fun a' => ∀ w', Cls W w' → Q .normal a' w') l a) : (Code.region id l.toArray true).wp P Q a W :=
  wp_region_quiet (C := Cls W) hm hB ⟨rfl, rfl, rfl, Nat.le_refl _, fun _ _ => rfl⟩ (by simpa using h)
theorem quiet_load (ty : TypeId) (x : Operand) (ho : o.op = .load ty x) (p : Addr) (hx : a.eval x = .pointer (some p)) (v : Value)
    (hc : ∀ w, C w → w.cell? p = some v) (hl : ∀ w, w.cell? p = some v → (Instr.loadAt ty (.pointer (some p))).run P w = .ok v w) (hk : K (a.put o.dst v)) : o.quiet P a C K := by
  refine ⟨v, fun w hw => ?_, hk⟩
  unfold Oper.quietAt execOp
  simp only [ho, hx, Sem.run_bind, hl w (hc w hw), Result.andThen_ok]
  exact ⟨rfl, rfl⟩
end
theorem int_eq' {k : IntKind} {a b : Int} (h : a = b) : Value.int k a = .int k b := by rw [h]
end Go.Proofs.YtmaogkgjiplckaaGreat
namespace Go.Proofs.YtmaogkgjiplckaaGreat
open Go.RowKit
def bw (n : Nat) : Array Value := Array.ofFn (n := 64) fun i => Value.bool (n.testBit i)
theorem bw_size (n : Nat) : (bw n).size = 64 := by simp [bw]
theorem bw_get (n i : Nat) (h : i < 64) : (bw n)[i]? = some (.bool (n.testBit i)) := by simp [bw, h]
theorem bw_one (n : Nat) : (bw n).all (·.oneCell') = true := by
  rw [Array.all_eq_true]; intro i h; simp [bw, Value.oneCell']
def setb (n i : Nat) (v : Bool) : Nat := if n.testBit i = v then n else n ^^^ 2 ^ i
theorem setb_test (n i j : Nat) (v : Bool) : (setb n i v).testBit j = if i = j then v else n.testBit j := by
  unfold setb
  split
  · split
    · subst_vars; rfl
    · rfl
  · rename_i h
    rw [Nat.testBit_xor, Nat.testBit_two_pow]
    by_cases e : i = j
    · subst e; simp; cases v <;> cases hh : n.testBit i <;> simp_all
    · simp [e]
theorem bw_set (n i : Nat) (v : Bool) : (bw n).setIfInBounds i (.bool v) = bw (setb n i v) := by
  apply Array.ext_getElem?
  intro j
  by_cases hj : j < 64
  · rw [bw_get _ _ hj, setb_test]
    by_cases e : i = j
    · subst e; simp [bw_size, hj]
    · rw [Array.getElem?_setIfInBounds_ne e, bw_get _ _ hj]; simp [e]
  · rw [Array.getElem?_eq_none (by simp [bw_size]; omega), Array.getElem?_eq_none (by simp [bw_size]; omega)]
theorem zero29 : (Tryz.prog.info? 134).map (fun i => (i.zero, i.size)) = some (some (.agg (bw 0)), 64) := by kernel_rfl
theorem heap_row (w : World) (b n : Nat) (h : w.heap[b]? = some (.cells (bw n) 134 (0, 0))) (i : Nat) (hi : i < 64) : w.cell? ⟨b, i, none⟩ = some (.bool (n.testBit i)) := by
  rw [cell_of_row _ _ _ _ _ _ h, bw_get _ _ hi]
theorem load29 (w : World) (b n : Nat) (h : w.heap[b]? = some (.cells (bw n) 134 (0, 0))) : (Instr.loadAt 134 (.pointer (some ⟨b, 0, none⟩))).run Tryz.prog w = .ok (.agg (bw n)) w := by
  simp only [Instr.loadAt, Instr.sureAddr, Sem.run_bind, Sem.run_pure, Result.andThen_ok]
  exact run_loadVar_row w b 134 134 (bw n) (0, 0) _ h Tryz.underlying134 rfl (by rw [bw_size]; exact (zero_of_info zero29).2)
theorem store29 (w : World) (b n m : Nat) (h : w.heap[b]? = some (.cells (bw n) 134 (0, 0))) : (Instr.storeAt 134 (.pointer (some ⟨b, 0, none⟩)) (.agg (bw m))).run Tryz.prog w = .ok () (w.setRow b (bw m)) := by
  simp only [Instr.storeAt, Instr.sureAddr, Sem.run_bind, Sem.run_pure, Result.andThen_ok]
  exact run_storeVar_row w b 134 134 (bw n) (bw m) h (by rw [bw_size]; exact (zero_of_info zero29).2) (by rw [bw_size, bw_size]) (bw_one m)
theorem res29 {fn : Func} {p : Tmp} (h : fn.results = #[.cell p 134]) (tmps : Array Value) (w : World) (b n : Nat) (hp : tmps.getD p undef = .pointer (some ⟨b, 0, none⟩))
    (hg : w.heap[b]? = some (.cells (bw n) 134 (0, 0))) : (results fn tmps).run Tryz.prog w = .ok (.agg (bw n)) w :=
  results_cell_row h tmps w b 134 (bw n) (0, 0) _ hp hg Tryz.underlying134 rfl (by rw [bw_size]; exact (zero_of_info zero29).2)
section
variable {ops : Array Oper} {rest : List Oper} {o : Oper} {a : Act} {w : World} {Q : Exit → Act → World → Prop}
theorem wl_load29 (hgd : o.guard = none) (x : Operand) (ho : o.op = .load 134 x)
    (h : ∃ b n, a.eval x = .pointer (some ⟨b, 0, none⟩) ∧ w.heap[b]? = some (.cells (bw n) 134 (0, 0)) ∧ wpList Tryz.prog ops Q rest (a.put o.dst (.agg (bw n))) w) : wpList Tryz.prog ops Q (o :: rest) a w :=
  wpList_plain hgd fun _ hK => by
    obtain ⟨b, n, hx, hb, h⟩ := h
    unfold Oper.wp execOp
    simp only [ho, hx, Sem.run_bind, load29 w b n hb, Result.andThen_ok]
    exact hK _ _ h
theorem wl_store29 (hgd : o.guard = none) (x y : Operand) (ho : o.op = .store 134 x y)
    (h : ∃ b n m, a.eval x = .pointer (some ⟨b, 0, none⟩) ∧ a.eval y = .agg (bw m) ∧ w.heap[b]? = some (.cells (bw n) 134 (0, 0)) ∧ wpList Tryz.prog ops Q rest (a.put o.dst undef) (w.setRow b (bw m))) : wpList Tryz.prog ops Q (o :: rest) a w :=
  wpList_plain hgd fun _ hK => by
    obtain ⟨b, n, m, hx, hy, hb, h⟩ := h
    unfold Oper.wp execOp
    simp only [ho, hx, hy, Sem.run_bind, store29 w b n m hb, Result.andThen_ok]
    exact hK _ _ h
end
theorem heap_al (w : World) (o : Obj) (i : Nat) : (w.alloc o).heap[i]? = if i = w.heap.size then some o else w.heap[i]? := by
  show (w.heap.push o)[i]? = _
  rw [Array.getElem?_push]
theorem heap_new (w : World) (o : Obj) (i : Nat) (h : i = w.heap.size) : (w.alloc o).heap[i]? = some o := by rw [heap_al, if_pos h]
theorem heap_old (w : World) (o : Obj) (i : Nat) (h : ¬ i = w.heap.size) : (w.alloc o).heap[i]? = w.heap[i]? := by rw [heap_al, if_neg h]
theorem row_same {w : World} {b n : Nat} (h : w.heap[b]? = some (.cells (bw n) 134 (0, 0))) (m : Nat) : (w.setRow b (bw m)).heap[b]? = some (.cells (bw m) 134 (0, 0)) := setRow_heap w b _ _ 134 _ h
theorem row_other {w : World} {b c n : Nat} (h : w.heap[c]? = some (.cells (bw n) 134 (0, 0))) (m : Nat) (hne : c ≠ b) : (w.setRow b (bw m)).heap[c]? = some (.cells (bw n) 134 (0, 0)) := (setRow_other w b c _ hne).trans h
theorem Below.setRow {B : Nat} {a w : World} (h : Below B a w) {b : Nat} (hb : B ≤ b) (c : Array Value) : Below B a (w.setRow b c) :=
  h.trans ⟨rfl, rfl, rfl, by simp, fun k hk => setRow_other w b k c (by omega)⟩
theorem setb_lt {m k : Nat} (h : m < 2 ^ k) (v : Bool) : setb m k v = m + (if v then 2 ^ k else 0) := by
  have ht : m.testBit k = false := Nat.testBit_lt_two_pow h
  unfold setb
  rw [ht]
  cases v
  · simp
  · simp [xor_top_lt h]
theorem mod_succ (n k : Nat) : n % 2 ^ (k + 1) = n % 2 ^ k + (if n.testBit k then 2 ^ k else 0) := by
  rw [Nat.mod_pow_succ, Nat.testBit_eq_decide_div_mod_eq]
  rcases Nat.mod_two_eq_zero_or_one (n / 2 ^ k) with h | h <;> simp [h]
theorem not_step (n k : Nat) : setb (2 ^ k - 1 - n % 2 ^ k) k (!n.testBit k) = 2 ^ (k + 1) - 1 - n % 2 ^ (k + 1) := by
  have hp := Nat.pow_pos (n := k) (show 0 < 2 by omega)
  have h1 := Nat.mod_lt n hp
  rw [setb_lt (by omega), mod_succ, Nat.pow_succ]
  cases h : n.testBit k <;> simp <;> omega
set_option maxRecDepth 100000 in
set_option maxHeartbeats 400000 in
theorem not_any (W n : Nat) (w : World) (hW : W ≤ 64) :
    Calls Tryz.prog 98 #[.int .i64 W, .agg (bw n)] w fun e w' => e = .returned (.agg (bw (2 ^ W - 1 - n % 2 ^ W))) ∧ Below w.heap.size w w' := by
  have hz := (zero_of_info zero29).1
  go_enter Tryz.func98, Tryz.ntmps98
  (repeat (first | (with_reducible first | refine xA ?_ | refine xB ?_ | refine xC ?_ | refine xD ?_ | refine xH ?_ | refine xI rfl ?_ | refine xE ?_ | refine xF ?_ | refine xG ?_) | go_values | go_skip | go_guarded | go_step | go_upon | go_back | ((with_reducible show Oper.upon _ _ _ _ _ _); go_simp) | (dsimp only)))
  go_loopw [6] (fun i wr => ∃ k : Nat, k ≤ W ∧ i = .int .i64 k ∧ wr = (((w.alloc (.cells (bw n) 134)).alloc (.cells (bw 0) 134)).alloc (.cells (bw (2 ^ k - 1 - n % 2 ^ k)) 134))) (fun i _ => W - (intOf i).toNat)
  case atStart => exact ⟨0, by omega, rfl, by simp⟩
  case round =>
    obtain ⟨k, hk, rfl, rfl⟩ := hrel
    by_cases hlt : k < W
    · have hr := bw_get n k (by omega)
      have hs := bw_set (2 ^ k - 1 - n % 2 ^ k) k
      have hr2 := bw_get (2 ^ k - 1 - n % 2 ^ k) k (by omega)
      have b0 : (0 : Int) ≤ k := by omega
      have b1 : (k : Int) < 64 := by omega
      (repeat (first | (with_reducible first | refine xA ?_ | refine xB ?_ | refine xC ?_ | refine xD ?_ | refine xH ?_ | refine xI rfl ?_ | refine xE ?_ | refine xF ?_ | refine xG ?_) | go_values | go_skip | go_guarded | go_step | go_upon | go_back | ((with_reducible show Oper.upon _ _ _ _ _ _); go_simp) | (dsimp only)))
      exact ⟨⟨k + 1, by omega, by go_num, by rw [not_step]⟩, by simp [intOf]; omega⟩
    · obtain rfl : k = W := by omega
      (repeat (first | (with_reducible first | refine xA ?_ | refine xB ?_ | refine xC ?_ | refine xD ?_ | refine xH ?_ | refine xI rfl ?_ | refine xE ?_ | refine xF ?_ | refine xG ?_) | go_skip | go_guarded | ((with_reducible refine wl_load29 rfl _ rfl ?_); apply Exists.intro; apply Exists.intro; refine ⟨rfl, ?_, ?_⟩; (· (repeat (first | (with_reducible assumption) | ((with_reducible refine heap_new _ _ _ ?_); (simp; done)) | ((with_reducible refine (heap_old _ _ _ ?_).trans ?_); (· (simp; done))) | (with_reducible refine row_same ?_ _) | ((with_reducible refine row_other ?_ _ ?_); rotate_left; (· (simp; done)))))); simp only [Act.put, qz4, qz5, qz6]) | ((with_reducible refine wl_store29 rfl _ _ rfl ?_); apply Exists.intro; apply Exists.intro; apply Exists.intro; refine ⟨rfl, rfl, ?_, ?_⟩; (· (repeat (first | (with_reducible assumption) | ((with_reducible refine heap_new _ _ _ ?_); (simp; done)) | ((with_reducible refine (heap_old _ _ _ ?_).trans ?_); (· (simp; done))) | (with_reducible refine row_same ?_ _) | ((with_reducible refine row_other ?_ _ ?_); rotate_left; (· (simp; done)))))); simp only [Act.put, qz4, qz5, qz6]) | go_values | go_skip | go_guarded | go_step | go_upon | go_back | ((with_reducible show Oper.upon _ _ _ _ _ _); go_simp) | (dsimp only)))
      refine bodyPost_ret (res29 rfl _ _ _ _ rfl (row_same (n := 0) (by (repeat (first | (with_reducible assumption) | ((with_reducible refine heap_new _ _ _ ?_); (simp; done)) | ((with_reducible refine (heap_old _ _ _ ?_).trans ?_); (· (simp; done))) | (with_reducible refine row_same ?_ _) | ((with_reducible refine row_other ?_ _ ?_); rotate_left; (· (simp; done)))))) _)) rfl ⟨rfl, ?_⟩
      refine Below.setRow ?_ (by omega) _
      (repeat (first | with_reducible exact Below.refl _ _ | assumption | with_reducible refine below_drewN ?_ _ | with_reducible refine Below.drew ?_ | with_reducible refine Below.setRow ?_ ?_ _ | with_reducible refine Below.alloc ?_ ?_ _ | with_reducible refine Below.setCell ?_ ?_ _ | with_reducible exact Nat.le_refl _ | (focus (simp; done)) | (focus (simp; omega)) | omega))
end Go.Proofs.YtmaogkgjiplckaaGreat
namespace Go.Proofs.YtmaogkgjiplckaaGreat
open Go.RowKit
theorem bw_congr {a b : Nat} (h : ∀ j, j < 64 → a.testBit j = b.testBit j) : bw a = bw b := by
  apply Array.ext_getElem?
  intro j
  by_cases hj : j < 64
  · rw [bw_get _ _ hj, bw_get _ _ hj, h j hj]
  · rw [Array.getElem?_eq_none (by simp [bw_size]; omega), Array.getElem?_eq_none (by simp [bw_size]; omega)]
theorem ret_bw {a b : Nat} (h : ∀ j, j < 64 → a.testBit j = b.testBit j) : Ending.returned (.agg (bw a)) = .returned (.agg (bw b)) := by rw [bw_congr h]
set_option maxHeartbeats 400000 in
theorem rwidth_any (a : Int) (w : World) :
    Calls Tryz.prog 94 #[.int .i64 a] w fun e w' => e = .returned (.int .i64 (wid a : Nat)) ∧ w = w' := by
  rcases Int.lt_or_le a 1 with h | h
  · go_enter Tryz.func94, Tryz.ntmps94
    (repeat (first | (with_reducible first | refine xA ?_ | refine xB ?_ | refine xC ?_ | refine xD ?_ | refine xH ?_ | refine xI rfl ?_ | refine xE ?_ | refine xF ?_ | refine xG ?_) | go_values | go_skip | go_guarded | go_step | go_upon | go_back | ((with_reducible show Oper.upon _ _ _ _ _ _); go_simp) | (dsimp only)))
    go_ret
    exact ⟨ret_int (by unfold wid; rw [if_pos h]; rfl), rfl⟩
  rcases Int.lt_or_le 64 a with h2 | h2
  · go_enter Tryz.func94, Tryz.ntmps94
    (repeat (first | (with_reducible first | refine xA ?_ | refine xB ?_ | refine xC ?_ | refine xD ?_ | refine xH ?_ | refine xI rfl ?_ | refine xE ?_ | refine xF ?_ | refine xG ?_) | go_values | go_skip | go_guarded | go_step | go_upon | go_back | ((with_reducible show Oper.upon _ _ _ _ _ _); go_simp) | (dsimp only)))
    go_ret
    exact ⟨ret_int (by unfold wid; rw [if_neg (by omega), if_pos h2]; rfl), rfl⟩
  · go_enter Tryz.func94, Tryz.ntmps94
    (repeat (first | (with_reducible first | refine xA ?_ | refine xB ?_ | refine xC ?_ | refine xD ?_ | refine xH ?_ | refine xI rfl ?_ | refine xE ?_ | refine xF ?_ | refine xG ?_) | go_values | go_skip | go_guarded | go_step | go_upon | go_back | ((with_reducible show Oper.upon _ _ _ _ _ _); go_simp) | (dsimp only)))
    go_ret
    exact ⟨ret_int (by unfold wid; rw [if_neg (by omega), if_neg (by omega)]; omega), rfl⟩
theorem bit_of (q : Nat) : (((q : Nat) : Int) % 2 == 1) = q.testBit 0 := by
  rw [Nat.testBit_zero, Bool.eq_iff_iff]; simp; omega
theorem of_step {x k m W : Nat} (hk : k < W) (hm : m = x % 2 ^ (min k W)) : setb m k ((x / 2 ^ k).testBit 0) = x % 2 ^ (min (k + 1) W) := by
  rw [Nat.min_eq_left (by omega)] at hm ⊢
  have e : (x / 2 ^ k).testBit 0 = x.testBit k := by rw [Nat.testBit_div_two_pow, Nat.zero_add]
  rw [e, hm, setb_lt (Nat.mod_lt _ (Nat.pow_pos (by omega))), mod_succ]
theorem of_step2 {x k m W : Nat} (hk : ¬ k < W) (hm : m = x % 2 ^ (min k W)) : setb m k false = x % 2 ^ (min (k + 1) W) := by
  rw [Nat.min_eq_right (by omega)] at hm ⊢
  have e : m < 2 ^ k := by
    rw [hm]; exact Nat.lt_of_lt_of_le (Nat.mod_lt _ (Nat.pow_pos (by omega))) (Nat.pow_le_pow_right (by omega) (by omega))
  rw [setb_lt e, hm]; simp
theorem half_u64 (q : Nat) (h : q < 18446744073709551616) : IntKind.u64.wrap (((q : Nat) : Int) / 2) = ((q / 2 : Nat) : Int) := by
  rw [IntKind.wrap_u64]; omega
set_option maxRecDepth 100000 in
set_option maxHeartbeats 800000 in
theorem of_any (W x : Nat) (w : World) (hW : W ≤ 64) (hx : Hid (x < 18446744073709551616)) :
    Calls Tryz.prog 95 #[.int .i64 W, .int .u64 x] w fun e w' => e = .returned (.agg (bw (x % 2 ^ W))) ∧ Below w.heap.size w w' := by
  have hz := (zero_of_info zero29).1
  go_enter Tryz.func95, Tryz.ntmps95
  (repeat (first | (with_reducible first | refine xA ?_ | refine xB ?_ | refine xC ?_ | refine xD ?_ | refine xH ?_ | refine xI rfl ?_ | refine xE ?_ | refine xF ?_ | refine xG ?_) | go_values | go_skip | go_guarded | go_step | go_upon | go_back | ((with_reducible show Oper.upon _ _ _ _ _ _); go_simp) | (dsimp only)))
  go_loopw [1, 6] (fun v i wr => ∃ k q m : Nat, k ≤ 64 ∧ Hid (q = x / 2 ^ k) ∧ Hid (m = x % 2 ^ (min k W)) ∧ v = .int .u64 q ∧ i = .int .i64 k ∧ wr = ((w.alloc (.cells (bw 0) 134)).alloc (.cells (bw m) 134))) (fun _ i _ => 64 - (intOf i).toNat)
  case atStart => exact ⟨0, x, 0, by omega, Lib.hid (by simp), Lib.hid (by simp [Nat.mod_one]), rfl, rfl, rfl⟩
  case round =>
    obtain ⟨k, q, m, hk, hq, hm, rfl, rfl, rfl⟩ := hrel
    have hq64 : Hid (q < 18446744073709551616) := Lib.hid (by rw [hq.out]; exact Nat.lt_of_le_of_lt (Nat.div_le_self _ _) hx.out)
    by_cases hlt : k < 64
    · have hs := bw_set m k
      have hr2 := bw_get m k hlt
      have b0 : (0 : Int) ≤ k := by omega
      have b1 : (k : Int) < 64 := by omega
      have Hhalf := Lib.hid (half_u64 q hq64.out)
      by_cases hkW : k < W
      · have hd : decide ((k : Int) < W) = true := by simp; omega
        (repeat (first | (with_reducible first | refine xA ?_ | refine xB ?_ | refine xC ?_ | refine xD ?_ | refine xH ?_ | refine xI rfl ?_ | refine xE ?_ | refine xF ?_ | refine xG ?_) | go_values | go_skip | go_guarded | go_step | go_upon | go_back | ((with_reducible show Oper.upon _ _ _ _ _ _); go_simp) | (dsimp only)))
        exact ⟨⟨k + 1, q / 2, _, by omega, Lib.hid (by rw [hq.out, Nat.div_div_eq_div_mul, Nat.pow_succ]), Lib.hid (by have h := of_step hkW hm.out; rw [← hq.out] at h; rw [bit_of]; exact h), int_eq' Hhalf.out, by go_num, rfl⟩, by simp [intOf]; omega⟩
      · have hd : decide ((k : Int) < W) = false := by simp; omega
        (repeat (first | (with_reducible first | refine xA ?_ | refine xB ?_ | refine xC ?_ | refine xD ?_ | refine xH ?_ | refine xI rfl ?_ | refine xE ?_ | refine xF ?_ | refine xG ?_) | go_values | go_skip | go_guarded | go_step | go_upon | go_back | ((with_reducible show Oper.upon _ _ _ _ _ _); go_simp) | (dsimp only)))
        exact ⟨⟨k + 1, q / 2, _, by omega, Lib.hid (by rw [hq.out, Nat.div_div_eq_div_mul, Nat.pow_succ]), Lib.hid (of_step2 hkW hm.out), int_eq' Hhalf.out, by go_num, rfl⟩, by simp [intOf]; omega⟩
    · obtain rfl : k = 64 := by omega
      (repeat (first | (with_reducible first | refine xA ?_ | refine xB ?_ | refine xC ?_ | refine xD ?_ | refine xH ?_ | refine xI rfl ?_ | refine xE ?_ | refine xF ?_ | refine xG ?_) | go_skip | go_guarded | ((with_reducible refine wl_load29 rfl _ rfl ?_); apply Exists.intro; apply Exists.intro; refine ⟨rfl, ?_, ?_⟩; (· (repeat (first | (with_reducible assumption) | ((with_reducible refine heap_new _ _ _ ?_); (simp; done)) | ((with_reducible refine (heap_old _ _ _ ?_).trans ?_); (· (simp; done))) | (with_reducible refine row_same ?_ _) | ((with_reducible refine row_other ?_ _ ?_); rotate_left; (· (simp; done)))))); simp only [Act.put, qz4, qz5, qz6]) | ((with_reducible refine wl_store29 rfl _ _ rfl ?_); apply Exists.intro; apply Exists.intro; apply Exists.intro; refine ⟨rfl, rfl, ?_, ?_⟩; (· (repeat (first | (with_reducible assumption) | ((with_reducible refine heap_new _ _ _ ?_); (simp; done)) | ((with_reducible refine (heap_old _ _ _ ?_).trans ?_); (· (simp; done))) | (with_reducible refine row_same ?_ _) | ((with_reducible refine row_other ?_ _ ?_); rotate_left; (· (simp; done)))))); simp only [Act.put, qz4, qz5, qz6]) | go_values | go_skip | go_guarded | go_step | go_upon | go_back | ((with_reducible show Oper.upon _ _ _ _ _ _); go_simp) | (dsimp only)))
      refine bodyPost_ret (res29 rfl _ _ _ _ rfl (row_same (n := 0) (by (repeat (first | (with_reducible assumption) | ((with_reducible refine heap_new _ _ _ ?_); (simp; done)) | ((with_reducible refine (heap_old _ _ _ ?_).trans ?_); (· (simp; done))) | (with_reducible refine row_same ?_ _) | ((with_reducible refine row_other ?_ _ ?_); rotate_left; (· (simp; done)))))) _)) rfl ⟨?_, ?_⟩
      · rw [hm.out, Nat.min_eq_right hW]
      · refine Below.setRow ?_ (by omega) _
        (repeat (first | with_reducible exact Below.refl _ _ | assumption | with_reducible refine below_drewN ?_ _ | with_reducible refine Below.drew ?_ | with_reducible refine Below.setRow ?_ ?_ _ | with_reducible refine Below.alloc ?_ ?_ _ | with_reducible refine Below.setCell ?_ ?_ _ | with_reducible exact Nat.le_refl _ | (focus (simp; done)) | (focus (simp; omega)) | omega))
theorem num_step {n k q : Nat} (hq : q = n / 2 ^ (k + 1)) : n / 2 ^ k = 2 * q + (if n.testBit k then 1 else 0) := by
  rw [hq, Nat.pow_succ, ← Nat.div_div_eq_div_mul, Nat.testBit_eq_decide_div_mod_eq]
  rcases Nat.mod_two_eq_zero_or_one (n / 2 ^ k) with h | h <;> simp [h] <;> omega
theorem num_w1 {n k q : Nat} (hn : n < 18446744073709551616) (hq : q = n / 2 ^ (k + 1)) : IntKind.u64.wrap (((q : Nat) : Int) * 2) = ((2 * q : Nat) : Int) ∧ (n.testBit k = true → IntKind.u64.wrap (((2 * q : Nat) : Int) + 1) = ((2 * q + 1 : Nat) : Int)) := by
  have h1 := num_step hq
  have h2 : n / 2 ^ k ≤ n := Nat.div_le_self _ _
  refine ⟨?_, fun h => ?_⟩
  · rw [IntKind.wrap_u64]; split at h1 <;> omega
  · rw [if_pos h] at h1
    rw [IntKind.wrap_u64]; omega
set_option maxRecDepth 100000 in
set_option maxHeartbeats 800000 in
theorem num_any (n : Nat) (w : World) (hn : Hid (n < 18446744073709551616)) :
    Calls Tryz.prog 97 #[.agg (bw n)] w fun e w' => e = .returned (.int .u64 n) ∧ Below w.heap.size w w' := by
  go_enter Tryz.func97, Tryz.ntmps97
  (repeat (first | (with_reducible first | refine xA ?_ | refine xB ?_ | refine xC ?_ | refine xD ?_ | refine xH ?_ | refine xI rfl ?_ | refine xE ?_ | refine xF ?_ | refine xG ?_) | go_values | go_skip | go_guarded | go_step | go_upon | go_back | ((with_reducible show Oper.upon _ _ _ _ _ _); go_simp) | (dsimp only)))
  go_loop [3, 4] (fun v i => ∃ k q : Nat, k ≤ 64 ∧ Hid (q = n / 2 ^ k) ∧ v = .int .u64 q ∧ i = .int .i64 ((k : Int) - 1)) (fun _ i => (intOf i + 1).toNat)
  case atStart => exact ⟨64, 0, by omega, Lib.hid (Nat.div_eq_of_lt hn.out).symm, rfl, rfl⟩
  case round =>
    obtain ⟨k, q, hk, hq, rfl, rfl⟩ := hrel
    rcases k with _ | k
    · (repeat (first | (with_reducible first | refine xA ?_ | refine xB ?_ | refine xC ?_ | refine xD ?_ | refine xH ?_ | refine xI rfl ?_ | refine xE ?_ | refine xF ?_ | refine xG ?_) | go_values | go_skip | go_guarded | go_step | go_upon | go_back | ((with_reducible show Oper.upon _ _ _ _ _ _); go_simp) | (dsimp only)))
      go_ret
      refine ⟨ret_int (by rw [hq.out]; simp), ?_⟩
      (repeat (first | with_reducible exact Below.refl _ _ | assumption | with_reducible refine below_drewN ?_ _ | with_reducible refine Below.drew ?_ | with_reducible refine Below.setRow ?_ ?_ _ | with_reducible refine Below.alloc ?_ ?_ _ | with_reducible refine Below.setCell ?_ ?_ _ | with_reducible exact Nat.le_refl _ | (focus (simp; done)) | (focus (simp; omega)) | omega))
    · have hr := bw_get n k (by omega)
      have Hw := Lib.hid (num_w1 hn.out hq.out)
      have H3 := Lib.hid (num_step hq.out)
      have b0 : (0 : Int) ≤ k := by omega
      have b1 : (k : Int) < 64 := by omega
      have e1 : ((k + 1 : Nat) : Int) - 1 = k := by omega
      cases hb : n.testBit k with
      | true =>
        rw [hb] at hr
        (repeat (first | (with_reducible first | refine xA ?_ | refine xB ?_ | refine xC ?_ | refine xD ?_ | refine xH ?_ | refine xI rfl ?_ | refine xE ?_ | refine xF ?_ | refine xG ?_) | go_values | go_skip | go_guarded | go_step | go_upon | go_back | ((with_reducible show Oper.upon _ _ _ _ _ _); go_simp) | (dsimp only)))
        exact ⟨⟨k, 2 * q + 1, by omega, Lib.hid (by rw [H3.out, if_pos hb]), int_eq' (by rw [Hw.out.1]; exact Hw.out.2 hb), rfl⟩, by simp [intOf]⟩
      | false =>
        rw [hb] at hr
        (repeat (first | (with_reducible first | refine xA ?_ | refine xB ?_ | refine xC ?_ | refine xD ?_ | refine xH ?_ | refine xI rfl ?_ | refine xE ?_ | refine xF ?_ | refine xG ?_) | go_values | go_skip | go_guarded | go_step | go_upon | go_back | ((with_reducible show Oper.upon _ _ _ _ _ _); go_simp) | (dsimp only)))
        exact ⟨⟨k, 2 * q, by omega, Lib.hid (by rw [H3.out, if_neg (by simp [hb])]; rfl), int_eq' Hw.out.1, rfl⟩, by simp [intOf]⟩
theorem add_step {x y c k : Nat} (m : Nat) (cr : Bool) (hm : m = (x % 2 ^ k + y % 2 ^ k + c) % 2 ^ k) (hc : cr.toNat = (x % 2 ^ k + y % 2 ^ k + c) / 2 ^ k) :
    setb m k (decide (((x.testBit k).toNat + (y.testBit k).toNat + cr.toNat) % 2 = 1)) = (x % 2 ^ (k + 1) + y % 2 ^ (k + 1) + c) % 2 ^ (k + 1) ∧
    (decide (1 < (x.testBit k).toNat + (y.testBit k).toNat + cr.toNat)).toNat = (x % 2 ^ (k + 1) + y % 2 ^ (k + 1) + c) / 2 ^ (k + 1) := by
  have hp := Nat.pow_pos (n := k) (show 0 < 2 by omega)
  have hml : m < 2 ^ k := by rw [hm]; exact Nat.mod_lt _ hp
  rw [setb_lt hml, mod_succ x, mod_succ y, Nat.pow_succ]
  have hd := Nat.div_add_mod (x % 2 ^ k + y % 2 ^ k + c) (2 ^ k)
  rw [← hm, ← hc] at hd
  generalize 2 ^ k = P at *
  generalize x % P = X at *
  generalize y % P = Y at *
  have key : X + (if x.testBit k then P else 0) + (Y + (if y.testBit k then P else 0)) + c = P * ((x.testBit k).toNat + (y.testBit k).toNat + cr.toNat) + m := by
    rw [Nat.mul_add, Nat.mul_add]
    cases x.testBit k <;> cases y.testBit k <;> simp <;> omega
  rw [key]
  have hs : (x.testBit k).toNat + (y.testBit k).toNat + cr.toNat ≤ 3 := by
    have h1 := Bool.toNat_le (x.testBit k)
    have h2 := Bool.toNat_le (y.testBit k)
    have h3 := Bool.toNat_le cr
    omega
  generalize (x.testBit k).toNat + (y.testBit k).toNat + cr.toNat = s at *
  clear hm hc hd key
  have : s = 0 ∨ s = 1 ∨ s = 2 ∨ s = 3 := by omega
  rcases this with rfl | rfl | rfl | rfl
  · exact ⟨by simp; rw [Nat.mod_eq_of_lt (by omega)], by simp; rw [Nat.div_eq_of_lt (by omega)]⟩
  · exact ⟨by simp; rw [Nat.mod_eq_of_lt (by omega)]; omega, by simp; rw [Nat.div_eq_of_lt (by omega)]⟩
  · have e : P * 2 + m = m + P * 2 := by omega
    exact ⟨by simp; rw [Nat.mod_eq_of_lt (by omega)], by simp; rw [e, Nat.add_div_right _ (by omega), Nat.div_eq_of_lt (by omega)]⟩
  · have e : P * 3 + m = (m + P) + P * 2 := by omega
    exact ⟨by simp; rw [e, Nat.add_mod_right, Nat.mod_eq_of_lt (by omega)], by simp; rw [e, Nat.add_div_right _ (by omega), Nat.div_eq_of_lt (by omega)]⟩
set_option maxRecDepth 100000 in
set_option maxHeartbeats 2000000 in
theorem add_ref (W x y : Nat) (c : Bool) (w : World) (hW : W ≤ 64) (hx : Hid (x < 2 ^ W)) (hy : Hid (y < 2 ^ W)) :
    Calls Tryz.prog 99 #[.int .i64 W, .agg (bw x), .agg (bw y), .bool c] w fun e w' => e = .returned (.agg (bw ((x + y + c.toNat) % 2 ^ W))) ∧ Below w.heap.size w w' := by
  have hz := (zero_of_info zero29).1
  go_enter Tryz.func99, Tryz.ntmps99
  (repeat (first | (with_reducible first | refine xA ?_ | refine xB ?_ | refine xC ?_ | refine xD ?_ | refine xH ?_ | refine xI rfl ?_ | refine xE ?_ | refine xF ?_ | refine xG ?_) | go_values | go_skip | go_guarded | go_step | go_upon | go_back | ((with_reducible show Oper.upon _ _ _ _ _ _); go_simp) | (dsimp only)))
  go_loopw [3, 10] (fun v i wr => ∃ (k m : Nat) (cr : Bool), k ≤ W ∧ Hid (m = (x % 2 ^ k + y % 2 ^ k + c.toNat) % 2 ^ k) ∧ Hid (cr.toNat = (x % 2 ^ k + y % 2 ^ k + c.toNat) / 2 ^ k) ∧ v = .bool cr ∧ i = .int .i64 k ∧ wr = ((((w.alloc (.cells (bw x) 134)).alloc (.cells (bw y) 134)).alloc (.cells (bw 0) 134)).alloc (.cells (bw m) 134))) (fun _ i _ => W - (intOf i).toNat)
  case atStart => exact ⟨0, 0, c, by omega, Lib.hid (by simp [Nat.mod_one]), Lib.hid (by simp [Nat.mod_one]), rfl, rfl, rfl⟩
  case round =>
    obtain ⟨k, m, cr, hk, hm, hc, rfl, rfl, rfl⟩ := hrel
    by_cases hlt : k < W
    · have hs := bw_set m k
      have hr := bw_get m k (by omega)
      have hrx := bw_get x k (by omega)
      have hry := bw_get y k (by omega)
      have b0 : (0 : Int) ≤ k := by omega
      have b1 : (k : Int) < 64 := by omega
      have H := Lib.hid (add_step m cr hm.out hc.out)
      cases hbx : x.testBit k <;> cases hby : y.testBit k <;> cases cr
      all_goals
        have Hx := Lib.hid hbx
        have Hy := Lib.hid hby
        rw [hbx] at hrx
        rw [hby] at hry
        clear hbx hby
        (repeat (first | (with_reducible first | refine xA ?_ | refine xB ?_ | refine xC ?_ | refine xD ?_ | refine xH ?_ | refine xI rfl ?_ | refine xE ?_ | refine xF ?_ | refine xG ?_) | go_values | go_skip | go_guarded | go_step | go_upon | go_back | ((with_reducible show Oper.upon _ _ _ _ _ _); go_simp) | (dsimp only)))
        exact ⟨⟨k + 1, _, _, by omega, Lib.hid (by have h := H.out.1; rw [Hx.out, Hy.out] at h; exact h), Lib.hid (by have h := H.out.2; rw [Hx.out, Hy.out] at h; exact h), rfl, by go_num, rfl⟩, by simp [intOf]; omega⟩
    · obtain rfl : k = W := by omega
      (repeat (first | (with_reducible first | refine xA ?_ | refine xB ?_ | refine xC ?_ | refine xD ?_ | refine xH ?_ | refine xI rfl ?_ | refine xE ?_ | refine xF ?_ | refine xG ?_) | go_skip | go_guarded | ((with_reducible refine wl_load29 rfl _ rfl ?_); apply Exists.intro; apply Exists.intro; refine ⟨rfl, ?_, ?_⟩; (· (repeat (first | (with_reducible assumption) | ((with_reducible refine heap_new _ _ _ ?_); (simp; done)) | ((with_reducible refine (heap_old _ _ _ ?_).trans ?_); (· (simp; done))) | (with_reducible refine row_same ?_ _) | ((with_reducible refine row_other ?_ _ ?_); rotate_left; (· (simp; done)))))); simp only [Act.put, qz4, qz5, qz6]) | ((with_reducible refine wl_store29 rfl _ _ rfl ?_); apply Exists.intro; apply Exists.intro; apply Exists.intro; refine ⟨rfl, rfl, ?_, ?_⟩; (· (repeat (first | (with_reducible assumption) | ((with_reducible refine heap_new _ _ _ ?_); (simp; done)) | ((with_reducible refine (heap_old _ _ _ ?_).trans ?_); (· (simp; done))) | (with_reducible refine row_same ?_ _) | ((with_reducible refine row_other ?_ _ ?_); rotate_left; (· (simp; done)))))); simp only [Act.put, qz4, qz5, qz6]) | go_values | go_skip | go_guarded | go_step | go_upon | go_back | ((with_reducible show Oper.upon _ _ _ _ _ _); go_simp) | (dsimp only)))
      refine bodyPost_ret (res29 rfl _ _ _ _ rfl (row_same (n := 0) (by (repeat (first | (with_reducible assumption) | ((with_reducible refine heap_new _ _ _ ?_); (simp; done)) | ((with_reducible refine (heap_old _ _ _ ?_).trans ?_); (· (simp; done))) | (with_reducible refine row_same ?_ _) | ((with_reducible refine row_other ?_ _ ?_); rotate_left; (· (simp; done)))))) _)) rfl ⟨?_, ?_⟩
      · rw [hm.out, Nat.mod_eq_of_lt hx.out, Nat.mod_eq_of_lt hy.out]
      · refine Below.setRow ?_ (by omega) _
        (repeat (first | with_reducible exact Below.refl _ _ | assumption | with_reducible refine below_drewN ?_ _ | with_reducible refine Below.drew ?_ | with_reducible refine Below.setRow ?_ ?_ _ | with_reducible refine Below.alloc ?_ ?_ _ | with_reducible refine Below.setCell ?_ ?_ _ | with_reducible exact Nat.le_refl _ | (focus (simp; done)) | (focus (simp; omega)) | omega))
end Go.Proofs.YtmaogkgjiplckaaGreat
namespace Go.Proofs.YtmaogkgjiplckaaGreat
open Go.RowKit
theorem wid_in {N : Nat} (hN : 1 ≤ N ∧ N ≤ 64) : wid (N : Int) = N := by unfold wid; (repeat' split) <;> omega
end Go.Proofs.YtmaogkgjiplckaaGreat
namespace Go.Proofs.YtmaogkgjiplckaaGreat
open Go.RowKit
theorem words_one {X : Nat → Prop} {base gb : Nat} {g : G} (w : World) (hG : GR X base w gb g) (vx : Value) (xs : List Int) (hX : SlX X w vx xs) (hxl : xs.length ≤ 1000000) (r : Bool) (hr : Hid (wordB g.n xs.length xs = r)) :
    Calls Tryz.prog 76 #[.pointer (some ⟨gb, 0, none⟩), .slice (some ⟨w.heap.size, 0, none⟩) 1 1] (w.alloc (.cells #[vx] 31)) fun e w' => e = .returned (.bool r) ∧ GR X base w' gb g ∧ Below w.heap.size w w' := by
  have kx := hX.kept ((Kept.refl X w).alloc (.cells #[vx] 31))
  refine (words_any _ (hG.alloc _) w.heap.size 1 [vx] [xs] xs (heap_alloc_new w _) rfl ⟨rfl, ?_⟩ rfl ?_ (by omega) r (Lib.hid (by rw [List.all_cons, List.all_nil, Bool.and_true]; exact hr.out))).mono ?_
  · intro i x l h1 h2
    rcases i with _ | i
    · simp at h1 h2; subst h1; subst h2; exact kx.mono fun _ _ _ => trivial
    · simp at h1
  · intro l hl
    simp at hl
    rcases hl with rfl; assumption
  · rintro e w' ⟨h1, h2, h3⟩
    exact ⟨h1, h2, (Kept.toBelow (((Kept.refl (fun _ => True) w).alloc _).trans (Kept.mono (Kept.ofBelow (X := fun _ => True) h3) fun _ _ _ => trivial)) (Nat.le_refl _) fun _ _ => trivial)⟩
end Go.Proofs.YtmaogkgjiplckaaGreat
namespace Go.Proofs.YtmaogkgjiplckaaGreat
open Go.RowKit
def constL (n x : Nat) : List Int := (List.range n).map fun i => if x.testBit i then 1 else -1
theorem constL_succ (n x : Nat) : constL (n + 1) x = constL n x ++ [if x.testBit n then 1 else -1] := by simp [constL, List.range_succ]
theorem constL_len (n x : Nat) : (constL n x).length = n := by simp [constL]
theorem constL_isL {n x m : Nat} (hm : 1 ≤ m) : ∀ a ∈ constL n x, isL m a := by
  intro a ha
  obtain ⟨i, _, rfl⟩ := List.mem_map.1 ha
  split <;> exact ⟨by decide, by omega, by omega⟩
theorem constL_lit {s : Nat → Bool} (h : s 1 = true) (n x : Nat) : (constL n x).map (lit s) = (List.range n).map x.testBit := by
  unfold constL
  rw [List.map_map]
  refine List.map_congr_left fun i _ => ?_
  show lit s (if x.testBit i then 1 else -1) = _
  cases x.testBit i <;> simp [lit, h]
theorem bit_one {x : Int} (h0 : 0 ≤ x) (h1 : x < 18446744073709551616) (k : Nat) : (bits BinOp.and IntKind.u64 (x / 2 ^ min k 64) 1 == 1) = x.toNat.testBit k := by
  have h := bit_at h0 h1 k
  obtain ⟨n, rfl⟩ := Int.eq_ofNat_of_zero_le h0
  have hp := Nat.pow_pos (n := min k 64) (show 0 < 2 by omega)
  have e : ((n : Int) / 2 ^ min k 64) = ((n / 2 ^ min k 64 : Nat) : Int) := by rw [Int.natCast_ediv]; simp
  have e2 : bits BinOp.and IntKind.u64 ((n : Int) / 2 ^ min k 64) 1 = ((n / 2 ^ min k 64 &&& 1 : Nat) : Int) := by
    rw [e, show (1 : Int) = ((1 : Nat) : Int) from rfl, bits_and_u64_nat _ _ (Nat.lt_of_le_of_lt (Nat.div_le_self _ _) (by omega)) (by decide)]
  rw [e2] at h ⊢
  rw [Nat.and_one_is_mod] at h ⊢
  rcases Nat.mod_two_eq_zero_or_one (n / 2 ^ min k 64) with hz | hz <;> rw [hz] at h ⊢ <;> simp at h ⊢ <;> simp [h]
set_option maxRecDepth 100000 in
set_option maxHeartbeats 1000000 in
theorem WordC_any (w : World) (gb : Nat) (W x : Int) (hx0 : 0 ≤ x) (hx1 : x < 18446744073709551616) (N : Nat) (hN : max 1 (min W 64) = (N : Int)) :
    Calls Tryz.prog 61 #[.pointer (some ⟨gb, 0, none⟩), .int .i64 W, .int .u64 x] w fun e w' => e = .returned (.slice (some ⟨w.heap.size, 0, none⟩) N N) ∧ OwnI w' w.heap.size N (constL N x.toNat) ∧ Below w.heap.size w w' := by
  have hNb : 1 ≤ N ∧ N ≤ 64 := by omega
  go_enter Tryz.func61, Tryz.ntmps61
  (repeat (first | (with_reducible first | refine xA ?_ | refine xB ?_ | refine xC ?_ | refine xD ?_ | refine xH ?_ | refine xI rfl ?_ | refine xE ?_ | refine xF ?_ | refine xG ?_) | go_skip | go_guarded | ((with_reducible refine wl_id ?_); refine wl_make_own rfl _ _ rfl N (by first | rfl | exact congrArg (Value.int .i64) hN) (by first | rfl | exact congrArg (Value.int .i64) hN) (by omega) ?_; intro w1 hO hg; (try simp only [Act.put, qz4, qz5, qz6])) | go_values | go_skip | go_guarded | go_step | go_upon | go_back | ((with_reducible show Oper.upon _ _ _ _ _ _); go_simp) | (dsimp only)))
  have hb1 : Below w.heap.size w w1 := ⟨hg.os, hg.tape, hg.output, hg.size, fun k hk => hg.block k hk (by simp)⟩
  go_loopw [15] (fun i wr => ∃ k : Nat, k ≤ N ∧ i = .int .i64 k ∧ Hid (OwnI wr w.heap.size N (filled (constL k x.toNat) N)) ∧ Below w.heap.size w wr) (fun i _ => N - (intOf i).toNat)
  case atStart => exact ⟨0, Nat.zero_le _, rfl, Lib.hid (by simpa [filled, constL] using hO), hb1⟩
  case round =>
    clear hO hg hb1
    obtain ⟨k, hk, rfl, HO, hB⟩ := hrel
    rcases Nat.lt_or_ge k N with hlt | hge
    · have hbt := bit_one hx0 hx1 k
      rw [Nat.min_eq_left (by omega)] at hbt
      have i0 : (0 : Int) ≤ (k : Int) := by omega
      have i1 : (k : Int) < (N : Int) := by omega
      clear hN
      have e1 : ((filled (constL k x.toNat) N).set k (-1)) = filled (constL k x.toNat ++ [-1]) N := by
        have := filled_set (outs := constL k x.toNat) (n := N) (by rw [constL_len]; exact hlt) (-1)
        rwa [constL_len] at this
      have e2 : ((filled (constL k x.toNat ++ [-1]) N).set k 1) = filled (constL k x.toNat ++ [1]) N := by
        unfold filled
        rw [List.append_assoc, List.set_append_right _ _ (by rw [constL_len]; exact Nat.le_refl _), constL_len, Nat.sub_self]
        simp [constL_len]
      have E1 := Lib.hid e1
      have E2 := Lib.hid e2
      have ES := Lib.hid (constL_succ k x.toNat)
      clear e1 e2
      rcases hb : x.toNat.testBit k with _ | _
      all_goals rw [hb] at hbt ES
      · (repeat (first | (with_reducible first | refine xA ?_ | refine xB ?_ | refine xC ?_ | refine xD ?_ | refine xH ?_ | refine xI rfl ?_ | refine xE ?_ | refine xF ?_ | refine xG ?_) | go_skip | go_guarded | ((with_reducible refine wl_id ?_); refine wl_store_own rfl _ _ rfl w.heap.size N _ k rfl (-1) rfl HO.out (by omega) ?_; intro w3 hO3 hg3; have HO3 := Lib.hid hO3; have HG3 := Lib.hid hg3; clear hO3 hg3; (try simp only [Act.put, qz4, qz5, qz6])) | go_values | go_skip | go_guarded | go_step | go_upon | go_back | ((with_reducible show Oper.upon _ _ _ _ _ _); go_simp) | (dsimp only)))
        have h3 := HO3.out
        rw [E1.out] at h3
        exact ⟨⟨k + 1, by omega, by go_num, Lib.hid (by rw [ES.out]; exact h3), Below.grown hB HG3.out hB.size (fun q e => by injection e with e; omega)⟩, by simp [intOf]; omega⟩
      · (repeat (first | (with_reducible first | refine xA ?_ | refine xB ?_ | refine xC ?_ | refine xD ?_ | refine xH ?_ | refine xI rfl ?_ | refine xE ?_ | refine xF ?_ | refine xG ?_) | go_skip | go_guarded | ((with_reducible refine wl_id ?_); refine wl_store_own rfl _ _ rfl w.heap.size N _ k rfl 1 rfl HO3.out (by omega) ?_; intro w4 hO4 hg4; (try simp only [Act.put, qz4, qz5, qz6])) | ((with_reducible refine wl_id ?_); refine wl_store_own rfl _ _ rfl w.heap.size N _ k rfl (-1) rfl HO.out (by omega) ?_; intro w3 hO3 hg3; have HO3 := Lib.hid hO3; have HG3 := Lib.hid hg3; clear hO3 hg3; (try simp only [Act.put, qz4, qz5, qz6])) | go_values | go_skip | go_guarded | go_step | go_upon | go_back | ((with_reducible show Oper.upon _ _ _ _ _ _); go_simp) | (dsimp only)))
        rw [E1.out, E2.out] at hO4
        have hB3 := Below.grown hB HG3.out hB.size (fun q e => by injection e with e; omega)
        exact ⟨⟨k + 1, by omega, by go_num, Lib.hid (by rw [ES.out]; exact hO4), Below.grown hB3 hg4 hB3.size (fun q e => by injection e with e; omega)⟩, by simp [intOf]; omega⟩
    · obtain rfl : k = N := by omega
      (repeat (first | (with_reducible first | refine xA ?_ | refine xB ?_ | refine xC ?_ | refine xD ?_ | refine xH ?_ | refine xI rfl ?_ | refine xE ?_ | refine xF ?_ | refine xG ?_) | go_values | go_skip | go_guarded | go_step | go_upon | go_back | ((with_reducible show Oper.upon _ _ _ _ _ _); go_simp) | (dsimp only)))
      go_ret
      have h := HO.out
      rw [filled_full (constL_len _ _)] at h
      exact ⟨rfl, h, hB⟩
end Go.Proofs.YtmaogkgjiplckaaGreat
namespace Go.Proofs.YtmaogkgjiplckaaGreat
open Go.RowKit
theorem zipE_ok {f : G → Int → Int → G × Int} {k : Nat} {env : List Int} {v : List Bool → Bool → Bool → Bool} (fr : List Int) (hf : ∀ (g : G) (s : Nat → Bool) (x y : Int), GI g fr s → (∀ z ∈ env, isL g.n z) → isL g.n x → isL g.n y → Ans g fr s k (f g x y) (v (env.map (lit s)) (lit s x) (lit s y))) :
    ∀ (xs ys : List Int) (g : G) (s : Nat → Bool), GI g fr s → (∀ z ∈ env, isL g.n z) → (∀ x ∈ xs, isL g.n x) → (∀ y ∈ ys, isL g.n y) → xs.length = ys.length →
      WAns g fr s (k * xs.length) (zipG f g xs ys) (((xs.map (lit s)).zip (ys.map (lit s))).map fun p => v (env.map (lit s)) p.1 p.2) := by
  intro xs
  induction xs with
  | nil =>
    intro ys g s hI hc hx hy hl
    cases ys with
    | nil => exact ⟨s, hI, Step.refl _ _, by simp [zipG], by simp [zipG], rfl⟩
    | cons => simp at hl
  | cons x xs ih =>
    intro ys g s hI hc hx hy hl
    cases ys with
    | nil => simp at hl
    | cons y ys =>
      obtain ⟨s1, I1, st1, le1, L1, v1⟩ := hf g s x y hI hc (hx x (by simp)) (hy y (by simp))
      simp only [List.length_cons, Nat.add_right_cancel_iff] at hl
      have hxs : ∀ a ∈ xs, isL g.n a := fun a ha => hx a (by simp [ha])
      have hys : ∀ a ∈ ys, isL g.n a := fun a ha => hy a (by simp [ha])
      obtain ⟨s2, I2, st2, le2, L2, v2⟩ := ih ys (f g x y).1 s1 I1 (fun z hz => st1.isL (hc z hz)) (fun a ha => st1.isL (hxs a ha)) (fun a ha => st1.isL (hys a ha)) hl
      refine ⟨s2, I2, st1.trans st2, ?_, ?_, ?_⟩
      · show (zipG f (f g x y).1 xs ys).1.n ≤ g.n + k * (xs.length + 1)
        rw [Nat.mul_add]; omega
      · intro a ha
        simp only [zipG, List.mem_cons] at ha
        rcases ha with rfl | ha
        · exact st2.isL L1
        · exact L2 a ha
      · simp only [zipG, List.map_cons, List.zip_cons_cons]
        rw [st2.lit L1, v1, v2, step_map st1 hxs, step_map st1 hys, step_map st1 hc]
theorem bv_test : ∀ (l : List Bool) (i : Nat), (bv l).testBit i = l.getD i false := by
  intro l
  induction l with
  | nil => intro i; simp [bv]
  | cons b l ih =>
    intro i
    rw [bv]
    rcases i with _ | i
    · rw [Nat.testBit_zero]
      cases b <;> simp <;> omega
    · rw [Nat.testBit_succ, show ((if b = true then 1 else 0) + 2 * bv l) / 2 = bv l by cases b <;> simp <;> omega, ih]
      rfl
theorem bv_zip (f : Bool → Bool → Bool) (op : Nat → Nat → Nat) (hf : f false false = false) (ho : ∀ a b i, (op a b).testBit i = f (a.testBit i) (b.testBit i)) {ps qs : List Bool} (h : ps.length = qs.length) : bv ((ps.zip qs).map fun p => f p.1 p.2) = op (bv ps) (bv qs) := by
  refine Nat.eq_of_testBit_eq fun i => ?_
  rw [ho, bv_test, bv_test, bv_test]
  rcases Nat.lt_or_ge i ps.length with hi | hi
  · have hb : i < qs.length := by omega
    have hz : i < (ps.zip qs).length := by simp; omega
    have e : (ps.zip qs)[i]? = some (ps[i], qs[i]) := by rw [List.getElem?_eq_getElem hz, List.getElem_zip]
    simp [List.getD_eq_getElem?_getD, hi, hb, e]
  · have hb : qs.length ≤ i := by omega
    rw [List.getD_eq_getElem?_getD, List.getD_eq_getElem?_getD, List.getD_eq_getElem?_getD, List.getElem?_eq_none (by simp; omega), List.getElem?_eq_none hi, List.getElem?_eq_none hb]
    exact hf.symm
theorem bitsN_ok {g : G} {fr : List Int} {s : Nat → Bool} {xs ys : List Int} {f : G → Int → Int → G × Int} {b : Bool → Bool → Bool} {op : Nat → Nat → Nat} (hI : GI g fr s) (hx : ∀ x ∈ xs, isL g.n x) (hy : ∀ y ∈ ys, isL g.n y) (hl : xs.length = ys.length)
    (hf : ∀ (g : G) (s : Nat → Bool) (x y : Int), GI g fr s → isL g.n x → isL g.n y → Ans g fr s 1 (f g x y) (b (lit s x) (lit s y))) (hb : b false false = false) (ho : ∀ p q i, (op p q).testBit i = b (p.testBit i) (q.testBit i)) : NAns g fr s xs.length xs.length (zipG f g xs ys) (op (num s xs) (num s ys)) := by
  obtain ⟨s', h1, h2, h3, h4, h5⟩ := zipE_ok (env := []) (v := fun _ => b) (k := 1) fr (fun g s x y a _ c d => hf g s x y a c d) xs ys g s hI (by simp) hx hy hl
  refine ⟨s', h1, h2, by rw [Nat.one_mul] at h3; exact h3, h4, zipG_len f xs ys g hl, ?_⟩
  show bv _ = _
  rw [h5, bv_zip b op hb ho (by simpa using hl)]
  rfl
theorem andN_ok {g : G} {fr : List Int} {s : Nat → Bool} {xs ys : List Int} (hI : GI g fr s) (hx : ∀ x ∈ xs, isL g.n x) (hy : ∀ y ∈ ys, isL g.n y) (hl : xs.length = ys.length) : NAns g fr s xs.length xs.length (zipG both g xs ys) (num s xs &&& num s ys) :=
  bitsN_ok hI hx hy hl (fun _ _ _ _ a b c => both_ok a b c) rfl (fun p q i => Nat.testBit_and p q i)
theorem orN_ok {g : G} {fr : List Int} {s : Nat → Bool} {xs ys : List Int} (hI : GI g fr s) (hx : ∀ x ∈ xs, isL g.n x) (hy : ∀ y ∈ ys, isL g.n y) (hl : xs.length = ys.length) : NAns g fr s xs.length xs.length (zipG either g xs ys) (num s xs ||| num s ys) :=
  bitsN_ok hI hx hy hl (fun _ _ _ _ a b c => either_ok a b c) rfl (fun p q i => Nat.testBit_or p q i)
theorem xorN_ok {g : G} {fr : List Int} {s : Nat → Bool} {xs ys : List Int} (hI : GI g fr s) (hx : ∀ x ∈ xs, isL g.n x) (hy : ∀ y ∈ ys, isL g.n y) (hl : xs.length = ys.length) : NAns g fr s xs.length xs.length (zipG odd g xs ys) (num s xs ^^^ num s ys) :=
  bitsN_ok hI hx hy hl (fun _ _ _ _ a b c => odd_ok a b c) rfl (fun p q i => by rw [Nat.testBit_xor])
def upL (x : List Int) (k : Nat) (i : Int) : List Int := (List.replicate k i ++ x).take x.length
theorem upL_len (x : List Int) (k : Nat) (i : Int) : (upL x k i).length = x.length := by simp [upL]
theorem upL_isL {n k : Nat} {x : List Int} {i : Int} (hx : ∀ a ∈ x, isL n a) (hi : isL n i) : ∀ a ∈ upL x k i, isL n a := by
  intro a ha
  rcases List.mem_append.1 (List.mem_of_mem_take ha) with h | h
  · rw [List.eq_of_mem_replicate h]; exact hi
  · exact hx a h
theorem bv_take : ∀ (l : List Bool) (n : Nat), bv (l.take n) = bv l % 2 ^ n := by
  intro l
  induction l with
  | nil => intro n; simp [bv]
  | cons b l ih =>
    intro n
    rcases n with _ | n
    · simp [bv, Nat.mod_one]
    · rw [List.take_succ_cons, bv, bv, ih, Nat.pow_succ, Nat.mul_comm (2 ^ n) 2, Nat.mod_mul]
      cases b
      · simp
      · simp only [if_true]
        rw [show (1 + 2 * bv l) % 2 = 1 by omega, show (1 + 2 * bv l) / 2 = bv l by omega]
theorem bv_rep0 : ∀ (k : Nat) (l : List Bool), bv (List.replicate k false ++ l) = 2 ^ k * bv l := by
  intro k
  induction k with
  | zero => intro l; simp
  | succ k ih => intro l; rw [List.replicate_succ, List.cons_append, bv, ih, Nat.pow_succ]; simp; rw [Nat.mul_comm (2 ^ k) 2, Nat.mul_assoc]
theorem num_up {s : Nat → Bool} {i : Int} (x : List Int) (k : Nat) (hi : lit s i = false) : num s (upL x k i) = 2 ^ k * num s x % 2 ^ x.length := by
  unfold num upL
  rw [List.map_take, bv_take, List.map_append, List.map_replicate, hi, bv_rep0]
end Go.Proofs.YtmaogkgjiplckaaGreat
namespace Go.Proofs.YtmaogkgjiplckaaGreat
open Go.RowKit
theorem withN_ok {g : G} {fr : List Int} {s : Nat → Bool} {xs : List Int} {c : Int} (hI : GI g fr s) (hx : ∀ x ∈ xs, isL g.n x) (hc : isL g.n c) : NAns g fr s xs.length xs.length (zipG (fun g x _ => both g x c) g xs xs) (if lit s c then num s xs else 0) := by
  obtain ⟨s', h1, h2, h3, h4, h5⟩ := zipE_ok (f := fun g x _ => both g x c) (env := [c]) (v := fun e p _ => p && e.getD 0 false) (k := 1) fr (fun g s x y a b d e => by
    have := both_ok a d (b c (by simp))
    simpa using this) xs xs g s hI (by intro z hz; rw [List.mem_singleton] at hz; subst hz; exact hc) hx hx rfl
  refine ⟨s', h1, h2, by rw [Nat.one_mul] at h3; exact h3, h4, zipG_len _ xs xs g rfl, ?_⟩
  show bv _ = _
  rw [h5]
  have e : ((List.map (lit s) xs).zip (List.map (lit s) xs)).map (fun p => p.1 && ([c].map (lit s)).getD 0 false) = if lit s c then xs.map (lit s) else xs.map fun _ => false := by
    have hz : ∀ l : List Bool, (l.zip l).map (fun p => p.1 && lit s c) = l.map fun b => b && lit s c := by
      intro l
      induction l with
      | nil => rfl
      | cons b l ih => simp only [List.zip_cons_cons, List.map_cons, ih]
    show ((List.map (lit s) xs).zip (List.map (lit s) xs)).map (fun p => p.1 && lit s c) = _
    rw [hz]
    cases lit s c <;> simp
  rw [e]
  cases lit s c
  · simp only [Bool.false_eq_true, if_false]
    have : ∀ l : List Int, bv (l.map fun _ => false) = 0 := by
      intro l
      induction l with
      | nil => rfl
      | cons _ l ih => simp [bv, ih]
    exact this xs
  · simp only [if_true]; rfl
def prodG : G → List Int → List Int → Nat → List Int → G × List Int
  | g, out, _, _, [] => (g, out)
  | g, out, x, k, c :: ys =>
    let p := zipG (fun g x _ => both g x c) g (upL x k (-1)) (upL x k (-1))
    let t := sumG p.1 out p.2 (-1)
    prodG t.1 t.2.1 x (k + 1) ys
theorem prod_mod {o x y n k : Nat} {c : Bool} : ((o + (if c then 2 ^ k * x % 2 ^ n else 0)) % 2 ^ n + 2 ^ (k + 1) * x * y) % 2 ^ n = (o + 2 ^ k * x * ((if c then 1 else 0) + 2 * y)) % 2 ^ n := by
  rw [Nat.mod_add_mod]
  have e : 2 ^ (k + 1) * x * y = 2 ^ k * x * (2 * y) := by rw [Nat.pow_succ, Nat.mul_assoc, Nat.mul_assoc, Nat.mul_assoc, Nat.mul_left_comm 2 x y]
  rw [e, Nat.mul_add, ← Nat.add_assoc]
  cases c
  · simp
  · simp only [if_true, Nat.mul_one]
    rw [Nat.add_mod, Nat.add_mod o, Nat.mod_mod, ← Nat.add_mod o, ← Nat.add_mod]
theorem prod_ok {fr : List Int} {x : List Int} : ∀ (ys : List Int) (k : Nat) (g : G) (s : Nat → Bool) (out : List Int), GI g fr s → (∀ a ∈ x, isL g.n a) → (∀ a ∈ out, isL g.n a) → (∀ a ∈ ys, isL g.n a) → out.length = x.length →
    NAns g fr s (6 * x.length * ys.length) x.length (prodG g out x k ys) ((num s out + 2 ^ k * num s x * num s ys) % 2 ^ x.length) := by
  intro ys
  induction ys with
  | nil =>
    intro k g s out hI hx ho hy hl
    refine ⟨s, hI, Step.refl _ _, by simp [prodG], ho, hl, ?_⟩
    have := num_lt s out
    rw [hl] at this
    show num s out = _
    rw [show num s [] = 0 from rfl, Nat.mul_zero, Nat.add_zero, Nat.mod_eq_of_lt this]
  | cons c ys ih =>
    intro k g s out hI hx ho hy hl
    have Lc := hy c (by simp)
    have hys : ∀ a ∈ ys, isL g.n a := fun a ha => hy a (by simp [ha])
    obtain ⟨s1, i1, t1, n1, L1, l1, v1⟩ := withN_ok hI (upL_isL (k := k) hx (isL_no hI)) Lc
    rw [upL_len] at n1 l1
    obtain ⟨s2, i2, t2, n2, L2, -, l2, v2, -⟩ := sumN_ok i1 (isL_no i1) (fun a h => t1.isL (ho a h)) L1 (by rw [l1, hl])
    rw [hl] at n2 l2 v2
    have t12 := t1.trans t2
    obtain ⟨s3, i3, t3, n3, L3, l3, v3⟩ := ih (k + 1) _ s2 _ i2 (fun a h => t12.isL (hx a h)) L2 (fun a h => t12.isL (hys a h)) l2
    have e : prodG g out x k (c :: ys) = prodG (sumG (zipG (fun g x _ => both g x c) g (upL x k (-1)) (upL x k (-1))).1 out (zipG (fun g x _ => both g x c) g (upL x k (-1)) (upL x k (-1))).2 (-1)).1 (sumG (zipG (fun g x _ => both g x c) g (upL x k (-1)) (upL x k (-1))).1 out (zipG (fun g x _ => both g x c) g (upL x k (-1)) (upL x k (-1))).2 (-1)).2.1 x (k + 1) ys := rfl
    rw [e]
    refine ⟨s3, i3, t12.trans t3, ?_, L3, l3, ?_⟩
    · rw [List.length_cons, Nat.mul_add]; omega
    · rw [v3, v2, numS t12 hx, numS t12 hys, numS t1 ho, v1, num_up x k (lit_no hI), lit_no i1]
      simp only [Bool.toNat_false, Nat.add_zero]
      have h := prod_mod (o := num s out) (x := num s x) (y := num s ys) (n := x.length) (k := k) (c := lit s c)
      rw [h]
      rfl
end Go.Proofs.YtmaogkgjiplckaaGreat
namespace Go.Proofs.YtmaogkgjiplckaaGreat
open Go.RowKit
def divG : G → List Int → List Int → List Int → List Int → G × List Int × List Int
  | g, [], r, _, q => (g, q, r)
  | g, d :: ds, r, y, q =>
    let t := sumG g (d :: r) (notL (y ++ [-1])) 1
    let c := chooseG t.1 t.2.2 t.2.1 (d :: r)
    divG c.1 ds (c.2.take y.length) y (t.2.2 :: q)
theorem num_snoc0 (s : Nat → Bool) (y : List Int) {z : Int} (hz : lit s z = false) : num s (y ++ [z]) = num s y := by
  unfold num
  rw [List.map_append, List.map_singleton, hz]
  generalize y.map (lit s) = l
  induction l with
  | nil => rfl
  | cons b l ih => rw [List.cons_append, bv, bv, ih]
theorem num_cons (s : Nat → Bool) (d : Int) (r : List Int) : num s (d :: r) = (lit s d).toNat + 2 * num s r := by
  show (if lit s d then 1 else 0) + 2 * bv (r.map (lit s)) = _
  cases lit s d <;> rfl
def dstep (n Y : Nat) (p : Nat × Nat) (d : Bool) : Nat × Nat :=
  let N := d.toNat + 2 * p.2
  ((decide (Y ≤ N)).toNat + 2 * p.1, (if Y ≤ N then (N + 2 ^ (n + 1) - Y) % 2 ^ (n + 1) else N) % 2 ^ n)
theorem num_take (s : Nat → Bool) (l : List Int) (n : Nat) : num s (l.take n) = num s l % 2 ^ n := by
  unfold num; rw [List.map_take, bv_take]
theorem div_ok {fr : List Int} {y : List Int} : ∀ (ds : List Int) (g : G) (s : Nat → Bool) (r q : List Int), GI g fr s → (∀ a ∈ ds, isL g.n a) → (∀ a ∈ r, isL g.n a) → (∀ a ∈ y, isL g.n a) → (∀ a ∈ q, isL g.n a) → r.length = y.length →
    ∃ s', GI (divG g ds r y q).1 fr s' ∧ Step g s (divG g ds r y q).1 s' ∧ (divG g ds r y q).1.n ≤ g.n + 8 * (y.length + 1) * ds.length ∧ (∀ a ∈ (divG g ds r y q).2.1, isL (divG g ds r y q).1.n a) ∧ (∀ a ∈ (divG g ds r y q).2.2, isL (divG g ds r y q).1.n a) ∧ (divG g ds r y q).2.1.length = q.length + ds.length ∧ (divG g ds r y q).2.2.length = y.length ∧
      (num s' (divG g ds r y q).2.1, num s' (divG g ds r y q).2.2) = (ds.map (lit s)).foldl (dstep y.length (num s y)) (num s q, num s r) := by
  intro ds
  induction ds with
  | nil => intro g s r q hI hd hr hy hq hl; exact ⟨s, hI, Step.refl _ _, by simp [divG], hq, hr, by simp [divG], hl, rfl⟩
  | cons d ds ih =>
    intro g s r q hI hd hr hy hq hl
    have Ld := hd d (by simp)
    have hds : ∀ a ∈ ds, isL g.n a := fun a ha => hd a (by simp [ha])
    have hnx : ∀ a ∈ d :: r, isL g.n a := by
      intro a ha
      rcases List.mem_cons.1 ha with rfl | ha
      · exact Ld
      · exact hr a ha
    have hw : ∀ a ∈ y ++ [-1], isL g.n a := by
      intro a ha
      rcases List.mem_append.1 ha with ha | ha
      · exact hy a ha
      · rw [List.mem_singleton] at ha; subst ha; exact isL_no hI
    obtain ⟨s1, i1, t1, n1, L1, L1c, l1, v1, c1⟩ := sub_ok hI hnx hw (by simp [hl])
    have en : num s (d :: r) = (lit s d).toNat + 2 * num s r := num_cons s d r
    rw [List.length_cons, hl] at n1 l1 v1
    rw [num_snoc0 s y (lit_no hI), en] at v1 c1
    obtain ⟨s2, i2, t2, n2, L2, v2⟩ := chooseG_ok i1 L1c L1 (fun a h => t1.isL (hnx a h)) (by rw [l1, List.length_cons, hl])
    rw [l1] at n2
    have t12 := t1.trans t2
    have l2 : (chooseG (sumG g (d :: r) (notL (y ++ [-1])) 1).1 (sumG g (d :: r) (notL (y ++ [-1])) 1).2.2 (sumG g (d :: r) (notL (y ++ [-1])) 1).2.1 (d :: r)).2.length = y.length + 1 := by
      unfold chooseG
      rw [zipG_len _ _ _ _ (by rw [l1, List.length_cons, hl]), l1]
    obtain ⟨s3, i3, t3, n3, L3q, L3r, l3q, l3r, v3⟩ := ih _ s2 ((chooseG (sumG g (d :: r) (notL (y ++ [-1])) 1).1 (sumG g (d :: r) (notL (y ++ [-1])) 1).2.2 (sumG g (d :: r) (notL (y ++ [-1])) 1).2.1 (d :: r)).2.take y.length) ((sumG g (d :: r) (notL (y ++ [-1])) 1).2.2 :: q) i2 (fun a h => t12.isL (hds a h)) (fun a h => L2 a (List.mem_of_mem_take h)) (fun a h => t12.isL (hy a h)) (by
      intro a ha
      rcases List.mem_cons.1 ha with rfl | ha
      · exact t2.isL L1c
      · exact t12.isL (hq a ha)) (by rw [List.length_take, l2]; omega)
    refine ⟨s3, i3, t12.trans t3, ?_, L3q, L3r, ?_, l3r, ?_⟩
    · show (divG _ ds _ y _).1.n ≤ _
      rw [List.length_cons, Nat.mul_add]
      have n3' := n3
      omega
    · show (divG _ ds _ y _).2.1.length = _
      rw [l3q, List.length_cons, List.length_cons]; omega
    · show (num s3 (divG _ ds _ y _).2.1, num s3 (divG _ ds _ y _).2.2) = _
      rw [v3, List.map_cons, List.foldl_cons, step_map t12 hds, numS t12 hy]
      congr 1
      rw [num_cons, num_take, numS t12 hq, t2.lit L1c, c1]
      have e2 : num s2 (chooseG (sumG g (d :: r) (notL (y ++ [-1])) 1).1 (sumG g (d :: r) (notL (y ++ [-1])) 1).2.2 (sumG g (d :: r) (notL (y ++ [-1])) 1).2.1 (d :: r)).2 = if num s y ≤ (lit s d).toNat + 2 * num s r then ((lit s d).toNat + 2 * num s r + 2 ^ (y.length + 1) - num s y) % 2 ^ (y.length + 1) else (lit s d).toNat + 2 * num s r := by
        show bv _ = _
        rw [v2, c1]
        by_cases h : num s y ≤ (lit s d).toNat + 2 * num s r
        · rw [decide_eq_true h, if_pos rfl, if_pos h]; exact v1
        · rw [decide_eq_false h, if_neg (by simp), if_neg h, step_map t1 hnx]; exact en
      rw [e2]
      rfl
end Go.Proofs.YtmaogkgjiplckaaGreat
namespace Go.Proofs.YtmaogkgjiplckaaGreat
open Go.RowKit
def tv (a : Nat) (bs : List Bool) : Nat := bs.foldl (fun a b => b.toNat + 2 * a) a
theorem tv_rev (l : List Bool) : tv 0 l.reverse = bv l := by
  unfold tv
  rw [List.foldl_reverse]
  induction l with
  | nil => rfl
  | cons b l ih => rw [List.foldr_cons, ih, bv]; cases b <;> rfl
theorem dstep_pos {n Y A : Nat} {b : Bool} (h0 : 0 < Y) (hY : Y < 2 ^ n) : dstep n Y (A / Y, A % Y) b = ((b.toNat + 2 * A) / Y, (b.toNat + 2 * A) % Y) := by
  have hr := Nat.mod_lt A h0
  have hA := Nat.div_add_mod A Y
  have hb : b.toNat ≤ 1 := Bool.toNat_le b
  have hp : 2 ^ (n + 1) = 2 * 2 ^ n := by rw [Nat.pow_succ]; omega
  unfold dstep
  dsimp only
  generalize hq : A / Y = q at *
  generalize hr' : A % Y = r at *
  have hN : b.toNat + 2 * A = Y * (2 * q) + (b.toNat + 2 * r) := by
    rw [← hA, Nat.mul_add, Nat.mul_left_comm 2 Y q]; omega
  rw [hN]
  by_cases h : Y ≤ b.toNat + 2 * r
  · rw [if_pos h, decide_eq_true h, hp]
    have e1 : Y * (2 * q) + (b.toNat + 2 * r) = (b.toNat + 2 * r - Y) + Y * (2 * q + 1) := by rw [Nat.mul_add, Nat.mul_one]; omega
    have hlt : b.toNat + 2 * r - Y < Y := by omega
    rw [e1, Nat.add_mul_div_left _ _ h0, Nat.add_mul_mod_self_left, Nat.div_eq_of_lt hlt, Nat.mod_eq_of_lt hlt]
    have e2 : (b.toNat + 2 * r + 2 * 2 ^ n - Y) % (2 * 2 ^ n) = b.toNat + 2 * r - Y := by
      rw [show b.toNat + 2 * r + 2 * 2 ^ n - Y = (b.toNat + 2 * r - Y) + 2 * 2 ^ n by omega, Nat.add_mod_right, Nat.mod_eq_of_lt (by omega)]
    rw [e2, Nat.mod_eq_of_lt (by omega)]
    simp; omega
  · rw [if_neg h, decide_eq_false h]
    have hlt : b.toNat + 2 * r < Y := by omega
    rw [Nat.add_comm (Y * (2 * q)), Nat.add_mul_div_left _ _ h0, Nat.add_mul_mod_self_left, Nat.div_eq_of_lt hlt, Nat.mod_eq_of_lt hlt, Nat.mod_eq_of_lt (by omega)]
    simp
theorem dfold_pos {n Y : Nat} (h0 : 0 < Y) (hY : Y < 2 ^ n) : ∀ (bs : List Bool) (A : Nat), bs.foldl (dstep n Y) (A / Y, A % Y) = (tv A bs / Y, tv A bs % Y) := by
  intro bs
  induction bs with
  | nil => intro A; rfl
  | cons b bs ih => intro A; rw [List.foldl_cons, dstep_pos h0 hY, ih]; rfl
theorem dfold_zero {n : Nat} : ∀ (bs : List Bool) (A k : Nat), bs.foldl (dstep n 0) (2 ^ k - 1, A % 2 ^ n) = (2 ^ (k + bs.length) - 1, tv A bs % 2 ^ n) := by
  intro bs
  induction bs with
  | nil => intro A k; rfl
  | cons b bs ih =>
    intro A k
    have hp := Nat.pow_pos (n := k) (show 0 < 2 by omega)
    have e : dstep n 0 (2 ^ k - 1, A % 2 ^ n) b = (2 ^ (k + 1) - 1, (b.toNat + 2 * A) % 2 ^ n) := by
      unfold dstep
      dsimp only
      rw [if_pos (Nat.zero_le _), decide_eq_true (Nat.zero_le _), Nat.sub_zero, Nat.add_mod_right, Nat.pow_succ, Nat.pow_succ, Nat.mod_mul_right_mod]
      rw [Prod.mk.injEq]
      refine ⟨by simp; omega, ?_⟩
      rw [Nat.add_mod, Nat.mul_mod, Nat.mod_mod, ← Nat.mul_mod, ← Nat.add_mod]
    rw [List.foldl_cons, e, ih, List.length_cons, show k + 1 + bs.length = k + (bs.length + 1) by omega]
    rfl
theorem divN {s : Nat → Bool} {x : List Int} {n Y : Nat} (hx : x.length = n) (hY : Y < 2 ^ n) : ((x.reverse).map (lit s)).foldl (dstep n Y) (0, 0) = if Y = 0 then (2 ^ n - 1, num s x) else (num s x / Y, num s x % Y) := by
  have ht : tv 0 ((x.reverse).map (lit s)) = num s x := by rw [List.map_reverse]; exact tv_rev _
  by_cases h : Y = 0
  · subst h
    rw [if_pos rfl]
    have := dfold_zero (n := n) ((x.reverse).map (lit s)) 0 0
    rw [ht] at this
    have hlt := num_lt s x
    rw [hx] at hlt
    rw [Nat.mod_eq_of_lt hlt] at this
    simpa [hx] using this
  · rw [if_neg h]
    have := dfold_pos (n := n) (Nat.pos_of_ne_zero h) hY ((x.reverse).map (lit s)) 0
    rw [ht] at this
    simpa using this
end Go.Proofs.YtmaogkgjiplckaaGreat
namespace Go.Proofs.YtmaogkgjiplckaaGreat
open Go.RowKit
def upB (l : List Bool) (j : Nat) (b : Bool) : List Bool := (List.replicate j b ++ l).take l.length
theorem upB_len (l : List Bool) (j : Nat) (b : Bool) : (upB l j b).length = l.length := by simp [upB]
theorem upB_get (l : List Bool) (j : Nat) (b : Bool) (i : Nat) : (upB l j b)[i]? = if i < l.length then (if i < j then some b else l[i - j]?) else none := by
  unfold upB
  rw [List.getElem?_take]
  split
  · rw [List.getElem?_append, List.length_replicate]
    split
    · rename_i h; rw [List.getElem?_replicate, if_pos h]
    · rfl
  · rfl
theorem upB_add (l : List Bool) (i j : Nat) (b : Bool) : upB (upB l i b) j b = upB l (i + j) b := by
  apply List.ext_getElem?
  intro m
  rw [upB_get, upB_get, upB_len, upB_get]
  by_cases hm : m < l.length
  · rw [if_pos hm, if_pos hm]
    by_cases hj : m < j
    · rw [if_pos hj, if_pos (by omega)]
    · rw [if_neg hj, if_pos (by omega)]
      by_cases hi : m - j < i
      · rw [if_pos hi, if_pos (by omega)]
      · rw [if_neg hi, if_neg (by omega), show m - j - i = m - (i + j) by omega]
  · rw [if_neg hm, if_neg hm]
theorem upB_big (l : List Bool) {j : Nat} (b : Bool) (h : l.length ≤ j) : upB l j b = List.replicate l.length b := by
  apply List.ext_getElem?
  intro m
  rw [upB_get, List.getElem?_replicate]
  by_cases hm : m < l.length
  · rw [if_pos hm, if_pos (by omega), if_pos hm]
  · rw [if_neg hm, if_neg hm]
theorem upB_zero (l : List Bool) (b : Bool) : upB l 0 b = l := by simp [upB]
theorem upL_lit (s : Nat → Bool) (x : List Int) (j : Nat) (i : Int) : (upL x j i).map (lit s) = upB (x.map (lit s)) j (lit s i) := by
  unfold upL upB
  rw [List.map_take, List.map_append, List.map_replicate, List.length_map]
def shiftG : G → List Int → List Int → Nat → Int → Int → G × List Int
  | g, x, [], _, far, i => chooseG g far (upL x x.length i) x
  | g, x, c :: ys, k, far, i =>
    if k < 7 ∧ 2 ^ k < x.length then
      let r := chooseG g c (upL x (2 ^ k) i) x
      shiftG r.1 r.2 ys (k + 1) far i
    else
      let e := either g far c
      shiftG e.1 x ys (k + 1) e.2 i
theorem shift_ok {fr : List Int} {i : Int} {n : Nat} (hn : n ≤ 64) : ∀ (ys : List Int) (k : Nat) (g : G) (s : Nat → Bool) (x : List Int) (far : Int), GI g fr s → x.length = n → (∀ a ∈ x, isL g.n a) → (∀ a ∈ ys, isL g.n a) → isL g.n far → isL g.n i →
    ∃ s', GI (shiftG g x ys k far i).1 fr s' ∧ Step g s (shiftG g x ys k far i).1 s' ∧ (shiftG g x ys k far i).1.n ≤ g.n + (3 * n + 1) * ys.length + 3 * n ∧ (∀ a ∈ (shiftG g x ys k far i).2, isL (shiftG g x ys k far i).1.n a) ∧ (shiftG g x ys k far i).2.length = n ∧
      (shiftG g x ys k far i).2.map (lit s') = upB (x.map (lit s)) (2 ^ k * num s ys + (if lit s far then n else 0)) (lit s i) := by
  intro ys
  induction ys with
  | nil =>
    intro k g s x far hI hl hx hy hf hi
    obtain ⟨s1, i1, t1, n1, L1, v1⟩ := chooseG_ok hI hf (upL_isL (k := x.length) hx hi) hx (upL_len _ _ _)
    rw [upL_len, hl] at n1
    refine ⟨s1, i1, t1, ?_, L1, ?_, ?_⟩
    · show (chooseG g far (upL x x.length i) x).1.n ≤ _
      simp only [List.length_nil, Nat.mul_zero, Nat.add_zero]; rw [hl]; omega
    · show (chooseG g far (upL x x.length i) x).2.length = n
      unfold chooseG; rw [zipG_len _ _ _ _ (upL_len _ _ _), upL_len, hl]
    · show (chooseG g far (upL x x.length i) x).2.map (lit s1) = _
      rw [v1, upL_lit, show num s [] = 0 from rfl, Nat.mul_zero, Nat.zero_add, hl]
      cases lit s far
      · simp [upB_zero]
      · simp
  | cons c ys ih =>
    intro k g s x far hI hl hx hy hf hi
    have Lc := hy c (by simp)
    have hys : ∀ a ∈ ys, isL g.n a := fun a ha => hy a (by simp [ha])
    by_cases hk : k < 7 ∧ 2 ^ k < x.length
    · obtain ⟨s1, i1, t1, n1, L1, v1⟩ := chooseG_ok hI Lc (upL_isL (k := 2 ^ k) hx hi) hx (upL_len _ _ _)
      rw [upL_len, hl] at n1
      have l1 : (chooseG g c (upL x (2 ^ k) i) x).2.length = n := by unfold chooseG; rw [zipG_len _ _ _ _ (upL_len _ _ _), upL_len, hl]
      obtain ⟨s2, i2, t2, n2, L2, l2, v2⟩ := ih (k + 1) _ s1 _ far i1 l1 L1 (fun a h => t1.isL (hys a h)) (t1.isL hf) (t1.isL hi)
      have e : shiftG g x (c :: ys) k far i = shiftG (chooseG g c (upL x (2 ^ k) i) x).1 (chooseG g c (upL x (2 ^ k) i) x).2 ys (k + 1) far i := by
        show (if k < 7 ∧ 2 ^ k < x.length then _ else _) = _
        rw [if_pos hk]
      rw [e]
      refine ⟨s2, i2, t1.trans t2, ?_, L2, l2, ?_⟩
      · rw [List.length_cons, Nat.mul_add]; omega
      · rw [v2, v1, numS t1 hys, t1.lit hf, t1.lit hi, num_cons, upL_lit]
        have ex : (if lit s c = true then upB (x.map (lit s)) (2 ^ k) (lit s i) else x.map (lit s)) = upB (x.map (lit s)) (2 ^ k * (lit s c).toNat) (lit s i) := by
          cases lit s c
          · simp [upB_zero]
          · simp
        rw [ex, upB_add]
        congr 1
        rw [Nat.pow_succ, Nat.mul_add, Nat.mul_assoc]; omega
    · obtain ⟨s1, i1, t1, n1, L1, v1⟩ := either_ok hI hf Lc
      obtain ⟨s2, i2, t2, n2, L2, l2, v2⟩ := ih (k + 1) _ s1 x _ i1 hl (fun a h => t1.isL (hx a h)) (fun a h => t1.isL (hys a h)) L1 (t1.isL hi)
      have e : shiftG g x (c :: ys) k far i = shiftG (either g far c).1 x ys (k + 1) (either g far c).2 i := by
        show (if k < 7 ∧ 2 ^ k < x.length then _ else _) = _
        rw [if_neg hk]
      rw [e]
      refine ⟨s2, i2, t1.trans t2, ?_, L2, l2, ?_⟩
      · rw [List.length_cons, Nat.mul_add]; omega
      · have hbig : n ≤ 2 ^ k := by
          rcases Nat.lt_or_ge k 7 with h | h
          · have : ¬ 2 ^ k < x.length := fun h' => hk ⟨h, h'⟩
            omega
          · have : 2 ^ 7 ≤ 2 ^ k := Nat.pow_le_pow_right (by decide) h
            omega
        rw [v2, v1, step_map t1 hx, numS t1 hys, t1.lit hi, num_cons]
        cases hc : lit s c
        · simp only [Bool.or_false, Bool.toNat_false, Nat.zero_add]
          congr 1
          rw [Nat.pow_succ, Nat.mul_assoc]
        · have hlx : (x.map (lit s)).length = n := by rw [List.length_map, hl]
          rw [upB_big _ _ (by rw [hlx]; simp), upB_big _ _ (by rw [hlx, Nat.mul_add, Bool.toNat_true, Nat.mul_one]; omega)]
end Go.Proofs.YtmaogkgjiplckaaGreat
namespace Go.Proofs.YtmaogkgjiplckaaGreat
open Go.RowKit
theorem notL_upto {l : List Int} {k : Nat} {x : Int} (h : l[k]? = some x) : notL (l.take (k + 1)) = notL (l.take k) ++ [-x] := by
  rw [list_upto h]; simp [notL]
set_option maxRecDepth 100000 in
set_option maxHeartbeats 1000000 in
theorem turned_any {X : Nat → Prop} (w : World) (v : Value) (l : List Int) (hl : SlX X w v l) (hll : l.length ≤ 1000000) (hb : ∀ x ∈ l, -1048576 ≤ x ∧ x ≤ 1048576) :
    Calls Tryz.prog 77 #[v] w fun e w' => e = .returned (.slice (some ⟨w.heap.size, 0, none⟩) l.length l.length) ∧ OwnI w' w.heap.size l.length (notL l) ∧ Below w.heap.size w w' := by
  obtain ⟨a, c, rfl⟩ := hl.shape
  have HL := Lib.hid hl
  have HB := Lib.hid hb
  have hlI : (l.length : Int) ≤ 1000000 := by omega
  clear hl hb
  go_enter Tryz.func77, Tryz.ntmps77
  (repeat (first | (with_reducible first | refine xA ?_ | refine xB ?_ | refine xC ?_ | refine xD ?_ | refine xH ?_ | refine xI rfl ?_ | refine xE ?_ | refine xF ?_ | refine xG ?_) | go_skip | go_guarded | ((with_reducible refine wl_id ?_); refine wl_make_own rfl _ _ rfl l.length rfl rfl hll ?_; intro w1 hO hg; (try simp only [Act.put, qz4, qz5, qz6])) | go_values | go_skip | go_guarded | go_step | go_upon | go_back | ((with_reducible show Oper.upon _ _ _ _ _ _); go_simp) | (dsimp only)))
  have hb1 : Below w.heap.size w w1 := ⟨hg.os, hg.tape, hg.output, hg.size, fun k hk => hg.block k hk (by simp)⟩
  go_loopw [10] (fun i wr => ∃ k : Nat, k ≤ l.length ∧ i = .int .i64 k ∧ Hid (OwnI wr w.heap.size l.length (filled (notL (l.take k)) l.length)) ∧ Below w.heap.size w wr) (fun i _ => l.length - (intOf i).toNat)
  case atStart => exact ⟨0, Nat.zero_le _, rfl, Lib.hid (by simpa [filled, notL] using hO), hb1⟩
  case round =>
    clear hO hg hb1
    obtain ⟨k, hk, rfl, HO, hB⟩ := hrel
    rcases Nat.lt_or_ge k l.length with hlt | hge
    · obtain ⟨b, o, rfl, _, _, _, hR⟩ := HL.out.row (by omega)
      obtain ⟨x, hx⟩ : ∃ y, l[k]? = some y := ⟨_, List.getElem?_eq_getElem hlt⟩
      have hcx := cell_keep hB (hR k x hx)
      have hxb := HB.out x (List.mem_of_getElem? hx)
      have HU := Lib.hid (notL_upto hx)
      have i0 : (0 : Int) ≤ (k : Int) := by omega
      have i1 : (k : Int) < (l.length : Int) := by omega
      clear hR hx
      (repeat (first | (with_reducible first | refine xA ?_ | refine xB ?_ | refine xC ?_ | refine xD ?_ | refine xH ?_ | refine xI rfl ?_ | refine xE ?_ | refine xF ?_ | refine xG ?_) | go_skip | go_guarded | ((with_reducible refine wl_id ?_); refine wl_store_own rfl _ _ rfl w.heap.size l.length _ k rfl (-x) rfl HO.out hlt ?_; intro w3 hO3 hg3; (try simp only [Act.put, qz4, qz5, qz6])) | go_values | go_skip | go_guarded | go_step | go_upon | go_back | ((with_reducible show Oper.upon _ _ _ _ _ _); go_simp) | (dsimp only)))
      have hlk : (notL (l.take k)).length = k := by rw [notL_len, List.length_take]; omega
      have e := filled_set (outs := notL (l.take k)) (n := l.length) (by rw [hlk]; exact hlt) (-x)
      rw [hlk] at e
      rw [e] at hO3
      exact ⟨⟨k + 1, by omega, by go_num, Lib.hid (by rw [HU.out]; exact hO3), Below.grown hB hg3 hB.size (fun q e => by injection e with e; omega)⟩, by simp [intOf]; omega⟩
    · obtain rfl : k = l.length := by omega
      (repeat (first | (with_reducible first | refine xA ?_ | refine xB ?_ | refine xC ?_ | refine xD ?_ | refine xH ?_ | refine xI rfl ?_ | refine xE ?_ | refine xF ?_ | refine xG ?_) | go_values | go_skip | go_guarded | go_step | go_upon | go_back | ((with_reducible show Oper.upon _ _ _ _ _ _); go_simp) | (dsimp only)))
      go_ret
      have h := HO.out
      rw [List.take_of_length_le (Nat.le_refl _), filled_full (notL_len _)] at h
      exact ⟨rfl, h, hB⟩
end Go.Proofs.YtmaogkgjiplckaaGreat
namespace Go.Proofs.YtmaogkgjiplckaaGreat
open Go.RowKit
theorem below_own {w w' : World} (hb : Below w.heap.size w w') : w.grownBy w' none := ⟨hb.os, hb.tape, hb.output, hb.size, fun k hk _ => hb.block k hk⟩
theorem OwnI.slX {X : Nat → Prop} {w : World} {q n : Nat} {l : List Int} (h : OwnI w q n l) (hx : X q) : SlX X w (.slice (some ⟨q, 0, none⟩) n n) l := by
  obtain ⟨rfl, h⟩ := h
  exact SlX.ofOwns h fun g _ e => by injection e with e; exact e ▸ hx
theorem isL_b {n : Nat} {l : List Int} (h : ∀ x ∈ l, isL n x) (hn : n ≤ 1048576) : ∀ x ∈ l, -1048576 ≤ x ∧ x ≤ 1048576 := fun x hx => rng_of (h x hx) hn
set_option maxRecDepth 100000 in
set_option maxHeartbeats 1000000 in
theorem lessW_any {X : Nat → Prop} {base gb : Nat} {g : G} {fr : List Int} {s : Nat → Bool} (w : World) (hG : GR X base w gb g) (hba : base ≤ w.heap.size) (vx vy : Value) (xs ys : List Int) (hX : SlX X w vx xs) (hY : SlX X w vy ys) (hxy : ys.length = xs.length) (hn : g.n + 5 * xs.length ≤ 1048576) (hn1 : xs.length ≤ 1000000) (hx : ∀ x ∈ xs, isL g.n x) (hy : ∀ y ∈ ys, isL g.n y) (hI : GI g fr s) (r : G × Int) (hr : lessG g xs ys = r) :
    Calls Tryz.prog 118 #[.pointer (some ⟨gb, 0, none⟩), vx, vy] w fun e w' => e = .returned (.int .i64 r.2) ∧ GR X base w' gb r.1 ∧ Kept X w w' := by
  obtain ⟨ax, cx, rfl⟩ := hX.shape
  obtain ⟨ay, cy, rfl⟩ := hY.shape
  have HT := Lib.hid (turned_any w _ ys hY (by omega) (isL_b hy hG.n1))
  obtain ⟨t, ht⟩ : ∃ t, sumG g xs (notL ys) 1 = t := ⟨_, rfl⟩
  have hr1 : r = (t.1, -t.2.2) := by rw [← hr, ← ht]; rfl
  subst hr1
  have hnl : (notL ys).length = xs.length := by rw [notL_len, hxy]
  obtain ⟨s', i1, _, n1, _, l1, _⟩ := sum_ok xs (notL ys) g s 1 hI (isL_one hI) hx (notL_isL hy) hnl.symm
  rw [ht] at n1 l1 i1
  have hb := rng_of l1 (show t.1.n ≤ 1048576 by omega)
  have HS := Lib.hid (fun (w1 : World) (hb1 : Below w.heap.size w w1) (hO : OwnI w1 w.heap.size ys.length (notL ys)) => sum_any (X := fun k => X k ∨ k = w.heap.size) w1 (hG.owned (below_own hb1) (Nat.le_refl _) hO.lt) (Nat.le_trans hba hb1.size) (.slice ax xs.length cx) _ xs (notL ys) 1 ((hX.kept (Kept.ofBelow hb1)).mono fun _ _ h => .inl h) (hO.slX (.inr rfl)) hnl hn hn1 (isL_one hI) hx (notL_isL hy) hI t ht)
  clear hG hba hX hY hxy hn hn1 hx hy hI hr ht hnl n1 l1 i1
  go_enter Tryz.func118, Tryz.ntmps118
  (repeat (first | (with_reducible first | refine xA ?_ | refine xB ?_ | refine xC ?_ | refine xD ?_ | refine xH ?_ | refine xI rfl ?_ | refine xE ?_ | refine xF ?_ | refine xG ?_) | go_skip | go_guarded | (go_at_call 77; (with_reducible refine (HT.out).mono ?_); rintro _ w1 ⟨rfl, hO1, hb1⟩) | (go_at_call 108; (with_reducible refine (HS.out _ hb1 hO1).mono ?_); rintro _ w2 ⟨q, rfl, hO2, hq, hG2, hk2⟩) | go_values | go_skip | go_guarded | go_step | go_upon | go_back | ((with_reducible show Oper.upon _ _ _ _ _ _); go_simp) | (dsimp only)))
  go_ret
  exact ⟨rfl, hG2.less fun k hk => .inl (.inl hk), (Kept.ofBelow hb1).trans (hk2.mono fun k _ h => .inl h)⟩
end Go.Proofs.YtmaogkgjiplckaaGreat

