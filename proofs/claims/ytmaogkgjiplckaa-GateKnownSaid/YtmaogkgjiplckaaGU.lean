import Derived.Test.YtmaogkgjiplckaaGT
set_option linter.unusedSimpArgs false
set_option linter.unusedVariables false
namespace Go.Proofs.Ytmaogkgjiplckaa
open Go.RowKit

theorem OwnW.lt {w : World} {q n : Nat} {l : List Value} (h : OwnW w q n l) : q < w.heap.size := by
  rcases h.2.2 with ⟨e, _⟩ | ⟨g, cap, cur, e, hb, hh, r⟩
  · cases e
  · simp only [Value.slice.injEq, Option.some.injEq, Addr.mk.injEq, and_true] at e
    obtain ⟨rfl, _⟩ := e
    exact lt_of_block hh
theorem all_slices {X : Nat → Prop} {w : World} {vs : List Value} {cl : List (List Int)} (h : SlsX X w vs cl) (n : Nat) : ∀ v ∈ vs ++ List.replicate n (.slice none 0 0), ∃ a m c, v = .slice a m c := by
  intro v hv
  rcases List.mem_append.1 hv with hv | hv
  · obtain ⟨i, hi⟩ := List.mem_iff_getElem?.1 hv
    have hlt := (List.getElem?_eq_some_iff.1 hi).1
    obtain ⟨a, c, e⟩ := (h.2 i v _ hi (List.getElem?_eq_getElem (by have := h.1; omega))).shape
    exact ⟨a, _, c, e⟩
  · exact ⟨none, 0, 0, List.eq_of_mem_replicate hv⟩
theorem set_next (vs : List Value) (n k : Nat) (z v : Value) (hk : vs.length = k) (hlt : k < n) : (vs ++ List.replicate (n - k) z).set k v = (vs ++ [v]) ++ List.replicate (n - (k + 1)) z := by
  subst hk
  rw [List.set_append_right _ _ (Nat.le_refl _), Nat.sub_self, show n - vs.length = (n - (vs.length + 1)) + 1 by omega, List.replicate_succ, List.set_cons_zero, List.append_assoc]
  rfl

set_option maxRecDepth 100000 in
set_option maxHeartbeats 1000000 in
theorem Clauses_any {X : Nat → Prop} {base gb : Nat} {g : G} (w : World) (hG : GR X base w gb g) (hne : ∀ l ∈ g.cl, l ≠ []) (hll : ∀ l ∈ g.cl, l.length ≤ 1000000) :
    Calls Try.prog 28 #[.pointer (some ⟨gb, 0, none⟩)] w fun e w' => e = .returned (.slice (some ⟨w.heap.size, 0, none⟩) g.cl.length g.cl.length) ∧ (∃ vs, OwnW w' w.heap.size g.cl.length vs ∧ SlsX (fun k => w.heap.size < k) w' vs g.cl) ∧ GR X base w' gb g ∧ Below w.heap.size w w' := by
  obtain ⟨ao, cap, xs, hxl, c1, hm, hcl⟩ := hG.clauses
  have Hm := Lib.hid (show g.cl.length ≤ 100000000 by omega)
  have hmI : (g.cl.length : Int) ≤ 4194304 := by omega
  have HC := Lib.hid hcl
  have HG := Lib.hid hG
  have HNE := Lib.hid hne
  have HLL := Lib.hid hll
  have HX := Lib.hid hxl
  clear hcl hm hG hne hll hxl
  go_enter Try.func28, Try.ntmps28
  (repeat (first | (with_reducible first | refine xA ?_ | refine xB ?_ | refine xC ?_ | refine xD ?_ | refine xH ?_ | refine xI rfl ?_ | refine xE ?_ | refine xF ?_ | refine xG ?_) | go_skip | go_guarded | ((with_reducible refine wl_id ?_); refine wl_make_ownw rfl _ _ rfl g.cl.length rfl rfl Hm.out ?_; intro w1 hO hg1; have hb1 : Below w.heap.size w w1 := ⟨hg1.os, hg1.tape, hg1.output, hg1.size, fun k hk => hg1.block k hk (by simp)⟩; replace c1 := cell_keep hb1 c1; (try simp only [Act.put, List.setIfInBounds_toArray, List.set_cons_succ, List.set_cons_zero])) | go_values | go_skip | go_guarded | go_step | go_upon | go_back | ((with_reducible show Oper.upon _ _ _ _ _ _); go_simp) | (dsimp only)))
  go_loopw [17] (fun i wr => ∃ (k : Nat) (vs : List Value), k ≤ g.cl.length ∧ i = .int .i64 k ∧ vs.length = k ∧ OwnW wr w.heap.size g.cl.length (vs ++ List.replicate (g.cl.length - k) (.slice none 0 0)) ∧ Hid (SlsX (fun k => w.heap.size < k) wr vs (g.cl.take k)) ∧ Below w.heap.size w wr) (fun i _ => g.cl.length - (intOf i).toNat)
  case atStart => exact ⟨0, [], Nat.zero_le _, rfl, rfl, by simpa using hO, Lib.hid ⟨rfl, fun i x l h => by simp at h⟩, hb1⟩
  case round =>
    obtain ⟨k, vs, hk, rfl, hvl, hO, hS, hB⟩ := hrel
    rcases Nat.lt_or_ge k g.cl.length with hlt | hge
    · obtain ⟨l, hl⟩ : ∃ l, g.cl[k]? = some l := ⟨_, List.getElem?_eq_getElem hlt⟩
      obtain ⟨x, hx⟩ : ∃ x, xs[k]? = some x := ⟨_, List.getElem?_eq_getElem (by have := HX.out; omega)⟩
      obtain ⟨b, rfl, hcx, hsx⟩ := HC.out k x l hx hl
      replace hcx := cell_keep hB hcx
      have HS := Lib.hid (hsx.kept (Kept.ofBelow (X := fun _ => True) hB))
      obtain ⟨ax, cx, rfl⟩ := hsx.shape
      have Hne := Lib.hid (HNE.out l (List.mem_of_getElem? hl))
      have Hll := Lib.hid (HLL.out l (List.mem_of_getElem? hl))
      have HK := Lib.hid hlt
      have HO := Lib.hid hO
      have Hl := Lib.hid hl
      have hltI : (k : Int) < (g.cl.length : Int) := by omega
      clear hO hl hx hsx
      (repeat (first | (with_reducible first | refine xA ?_ | refine xB ?_ | refine xC ?_ | refine xD ?_ | refine xH ?_ | refine xI rfl ?_ | refine xE ?_ | refine xF ?_ | refine xG ?_) | go_skip | go_guarded | (go_at_call 57; (with_reducible refine (clone_any _ l _ HS.out Hne.out Hll.out).mono ?_); rintro _ w2 ⟨v2, rfl, hO2, hb2⟩; have hS2 := SlX.ofOwns (X := fun k => w.heap.size < k) hO2 (fun q h1 h2 => Nat.lt_of_lt_of_le HO.out.lt h1); obtain ⟨a2, c2, rfl⟩ := hS2.shape; have hO3 := HO.out.kept (Kept.ofBelow (X := fun _ => True) hb2) trivial; have hS3 := hS.out.kept (Kept.ofBelow (X := fun k => w.heap.size < k) hb2); have HSl := Lib.hid (all_slices hS3 (g.cl.length - k))) | ((with_reducible refine wl_id ?_); refine wl_store_ownw rfl _ _ rfl w.heap.size g.cl.length _ k rfl a2 l.length c2 rfl hO3 HK.out HSl.out ?_; intro w3 hO4 hg3; (rw [set_next _ _ _ _ _ hvl HK.out] at hO4); have hk3 : Kept (fun i => w.heap.size < i) w2 w3 := ⟨hg3.os, hg3.tape, hg3.output, hg3.size, fun i hi hx => hg3.block i hi (fun e => by injection e with e; omega)⟩; have hb3 : Below w.heap.size w2 w3 := ⟨hg3.os, hg3.tape, hg3.output, hg3.size, fun i hi => hg3.block i (by have := hO3.lt; omega) (fun e => by injection e with e; omega)⟩; have hB3 := (hB.trans (hb2.mono hB.size)).trans hb3; have HS5 := Lib.hid (hS3.kept hk3); have HS6 := Lib.hid (hS2.kept hk3); clear hO3 hS3 hS2 hg3 hk3; (try simp only [Act.put, List.setIfInBounds_toArray, List.set_cons_succ, List.set_cons_zero])) | go_values | go_skip | go_guarded | go_step | go_upon | go_back | ((with_reducible show Oper.upon _ _ _ _ _ _); go_simp) | (dsimp only)))
      have HO4 := Lib.hid hO4
      clear hO4
      (repeat (first | (with_reducible first | refine xA ?_ | refine xB ?_ | refine xC ?_ | refine xD ?_ | refine xH ?_ | refine xI rfl ?_ | refine xE ?_ | refine xF ?_ | refine xG ?_) | go_values | go_skip | go_guarded | go_step | go_upon | go_back | ((with_reducible show Oper.upon _ _ _ _ _ _); go_simp) | (dsimp only)))
      refine ⟨⟨k + 1, _, by omega, by go_num, ?_, HO4.out, Lib.hid ?_, hB3⟩, by simp [intOf]; omega⟩
      · simp [hvl]
      · rw [show g.cl.take (k + 1) = g.cl.take k ++ [l] by rw [List.take_add_one, Hl.out]; rfl]; exact HS5.out.append (SlsX.one HS6.out)
    · obtain rfl : k = g.cl.length := by omega
      have HO := Lib.hid hO
      clear hO
      (repeat (first | (with_reducible first | refine xA ?_ | refine xB ?_ | refine xC ?_ | refine xD ?_ | refine xH ?_ | refine xI rfl ?_ | refine xE ?_ | refine xF ?_ | refine xG ?_) | go_values | go_skip | go_guarded | go_step | go_upon | go_back | ((with_reducible show Oper.upon _ _ _ _ _ _); go_simp) | (dsimp only)))
      go_ret
      refine ⟨rfl, ⟨vs, by simpa using HO.out, by simpa using hS.out⟩, HG.out.below hB, hB⟩

end Go.Proofs.Ytmaogkgjiplckaa
