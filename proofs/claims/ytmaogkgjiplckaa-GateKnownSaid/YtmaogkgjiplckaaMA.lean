import Derived.Test.YtmaogkgjiplckaaGV
set_option linter.unusedSimpArgs false
set_option linter.unusedVariables false
namespace Go.Proofs.Ytmaogkgjiplckaa
open Go.RowKit
def addV (g : G) (k : Nat) : G := ⟨g.n + k, g.cl, g.an, g.xo⟩
theorem free_many {g : G} {fr : List Int} {s : Nat → Bool} (h : GI g fr s) (x : Nat) : ∀ k, ∃ s', GI (addV g k) (fr ++ fromL g.n k x) s' ∧ Step g s (addV g k) s' ∧ ∀ i, i < k → s' (g.n + 1 + i) = x.testBit i := by
  intro k
  induction k with
  | zero => exact ⟨s, by simpa [fromL, addV] using h, ⟨Nat.le_refl _, fun _ _ => rfl⟩, fun i hi => absurd hi (by omega)⟩
  | succ k ih =>
    obtain ⟨s1, h1, h2, h3⟩ := ih
    obtain ⟨s2, h4, h5, h6, h7, h8⟩ := free_ok h1 (x.testBit k)
    refine ⟨s2, ?_, h2.trans h5, fun i hi => ?_⟩
    · rw [fromL_succ, ← List.append_assoc]
      have e : (if x.testBit k = true then ((addV g k).n + 1 : Int) else -((addV g k).n + 1 : Int)) = if x.testBit k = true then ((g.n + 1 + k : Nat) : Int) else -((g.n + 1 + k : Nat) : Int) := by
        have : ((addV g k).n : Int) + 1 = ((g.n + 1 + k : Nat) : Int) := by show ((g.n + k : Nat) : Int) + 1 = _; omega
        rw [this]
      rw [e] at h4
      exact h4
    · rcases Nat.lt_or_ge i k with hlt | hge
      · rw [h5.agree _ (by show _ ≤ g.n + k; omega)]
        exact h3 i hlt
      · obtain rfl : i = k := by omega
        have : lit s2 (free (addV g i)).2 = s2 (g.n + 1 + i) := by
          have e : (free (addV g i)).2 = ((g.n + 1 + i : Nat) : Int) := by show ((g.n + i : Nat) : Int) + 1 = _; omega
          rw [e]
          unfold lit
          rw [if_pos (by omega), Int.toNat_natCast]
        rw [← this]; exact h8
theorem freeL_lit {s : Nat → Bool} (n k x : Nat) (h : ∀ i, i < k → s (n + 1 + i) = x.testBit i) : (freeL n k).map (lit s) = (List.range k).map x.testBit := by
  unfold freeL
  rw [List.map_map]
  refine List.map_congr_left fun i hi => ?_
  rw [List.mem_range] at hi
  show lit s ((n + 1 + i : Nat) : Int) = _
  unfold lit
  rw [if_pos (by omega), Int.toNat_natCast, h i hi]
theorem freeL_isL (n k m : Nat) (h : n + k ≤ m) : ∀ x ∈ freeL n k, isL m x := by
  intro x hx
  unfold freeL at hx
  obtain ⟨i, hi, rfl⟩ := List.mem_map.1 hx
  rw [List.mem_range] at hi
  exact ⟨by omega, by omega, by omega⟩
theorem freeL_len (n k : Nat) : (freeL n k).length = k := by simp [freeL]
theorem fromL_len (n k x : Nat) : (fromL n k x).length = k := by simp [fromL]
theorem bv_bits : ∀ (w x : Nat), bv ((List.range w).map x.testBit) = x % 2 ^ w := by
  intro w
  induction w with
  | zero => intro x; simp [bv, Nat.mod_one]
  | succ w ih =>
    intro x
    rw [List.range_succ_eq_map, List.map_cons, bv, List.map_map]
    have : (List.range w).map (x.testBit ∘ Nat.succ) = (List.range w).map (x / 2).testBit := List.map_congr_left fun i _ => by show x.testBit (i + 1) = _; rw [Nat.testBit_succ]
    rw [this, ih, Nat.pow_succ, Nat.mul_comm (2 ^ w) 2, Nat.mod_mul, Nat.testBit_zero]
    rcases Nat.mod_two_eq_zero_or_one x with e | e <;> simp [e]

end Go.Proofs.Ytmaogkgjiplckaa

set_option linter.unusedSimpArgs false
set_option linter.unusedVariables false
namespace Go.Proofs.Ytmaogkgjiplckaa
open Go.RowKit
section
variable {X Y Y' S : Nat → Prop} {base gb ma mx : Nat} {w w' : World} {g : G} {v : Value} {xs : List Value}
theorem GRep.turn (h : GRep Y base w gb g v ma mx xs) {r : Option Nat} (hg : w.grownBy w' r) (hr : ∀ q, r = some q → Y q) (h1 : ∀ k, Y' k → Y k ∨ w.heap.size ≤ k) (h2 : ∀ k, Y' k → k < w'.heap.size) : GRep Y' base w' gb g v ma mx xs := by
  obtain ⟨l1, l2, l3⟩ := h.lt
  have hk : Kept (fun k => ¬ Y k) w w' := ⟨hg.os, hg.tape, hg.output, hg.size, fun i hi hx => hg.block i hi (fun e => hx (hr i e.symm))⟩
  have no : ∀ k, k < w.heap.size → ¬ Y k → ¬ Y' k := fun k hk hy hy' => (h1 k hy').elim hy (fun h => by omega)
  refine ⟨hk.at h.box h.xg, h.row.kept hg ?_, ?_, h.an.kept hk h.xa, h.xo.kept hk h.xx, h.ne, h2, no _ l1 h.xg, no _ l2 h.xa, no _ l3 h.xx, fun k e => no k ((h.row.lt k e.symm).2) (h.xv k e), h.n1, h.cl⟩
  · rcases hv : v.ownBlock with _ | k
    · exact .inl rfl
    · right
      intro e
      exact h.xv k hv.symm (hr k e.symm)
  · have c1 := h.cls.mono (Z := fun k => ¬ Y k ∧ ¬ Y' k ∧ k ≠ gb ∧ some k ≠ v.ownBlock) fun k hk hx => ⟨hx.1, no k hk hx.1, hx.2⟩
    exact (c1.kept (hk.mono fun _ _ h => h.1)).mono fun _ _ h => h.2
theorem GR.turn (h : GR Y base w gb g) {r : Option Nat} (hg : w.grownBy w' r) (hr : ∀ q, r = some q → Y q) (h1 : ∀ k, Y' k → Y k ∨ w.heap.size ≤ k) (h2 : ∀ k, Y' k → k < w'.heap.size) : GR Y' base w' gb g := by
  obtain ⟨v, ma, mx, xs, h⟩ := h; exact ⟨v, ma, mx, xs, h.turn hg hr h1 h2⟩
end
theorem owns_kept {w w' : World} {B T n : Nat} {v : Value} {l : List Value} (h : w.ownsRow B T 1 v n l) {Y : Nat → Prop} (hk : Kept Y w w') (hy : ∀ k, v.ownBlock = some k → Y k) : w'.ownsRow B T 1 v n l := by
  rcases h with ⟨b2, hr⟩
  refine ⟨b2, ?_⟩
  rcases hr with ⟨e, r⟩ | ⟨g, cap, cur, e, hb, hh, r⟩
  · exact .inl ⟨e, r⟩
  · refine .inr ⟨g, cap, cur, e, hb, ?_, r⟩
    subst e
    exact hk.at hh (hy g rfl)

/-- two rows of ints of one's own beside a Gates value -/
structure Two (X : Nat → Prop) (base gb B : Nat) (w : World) (g : G) (v u : Value) (l m : List Int) : Prop where
  one : w.ownsRow B 3 1 v l.length (l.map (Value.int .i64))
  two : w.ownsRow B 3 1 u m.length (m.map (Value.int .i64))
  ap : ∀ k, v.ownBlock = some k → u.ownBlock ≠ some k
  gr : ∃ S : Nat → Prop, GR (fun k => X k ∨ S k) base w gb g ∧ (∀ k, v.ownBlock = some k → S k) ∧ (∀ k, u.ownBlock = some k → S k)
section
variable {X : Nat → Prop} {base gb B : Nat} {w w' : World} {g : G} {v u v' : Value} {l m : List Int}
theorem Two.swap (h : Two X base gb B w g v u l m) : Two X base gb B w g u v m l := by
  obtain ⟨h1, h2, h3, S, h4, h5, h6⟩ := h
  exact ⟨h2, h1, fun k e e' => h3 k e' e, S, h4, h6, h5⟩
theorem Two.alloc (h : Two X base gb B w g v u l m) (o : Obj) : Two X base gb B (w.alloc o) g v u l m := by
  obtain ⟨h1, h2, h3, S, h4, h5, h6⟩ := h
  exact ⟨h1.alloc o, h2.alloc o, h3, S, h4.alloc o, h5, h6⟩
theorem Two.push (h : Two X base gb B w g v u l m) {x : Int} (ho : w'.ownsRow B 3 1 v' (l.length + 1) ((l ++ [x]).map (Value.int .i64))) (hg : w.grownBy w' v.ownBlock) (hv : v'.ownBlock = v.ownBlock ∨ v'.ownBlock = some w.heap.size) : Two X base gb B w' g v' u (l ++ [x]) m := by
  obtain ⟨h1, h2, h3, S, h4, h5, h6⟩ := h
  have hlt := h4.xb
  refine ⟨by simpa using ho, h2.kept hg ?_, ?_, fun k => S k ∨ v'.ownBlock = some k, h4.turn hg (fun q e => .inr (h5 q e)) ?_ ?_, fun k e => .inr e, fun k e => .inl (h6 k e)⟩
  · rcases hu : u.ownBlock with _ | k
    · exact .inl rfl
    · right
      intro e
      exact h3 k e.symm hu
  · intro k e e'
    rcases hv with hv | hv
    · exact h3 k (hv ▸ e) e'
    · rw [hv] at e
      cases e
      have := (h2.lt _ e').2
      omega
  · rintro k (a | a | a)
    · exact .inl (.inl a)
    · exact .inl (.inr a)
    · rcases hv with hv | hv
      · exact .inl (.inr (h5 k (hv ▸ a)))
      · rw [hv] at a; cases a; exact .inr (Nat.le_refl _)
  · rintro k (a | a | a)
    · exact Nat.lt_of_lt_of_le (hlt k (.inl a)) hg.size
    · exact Nat.lt_of_lt_of_le (hlt k (.inr a)) hg.size
    · exact (ho.lt k a).2
theorem Two.base' (h : Two X base gb B w g v u l m) : (∀ k, v.ownBlock = some k → B ≤ k) ∧ ∀ k, u.ownBlock = some k → B ≤ k := ⟨fun k e => (h.one.lt k e).1, fun k e => (h.two.lt k e).1⟩
end

end Go.Proofs.Ytmaogkgjiplckaa

set_option linter.unusedSimpArgs false
set_option linter.unusedVariables false
namespace Go.Proofs.Ytmaogkgjiplckaa
open Go.RowKit

theorem Two.after {X S : Nat → Prop} {base gb B : Nat} {w w' : World} {g g' : G} {v u : Value} {l m : List Int} (h : Two X base gb B w g v u l m) (hS : True) (h8 : ∀ k, v.ownBlock = some k → S k) (h9 : ∀ k, u.ownBlock = some k → S k) (hG : GR (fun k => X k ∨ S k) base w' gb g') (hK : Kept (fun k => X k ∨ S k) w w') : Two X base gb B w' g' v u l m :=
  ⟨owns_kept h.one hK fun k e => .inr (h8 k e), owns_kept h.two hK fun k e => .inr (h9 k e), h.ap, S, hG, h8, h9⟩

theorem bit_at {x : Int} (h0 : 0 ≤ x) (h1 : x < 18446744073709551616) (k : Nat) : (bits BinOp.and IntKind.u64 (x / 2 ^ min k 64) 1 == 0) = !x.toNat.testBit k := by
  obtain ⟨n, rfl⟩ := Int.eq_ofNat_of_zero_le h0
  have hn : n < 18446744073709551616 := by omega
  rw [Int.toNat_natCast]
  have e : ((n : Int) / 2 ^ min k 64) = ((n / 2 ^ k : Nat) : Int) := by
    rcases Nat.le_total k 64 with h | h
    · rw [Nat.min_eq_left h, Int.natCast_ediv]; simp
    · rw [Nat.min_eq_right h]
      have h2 : n / 2 ^ k = 0 := Nat.div_eq_of_lt (Nat.lt_of_lt_of_le hn (Nat.pow_le_pow_right (n := 2) (by decide) h))
      rw [h2]
      exact Int.ediv_eq_zero_of_lt (by omega) (by omega)
  rw [e, show (1 : Int) = ((1 : Nat) : Int) from rfl, bits_and_u64_nat _ _ (Nat.lt_of_le_of_lt (Nat.div_le_self _ _) hn) (by decide)]
  unfold Nat.testBit
  rw [Nat.shiftRight_eq_div_pow, Nat.and_comm 1]
  cases h : n / 2 ^ k &&& 1 with
  | zero => simp
  | succ m => simp; omega

set_option maxRecDepth 100000 in
set_option maxHeartbeats 1000000 in
theorem free_any {X : Nat → Prop} {base gb : Nat} {g : G} (w : World) (hG : GR X base w gb g) (N : Nat) (x : Int) (hx0 : 0 ≤ x) (hx1 : x < 18446744073709551616) (hN : N ≤ 100) (hn : g.n + N ≤ 1048576) :
    Calls Try.prog 11 #[.pointer (some ⟨gb, 0, none⟩), .int .i64 N, .int .u64 x] w fun e w' => ∃ v u, e = .returned (.tuple #[v, u]) ∧ Two X base gb w.heap.size w' (addV g N) v u (freeL g.n N) (fromL g.n N x.toNat) ∧ Kept X w w' := by
  have HG := Lib.hid hG
  have Hn := Lib.hid hn
  clear hG hn
  have hNi : (N : Int) ≤ 100 := by omega
  go_enter Try.func11, Try.ntmps11
  (repeat (first | (with_reducible first | refine xA ?_ | refine xB ?_ | refine xC ?_ | refine xD ?_ | refine xH ?_ | refine xI rfl ?_ | refine xE ?_ | refine xF ?_ | refine xG ?_) | go_values | go_skip | go_guarded | go_step | go_upon | go_back | ((with_reducible show Oper.upon _ _ _ _ _ _); go_simp) | (dsimp only)))
  go_loopw [8, 9, 10] (fun v8 v9 i wr => ∃ k : Nat, k ≤ N ∧ i = .int .i64 k ∧ Hid (Two X base gb w.heap.size wr (addV g k) v8 v9 (freeL g.n k) (fromL g.n k x.toNat)) ∧ Kept X w wr) (fun _ _ i _ => N - (intOf i).toNat)
  case atStart => exact ⟨0, Nat.zero_le _, rfl, Lib.hid ⟨World.ownsRow_nil _ _ _ _, World.ownsRow_nil _ _ _ _, by simp [Value.ownBlock], fun _ => False, HG.out.less fun k h => by simpa using h, by simp [Value.ownBlock], by simp [Value.ownBlock]⟩, Kept.refl _ _⟩
  case round =>
    obtain ⟨k, hk, rfl, HT, hK⟩ := hrel
    rcases Nat.lt_or_ge k N with hlt | hge
    · obtain ⟨o1, o2, ap, S, hGS, h8, h9⟩ := HT.out
      have HF := Lib.hid (Free_any wr hGS (by show g.n + k < 1048576; have := Hn.out; omega))
      have HS := Lib.hid trivial
      have HS8 := Lib.hid h8
      have HS9 := Lib.hid h9
      obtain ⟨m, hm⟩ : ∃ m : Int, ((addV g k).n : Int) + 1 = m := ⟨_, rfl⟩
      have hmb : 1 ≤ m ∧ m ≤ 1048576 := by have := Hn.out; have : (addV g k).n = g.n + k := rfl; omega
      rw [hm] at HF
      have Hm := Lib.hid hm
      clear hm o1 o2 ap hGS h8 h9
      obtain ⟨l8, hl8⟩ : ∃ l, freeL g.n k = l := ⟨_, rfl⟩
      obtain ⟨l9, hl9⟩ : ∃ l, fromL g.n k x.toNat = l := ⟨_, rfl⟩
      rw [hl8, hl9] at HT
      have hn8 : l8.length ≤ 100 := by rw [← hl8, freeL_len]; omega
      have hn9 : l9.length ≤ 100 := by rw [← hl9, fromL_len]; omega
      have H8 := Lib.hid hl8
      have H9 := Lib.hid hl9
      clear hl8 hl9
      have hbt := bit_at hx0 hx1 k
      have Hfin : ∀ (v8 v9 : Value) (w3 : World), Two X base gb w.heap.size w3 ⟨(addV g k).n + 1, (addV g k).cl, (addV g k).an, (addV g k).xo⟩ v8 v9 (l8 ++ [m]) (l9 ++ [if x.toNat.testBit k then m else -m]) → Two X base gb w.heap.size w3 (addV g (k + 1)) v8 v9 (freeL g.n (k + 1)) (fromL g.n (k + 1) x.toNat) := by
        intro v8 v9 w3 h
        have e : m = ((g.n + 1 + k : Nat) : Int) := by rw [← Hm.out]; show ((g.n + k : Nat) : Int) + 1 = _; omega
        rw [freeL_succ, fromL_succ, H8.out, H9.out, ← e]
        exact h
      have HF2 := Lib.hid Hfin
      clear Hfin
      rcases hb : x.toNat.testBit k with _ | _
      all_goals rw [hb] at hbt
      all_goals simp only [Bool.not_true, Bool.not_false] at hbt
      · (repeat (first | (with_reducible first | refine xA ?_ | refine xB ?_ | refine xC ?_ | refine xD ?_ | refine xH ?_ | refine xI rfl ?_ | refine xE ?_ | refine xF ?_ | refine xG ?_) | go_skip | go_guarded | (go_at_call 12; (with_reducible refine (HF.out).mono ?_); rintro _ w1 ⟨rfl, hG1, hK1⟩; have hTw := HT.out.after HS.out HS8.out HS9.out hG1 hK1) | ((with_reducible refine wl_id ?_); refine wl_push rfl _ _ rfl w.heap.size u8 l8.length l8 rfl ((hTw.alloc _).one) w1.heap.size m rfl (cell_new _ _ _) (by omega) (by have := hK.size; have := hK1.size; simp; omega) ?_; intro v8' w2 hO2 hg2 hl2; have hT2 := (hTw.alloc _).push hO2 hg2 hl2; have HT2 := Lib.hid hT2; (try simp only [Act.put, List.setIfInBounds_toArray, List.set_cons_succ, List.set_cons_zero])) | ((with_reducible refine wl_id ?_); refine wl_push rfl _ _ rfl w.heap.size u9 l9.length l9 rfl ((HT2.out.alloc _).two) w2.heap.size (-m) rfl (cell_new _ _ _) (by omega) (by have := hK.size; have := hK1.size; have := hg2.size; simp at this ⊢; omega) ?_; intro v9' w3 hO3 hg3 hl3; have hT3 := ((HT2.out.alloc _).swap.push hO3 hg3 hl3).swap; (try simp only [Act.put, List.setIfInBounds_toArray, List.set_cons_succ, List.set_cons_zero])) | go_values | go_skip | go_guarded | go_step | go_upon | go_back | ((with_reducible show Oper.upon _ _ _ _ _ _); go_simp) | (dsimp only)))
        have hK3 := ((((hK.trans (hK1.mono fun _ _ h => .inl h)).alloc _).grown hg2 (fun q e hl hx => by have := (HT.out.base').1 q e; omega)).alloc _).grown hg3 (fun q e hl hx => by have := (HT.out.base').2 q e; omega); refine ⟨⟨k + 1, by omega, by go_num, Lib.hid (HF2.out _ _ _ ?_), hK3⟩, by simp [intOf]; omega⟩
        rw [hb]; exact hT3
      · (repeat (first | (with_reducible first | refine xA ?_ | refine xB ?_ | refine xC ?_ | refine xD ?_ | refine xH ?_ | refine xI rfl ?_ | refine xE ?_ | refine xF ?_ | refine xG ?_) | go_skip | go_guarded | (go_at_call 12; (with_reducible refine (HF.out).mono ?_); rintro _ w1 ⟨rfl, hG1, hK1⟩; have hTw := HT.out.after HS.out HS8.out HS9.out hG1 hK1) | ((with_reducible refine wl_id ?_); refine wl_push rfl _ _ rfl w.heap.size u8 l8.length l8 rfl ((hTw.alloc _).one) w1.heap.size m rfl (cell_new _ _ _) (by omega) (by have := hK.size; have := hK1.size; simp; omega) ?_; intro v8' w2 hO2 hg2 hl2; have hT2 := (hTw.alloc _).push hO2 hg2 hl2; have HT2 := Lib.hid hT2; (try simp only [Act.put, List.setIfInBounds_toArray, List.set_cons_succ, List.set_cons_zero])) | ((with_reducible refine wl_id ?_); refine wl_push rfl _ _ rfl w.heap.size u9 l9.length l9 rfl ((HT2.out.alloc _).two) w2.heap.size m rfl (cell_new _ _ _) (by omega) (by have := hK.size; have := hK1.size; have := hg2.size; simp at this ⊢; omega) ?_; intro v9' w3 hO3 hg3 hl3; have hT3 := ((HT2.out.alloc _).swap.push hO3 hg3 hl3).swap; (try simp only [Act.put, List.setIfInBounds_toArray, List.set_cons_succ, List.set_cons_zero])) | go_values | go_skip | go_guarded | go_step | go_upon | go_back | ((with_reducible show Oper.upon _ _ _ _ _ _); go_simp) | (dsimp only)))
        have hK3 := ((((hK.trans (hK1.mono fun _ _ h => .inl h)).alloc _).grown hg2 (fun q e hl hx => by have := (HT.out.base').1 q e; omega)).alloc _).grown hg3 (fun q e hl hx => by have := (HT.out.base').2 q e; omega); refine ⟨⟨k + 1, by omega, by go_num, Lib.hid (HF2.out _ _ _ ?_), hK3⟩, by simp [intOf]; omega⟩
        rw [hb]; exact hT3
    · obtain rfl : k = N := by omega
      (repeat (first | (with_reducible first | refine xA ?_ | refine xB ?_ | refine xC ?_ | refine xD ?_ | refine xH ?_ | refine xI rfl ?_ | refine xE ?_ | refine xF ?_ | refine xG ?_) | go_values | go_skip | go_guarded | go_step | go_upon | go_back | ((with_reducible show Oper.upon _ _ _ _ _ _); go_simp) | (dsimp only)))
      go_ret2
      exact ⟨_, _, rfl, HT.out, hK⟩

end Go.Proofs.Ytmaogkgjiplckaa

