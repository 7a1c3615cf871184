import Derived.Test.YtmaogkgjiplckaaGreatQW8
import Derived.Laws.ResultCell
import Derived.WalkMore
import Derived.Test.YtmaogkgjiplckaaGreatQW7
set_option linter.unusedVariables false
set_option linter.unusedSimpArgs false
namespace Go.Proofs.YtmaogkgjiplckaaGreat
open Go.RowKit
def arrB (d : Nd) : Bool := d.op == 3 || d.op == 4 || d.op == 23 || d.op == 24
theorem arr_no {d : Nd} : arrB d = false ↔ noArr d := by
  unfold arrB noArr
  simp only [Bool.or_eq_false_iff, beq_eq_false_iff_ne, ne_eq, and_assoc]
def WaysAt (w : World) (q : Nat) : Prop := ∀ j, j < 25 → w.cell? ⟨q, j, none⟩ = some (wayK 22 j)
theorem WaysAt.below {w w' : World} {q : Nat} (h : WaysAt w q) (hb : Below w.heap.size w w') : WaysAt w' q := fun j hj => cell_keep hb (h j hj)
theorem way_cases (j : Nat) (hj : j < 25) : ((j = 3 ∨ j = 4 ∨ j = 23 ∨ j = 24) ∧ wayK 22 j = Value.nilFunc) ∨ (¬ (j = 3 ∨ j = 4 ∨ j = 23 ∨ j = 24) ∧ ∃ f, wayK 22 j = .func (Fn.func f) #[] #[]) := by
  unfold wayK
  by_cases h : j = 3 ∨ j = 4 ∨ j = 23 ∨ j = 24
  · left
    exact ⟨h, by rw [if_neg (by omega), if_neg (by omega), if_neg (by omega), if_neg (by omega), if_neg (by omega), if_neg (by omega), if_neg (by omega), if_neg (by omega)]⟩
  · right
    refine ⟨h, ?_⟩
    repeat (split; · exact ⟨_, rfl⟩)
    omega
set_option maxRecDepth 100000 in
theorem lacks_any (d : Nd) (q : Nat) (w : World) (hq : WaysAt w q) (h0 : 0 ≤ d.op) (h1 : d.op ≤ 24) (r : Bool) (hr : Hid (arrB d = r)) :
    Calls Tryz.prog 23 #[.agg #[.int .i64 d.op, .int .i64 d.w, .int .u64 d.n, .int .i64 d.k0, .int .i64 d.k1, .int .i64 d.k2], .pointer (some ⟨q, 0, none⟩)] w fun e w' => e = .returned (.bool r) ∧ Below w.heap.size w w' := by
  have e1 : ∀ w : World, (binOp .eql 62 .nilFunc .nilFunc).run Tryz.prog w = .ok (.bool true) w := fun _ => by kernel_rfl
  have e2 : ∀ (w : World) (f : Nat), (binOp .eql 62 (.func (Fn.func f) #[] #[]) .nilFunc).run Tryz.prog w = .ok (.bool false) w := fun _ _ => by kernel_rfl
  obtain ⟨op, wd, nn, k0, k1, k2⟩ := d
  obtain ⟨j, rfl⟩ := Int.eq_ofNat_of_zero_le h0
  dsimp only at h0 h1 hr ⊢
  have hj : j < 25 := by omega
  have hc := hq j hj
  have hb : Below w.heap.size w (w.alloc (.cells #[.int .i64 (j : Nat), .int .i64 wd, .int .u64 nn, .int .i64 k0, .int .i64 k1, .int .i64 k2] 49)) := by (repeat (first | with_reducible exact Below.refl _ _ | assumption | with_reducible refine below_drewN ?_ _ | with_reducible refine Below.drew ?_ | with_reducible refine Below.setRow ?_ ?_ _ | with_reducible refine Below.alloc ?_ ?_ _ | with_reducible refine Below.setCell ?_ ?_ _ | with_reducible exact Nat.le_refl _ | (focus (simp; done)) | (focus (simp; omega)) | omega))
  have hc1 := cell_keep hb hc
  have hji : (j : Int) < 25 := by omega
  have HB := Lib.hid hb
  rcases way_cases j hj with ⟨ha, e⟩ | ⟨ha, f, e⟩
  · rw [e] at hc1
    have hrt : r = true := by rw [← hr.out]; unfold arrB; simp; omega
    subst hrt
    clear hq hc hb hr e ha h1
    go_enter Tryz.func23, Tryz.ntmps23
    (repeat (first | (with_reducible first | refine xA ?_ | refine xB ?_ | refine xC ?_ | refine xD ?_ | refine xH ?_ | refine xI rfl ?_ | refine xE ?_ | refine xF ?_ | refine xG ?_) | go_values | go_skip | go_guarded | go_step | go_upon | go_back | ((with_reducible show Oper.upon _ _ _ _ _ _); go_simp) | (dsimp only)))
    go_ret
    exact ⟨rfl, HB.out⟩
  · rw [e] at hc1
    have hrt : r = false := by rw [← hr.out]; unfold arrB; simp; omega
    subst hrt
    clear hq hc hb hr e ha h1
    go_enter Tryz.func23, Tryz.ntmps23
    (repeat (first | (with_reducible first | refine xA ?_ | refine xB ?_ | refine xC ?_ | refine xD ?_ | refine xH ?_ | refine xI rfl ?_ | refine xE ?_ | refine xF ?_ | refine xG ?_) | go_values | go_skip | go_guarded | go_step | go_upon | go_back | ((with_reducible show Oper.upon _ _ _ _ _ _); go_simp) | (dsimp only)))
    go_ret
    exact ⟨rfl, HB.out⟩
set_option maxRecDepth 100000 in
set_option maxHeartbeats 1000000 in
theorem indexn_any (q : Nat) (v : Value) (ls : List Nd) (w : World) (h : SlIs 6 Nd.cells w v ls) (hll : ls.length ≤ 1000000) (hq : WaysAt w q) (ho : ∀ d ∈ ls, 0 ≤ d.op ∧ d.op ≤ 24) :
    Calls Tryz.prog 50 #[v, .func (Fn.func 23) #[] #[.pointer (some ⟨q, 0, none⟩)]] w fun e w' => (∃ r : Int, e = .returned (.int .i64 r) ∧ decide (0 ≤ r) = ls.any arrB ∧ -1 ≤ r ∧ r ≤ 1000000) ∧ Below w.heap.size w w' := by
  have Ho := Lib.hid ho
  have hlb : (ls.length : Int) ≤ 1000000 := by omega
  rcases h.cases with ⟨ao, cap, rfl, rfl⟩ | ⟨b, off, cap, rfl, hne, HR0⟩
  · clear h ho hll hlb
    go_enter Tryz.func50, Tryz.ntmps50
    (repeat (first | (with_reducible first | refine xA ?_ | refine xB ?_ | refine xC ?_ | refine xD ?_ | refine xH ?_ | refine xI rfl ?_ | refine xE ?_ | refine xF ?_ | refine xG ?_) | go_skip | go_guarded | (with_reducible refine wp_loop_rounds 2 ?_) | rw [rounds_succ] | go_values | go_skip | go_guarded | go_step | go_upon | go_back | ((with_reducible show Oper.upon _ _ _ _ _ _); go_simp) | (dsimp only)))
    go_ret
    exact ⟨⟨_, rfl, rfl, by decide, by decide⟩, by (repeat (first | with_reducible exact Below.refl _ _ | assumption | with_reducible refine below_drewN ?_ _ | with_reducible refine Below.drew ?_ | with_reducible refine Below.setRow ?_ ?_ _ | with_reducible refine Below.alloc ?_ ?_ _ | with_reducible refine Below.setCell ?_ ?_ _ | with_reducible exact Nat.le_refl _ | (focus (simp; done)) | (focus (simp; omega)) | omega))⟩
  clear h ho hll hne
  go_enter Tryz.func50, Tryz.ntmps50
  (repeat (first | (with_reducible first | refine xA ?_ | refine xB ?_ | refine xC ?_ | refine xD ?_ | refine xH ?_ | refine xI rfl ?_ | refine xE ?_ | refine xF ?_ | refine xG ?_) | go_values | go_skip | go_guarded | go_step | go_upon | go_back | ((with_reducible show Oper.upon _ _ _ _ _ _); go_simp) | (dsimp only)))
  go_loopw [8] (fun i wr => ∃ k : Nat, k ≤ ls.length ∧ i = .int .i64 k ∧ Hid (∀ j x, j < k → ls[j]? = some x → arrB x = false) ∧ Below w.heap.size w wr) (fun i _ => ls.length - (intOf i).toNat)
  case atStart => exact ⟨0, Nat.zero_le _, rfl, Lib.hid (fun j x h => by omega), Below.refl _ _⟩
  case round =>
    obtain ⟨k, hk, rfl, hgood, HB⟩ := hrel
    have HR := HR0.below HB
    have HQ := hq.below HB
    rcases Nat.lt_or_ge k ls.length with hlt | hge
    · obtain ⟨x, hx⟩ : ∃ x, ls[k]? = some x := ⟨_, List.getElem?_eq_getElem hlt⟩
      have hi := Lib.hid hx
      have hop := Lib.hid (Ho.out x (List.mem_of_getElem? hx))
      obtain ⟨r, hr⟩ : ∃ r, Hid (arrB x = r) := ⟨_, Lib.hid rfl⟩
      clear hx
      cases r
      · (repeat (first | (with_reducible first | refine xA ?_ | refine xB ?_ | refine xC ?_ | refine xD ?_ | refine xH ?_ | refine xI rfl ?_ | refine xE ?_ | refine xF ?_ | refine xG ?_) | go_skip | go_guarded | (go_at_call 23; (with_reducible refine (lacks_any x q _ HQ hop.out.1 hop.out.2 _ hr).mono ?_); rintro _ w2 ⟨rfl, hb⟩; replace HB := HB.trans (hb.mono HB.size)) | ((with_reducible refine wl_id ?_); refine wl_ldNdA HR (by (repeat (first | with_reducible exact Below.refl _ _ | assumption | with_reducible refine below_drewN ?_ _ | with_reducible refine Below.drew ?_ | with_reducible refine Below.setRow ?_ ?_ _ | with_reducible refine Below.alloc ?_ ?_ _ | with_reducible refine Below.setCell ?_ ?_ _ | with_reducible exact Nat.le_refl _ | (focus (simp; done)) | (focus (simp; omega)) | omega))) k _ hi rfl _ rfl rfl ?_; simp only [Act.put, qz4, qz5, qz6]; (try dsimp only)) | go_values | go_skip | go_guarded | go_step | go_upon | go_back | ((with_reducible show Oper.upon _ _ _ _ _ _); go_simp) | (dsimp only)))
        refine ⟨⟨k + 1, by omega, by go_num, Lib.hid (fun j y hj hy => ?_), HB⟩, by simp [intOf]; omega⟩
        rcases Nat.lt_or_ge j k with h | h
        · exact hgood.out j y h hy
        · have : j = k := by omega
          subst this
          rw [hi.out] at hy
          cases hy
          exact hr.out
      · (repeat (first | (with_reducible first | refine xA ?_ | refine xB ?_ | refine xC ?_ | refine xD ?_ | refine xH ?_ | refine xI rfl ?_ | refine xE ?_ | refine xF ?_ | refine xG ?_) | go_skip | go_guarded | (go_at_call 23; (with_reducible refine (lacks_any x q _ HQ hop.out.1 hop.out.2 _ hr).mono ?_); rintro _ w2 ⟨rfl, hb⟩; replace HB := HB.trans (hb.mono HB.size)) | ((with_reducible refine wl_id ?_); refine wl_ldNdA HR (by (repeat (first | with_reducible exact Below.refl _ _ | assumption | with_reducible refine below_drewN ?_ _ | with_reducible refine Below.drew ?_ | with_reducible refine Below.setRow ?_ ?_ _ | with_reducible refine Below.alloc ?_ ?_ _ | with_reducible refine Below.setCell ?_ ?_ _ | with_reducible exact Nat.le_refl _ | (focus (simp; done)) | (focus (simp; omega)) | omega))) k _ hi rfl _ rfl rfl ?_; simp only [Act.put, qz4, qz5, qz6]; (try dsimp only)) | go_values | go_skip | go_guarded | go_step | go_upon | go_back | ((with_reducible show Oper.upon _ _ _ _ _ _); go_simp) | (dsimp only)))
        go_ret
        refine ⟨⟨_, rfl, ?_, by omega, by omega⟩, HB⟩
        rw [decide_eq_true (by omega)]
        symm
        rw [List.any_eq_true]
        exact ⟨x, List.mem_of_getElem? hi.out, hr.out⟩
    · obtain rfl : k = ls.length := by omega
      (repeat (first | (with_reducible first | refine xA ?_ | refine xB ?_ | refine xC ?_ | refine xD ?_ | refine xH ?_ | refine xI rfl ?_ | refine xE ?_ | refine xF ?_ | refine xG ?_) | go_values | go_skip | go_guarded | go_step | go_upon | go_back | ((with_reducible show Oper.upon _ _ _ _ _ _); go_simp) | (dsimp only)))
      go_ret
      refine ⟨⟨_, rfl, ?_, by decide, by decide⟩, HB⟩
      rw [decide_eq_false (by decide)]
      symm
      rw [List.any_eq_false]
      intro x hx
      obtain ⟨j, hj⟩ := List.mem_iff_getElem?.1 hx
      rw [hgood.out j x (List.getElem?_eq_some_iff.1 hj).1 hj]
      simp
set_option maxRecDepth 100000 in
theorem containsn_any (q : Nat) (v : Value) (ls : List Nd) (w : World) (h : SlIs 6 Nd.cells w v ls) (hll : ls.length ≤ 1000000) (hq : WaysAt w q) (ho : ∀ d ∈ ls, 0 ≤ d.op ∧ d.op ≤ 24) (r : Bool) (hr : Hid (ls.any arrB = r)) :
    Calls Tryz.prog 22 #[v, .func (Fn.func 23) #[] #[.pointer (some ⟨q, 0, none⟩)]] w fun e w' => e = .returned (.bool r) ∧ Below w.heap.size w w' := by
  have HC := Lib.hid (indexn_any q v ls w h hll hq ho)
  clear h hll hq ho
  go_enter Tryz.func22, Tryz.ntmps22
  (repeat (first | (with_reducible first | refine xA ?_ | refine xB ?_ | refine xC ?_ | refine xD ?_ | refine xH ?_ | refine xI rfl ?_ | refine xE ?_ | refine xF ?_ | refine xG ?_) | go_skip | go_guarded | (go_at_call 50; (with_reducible refine HC.out.mono ?_); rintro _ w2 ⟨⟨i, rfl, hq, b1, b2⟩, hb⟩; rw [hr.out] at hq) | go_values | go_skip | go_guarded | go_step | go_upon | go_back | ((with_reducible show Oper.upon _ _ _ _ _ _); go_simp) | (dsimp only)))
  go_ret
  exact ⟨rfl, hb⟩
end Go.Proofs.YtmaogkgjiplckaaGreat
namespace Go.Proofs.YtmaogkgjiplckaaGreat
open Go.RowKit
section
variable {ops : Array Oper} {rest : List Oper} {o : Oper} {a : Act} {w : World} {Q : Exit → Act → World → Prop}
theorem wl_pushS (hgd : o.guard = none) (s x : Operand) (ho : o.op = .call { callee := .builtin .append, args := #[s, x], argTypes := #[30, 30] }) (base : Nat) (v : Value) (n : Nat) (l : List Value) (hs : a.eval s = v) (hown : w.ownsRow base 31 1 v n l) (b : Nat) (ad : Option Addr) (m c : Nat) (hx : a.eval x = .slice (some ⟨b, 0, none⟩) 1 1) (hb : w.cell? ⟨b, 0, none⟩ = some (.slice ad m c)) (hn : n ≤ 1000000) (hbase : base ≤ w.heap.size)
    (h : ∀ v' w', w'.ownsRow base 31 1 v' (n + 1) (l ++ [.slice ad m c]) → w.grownBy w' v.ownBlock → (v'.ownBlock = v.ownBlock ∨ v'.ownBlock = some w.heap.size) → wpList Tryz.prog ops Q rest (a.put o.dst v') w') : wpList Tryz.prog ops Q (o :: rest) a w := by
  obtain ⟨i0, hi0, hz0, hz1, hz2⟩ := info_parts info26
  refine wpList_append_own_at _ hgd s x 30 ho base 31 i0 (.slice none 0 0) 1 24 Tryz.underlying30 hi0 hz0 hz1 hz2 rfl (by decide) v n _ hs hown ⟨b, 0, none⟩ 1 1 [.slice ad m c] hx rfl ?_ (by simp [Value.oneCell']) (by simp only [maxLen]; omega) (by omega) hbase ?_
  · intro j y hj
    rcases j with _ | j
    · simp at hj; subst hj
      simpa [Addr.add] using hb
    · simp at hj
  · intro v' w' h1 h2 _ h4
    exact h v' w' h1 h2 h4
end
section
variable {X : Nat → Prop} {base bb gb : Nat} {b : BS} {lv wv : Value} {iv rv vs : List Value}
theorem ownsRow_shape {w : World} {B T n : Nat} {v : Value} {l : List Value} (h : w.ownsRow B T 1 v n l) : ∃ ao c, v = .slice ao n c := by
  rcases h.2 with ⟨e, h0⟩ | ⟨g, cap, cur, e, _⟩
  · subst h0; exact ⟨_, _, e⟩
  · exact ⟨_, _, e⟩
theorem bz_lt {w : World} (h : BRep X base w bb gb b lv iv rv wv vs) {k : Nat} (hz : BZ X bb wv k) : k < w.heap.size := h.gr.xb k hz.1
theorem BRep.push {w w2 w3 : World} (h : BRep X base w bb gb b lv iv rv wv vs) (hb : Below w.heap.size w w2) {v wv' : Value} {l : List Int} (hv : SlX (BZ X bb wv) w v l) (hO : w3.ownsRow base 31 1 wv' (vs.length + 1) (vs ++ [v])) (hg : w2.grownBy w3 wv.ownBlock) (hl : wv'.ownBlock = wv.ownBlock ∨ wv'.ownBlock = some w2.heap.size) :
    BRep (fun k => X k ∨ wv'.ownBlock = some k) base (w3.setCell ⟨bb, 29, none⟩ wv') bb gb ⟨b.g, b.ws ++ [l], b.inp, b.reg⟩ lv iv rv wv' (vs ++ [v]) ∧ Kept (fun k => X k ∧ k ≠ bb ∧ some k ≠ wv.ownBlock) w (w3.setCell ⟨bb, 29, none⟩ wv') := by
  have h2 := h.below hb
  have hbl := h.lt
  have hne : ∀ k, wv.ownBlock = some k → k ≠ bb := fun k e => (h.xw k e).2
  have hsz := hb.size
  have hwb : wv'.ownBlock ≠ some bb := by
    rcases hl with e | e
    · rw [e]; intro e2; exact hne bb e2 rfl
    · rw [e]; intro e2; injection e2 with e2; omega
  have hbox3 : w3.heap[bb]? = _ := keep_at hg h2.box (fun e => hne bb e.symm rfl)
  have hg4 : w3.grownBy (w3.setCell ⟨bb, 29, none⟩ wv') (some bb) := set_grown
  have hk23 : Kept (fun k => some k ≠ wv.ownBlock) w2 w3 := ⟨hg.os, hg.tape, hg.output, hg.size, fun i hi hx => hg.block i hi hx⟩
  have hk34 : Kept (fun k => k ≠ bb) w3 (w3.setCell ⟨bb, 29, none⟩ wv') := ⟨hg4.os, hg4.tape, hg4.output, hg4.size, fun i hi hx => hg4.block i hi (fun e => hx (by injection e))⟩
  have hkk : Kept (fun k => k ≠ bb ∧ some k ≠ wv.ownBlock) w2 (w3.setCell ⟨bb, 29, none⟩ wv') := (hk23.mono fun k _ hz => hz.2).trans (hk34.mono fun k _ hz => hz.1)
  have hbox4 := heap_setCell_same w3 bb 29 _ _ wv' hbox3
  rw [List.setIfInBounds_toArray, bc_set_w h.il h.rl] at hbox4
  have hG3 : GR (fun k => X k ∨ wv'.ownBlock = some k) base w3 gb b.g := by
    refine h2.gr.turn hg (fun q e => (h.xw q e).1) ?_ ?_
    · rintro k (hk | hk)
      · exact .inl hk
      · rcases hl with e | e
        · rw [e] at hk; exact .inl (h.xw k hk).1
        · rw [e] at hk; injection hk with hk; right; omega
    · rintro k (hk | hk)
      · exact Nat.lt_of_lt_of_le (h2.gr.xb k hk) hg.size
      · exact (hO.lt k hk).2
  have up : ∀ {xs : List Value} {cl : List (List Int)}, SlsX (BZ X bb wv) w xs cl → SlsX (BZ (fun k => X k ∨ wv'.ownBlock = some k) bb wv') (w3.setCell ⟨bb, 29, none⟩ wv') xs cl := fun hx => by
    have h1 := hx.kept (Kept.ofBelow hb)
    have h2' := h1.mono (Z := fun k => BZ X bb wv k ∧ k < w.heap.size) fun k _ hz => ⟨hz, bz_lt h hz⟩
    have h3 := h2'.kept (hkk.mono fun k _ hz => ⟨hz.1.2.1, hz.1.2.2⟩)
    refine h3.mono fun k _ hz => ⟨.inl hz.1.1, hz.1.2.1, fun e => ?_⟩
    rcases hl with e2 | e2
    · rw [e2] at e; exact hz.1.2.2 e
    · rw [e2] at e; injection e with e; have := hz.2; omega
  have hv4 : SlX (BZ (fun k => X k ∨ wv'.ownBlock = some k) bb wv') (w3.setCell ⟨bb, 29, none⟩ wv') v l := by
    have := up (xs := [v]) (cl := [l]) ⟨rfl, fun i x m hx hm => by
      rcases i with _ | i
      · simp at hx hm; subst hx; subst hm; exact hv
      · simp at hx⟩
    exact this.2 0 v l rfl rfl
  refine ⟨⟨hbox4, .inl h.xb, hG3.other hg4 (.inl h.xb), h.il, h.rl, up h.inp, up h.reg, h.ni, h.nr, ?_, ?_, (up h.words).append ⟨rfl, fun i x m hx hm => ?_⟩⟩, (Kept.ofBelow hb).trans (hkk.mono fun k _ hz => hz.2)⟩
  · rw [List.length_append]
    exact owns_kept hO hk34 fun k e e2 => hwb (by rw [e, e2])
  · intro k e
    exact ⟨.inr e, fun e2 => hwb (by rw [e, e2])⟩
  · rcases i with _ | i
    · simp at hx hm; subst hx; subst hm; exact hv4
    · simp at hx
end
theorem cloneX {Z : Nat → Prop} (v : Value) (l : List Int) (w : World) (h : SlX Z w v l) (hll : l.length ≤ 1000000) (hn : l = [] → v = .slice none 0 0) :
    Calls Tryz.prog 25 #[v] w fun e w' => ∃ ao c, e = .returned (.slice ao l.length c) ∧ (l = [] → Value.slice ao l.length c = .slice none 0 0) ∧ SlX (fun k => w.heap.size ≤ k) w' (.slice ao l.length c) l ∧ Below w.heap.size w w' := by
  by_cases e : l = []
  · have hv := hn e
    subst hv; subst e
    refine (clone_nil w).mono ?_
    rintro _ _ ⟨rfl, rfl⟩
    exact ⟨none, 0, rfl, fun _ => rfl, SlX.nil _ _, Below.refl _ _⟩
  · refine (clone_any v l w h e hll).mono ?_
    rintro _ w' ⟨v', rfl, hO, hb⟩
    obtain ⟨ao, c, rfl⟩ := ownsRow_shape hO
    exact ⟨ao, c, rfl, fun e2 => absurd e2 e, own_sl hO fun k e => (hO.lt k e).1, hb⟩
end Go.Proofs.YtmaogkgjiplckaaGreat
namespace Go.Proofs.YtmaogkgjiplckaaGreat
open Go.RowKit
def Enters (f : Nat) : Prop := ∀ (args : Array Value) (w : World), (callFunc f args).run Tryz.prog w = .ok (.enter f args) w
theorem enters_of {f : Nat} {fn : Func} {c : Code} (hf : Tryz.prog.funcs[f]? = some fn) (hname : (fn.name == "runtime.NumGoroutine") = false) (hb : fn.body = some c) : Enters f := fun args w => by
  have h1 : fn.name ≠ "runtime.NumGoroutine" := by simpa using hname
  simp [callFunc, hf, h1, hb]
theorem way_any {I R : Nat → Nat} {ls : List Nd} {k : Nat} {b : BS} {s : Nat → Bool} {d : Nd} (hT : TF ls) (hB : BI I R ls k b s) (hd : ls[k]? = some d) (hwf : NdWf d) (hn : b.g.n + 40000 ≤ 1048576) :
    ∃ j f : Nat, d.op = j ∧ j < 25 ∧ wayK 22 j = .func (Fn.func f) #[] #[] ∧ Enters f ∧ ∀ (X : Nat → Prop) (base bb gb : Nat) (lv wv : Value) (iv rv vs : List Value) (w : World), base ≤ w.heap.size → BRep X base w bb gb b lv iv rv wv vs →
      Calls Tryz.prog f #[.pointer (some ⟨bb, 0, none⟩), .agg #[.int .i64 d.op, .int .i64 d.w, .int .u64 d.n, .int .i64 d.k0, .int .i64 d.k1, .int .i64 d.k2]] w (WordB X base bb gb lv wv vs w (bword b d)) := by
  have hkl : k < ls.length := by
    rcases Nat.lt_or_ge k ls.length with h1 | h1
    · exact h1
    · rw [List.getElem?_eq_none h1] at hd; cases hd
  have wd : ∀ a : Nat, a < k → wAt ls a = 1 ∨ wAt ls a = 8 ∨ wAt ls a = 64 := fun a ha => hT.wd a (by omega)
  have hdw := (hT k d hd).wd wd
  have hlen := hB.len
  have hn0 := hwf.2.2.1
  cases hT k d hd with
  | const h hw hn hN _ =>
    refine ⟨0, 43, h, by decide, rfl, enters_of Tryz.func43 (by kernel_rfl) rfl, fun X base bb gb lv wv iv rv vs w hba hR => ?_⟩
    have e : bword b d = (b, constL d.w.toNat d.n.toNat) := by unfold bword; rw [if_pos h]
    rw [e]
    exact constant_any w hR d d.w.toNat (by omega) (by omega) hn0.1 hn0.2
  | input h hw hn hN =>
    refine ⟨1, 44, h, by decide, rfl, enters_of Tryz.func44 (by kernel_rfl) rfl, fun X base bb gb lv wv iv rv vs w hba hR => ?_⟩
    obtain ⟨i, hi⟩ : ∃ i : Nat, d.n = i := ⟨d.n.toNat, by omega⟩
    have e : bword b d = (if b.inp.getD i [] = [] then (⟨addV b.g 8, b.ws, b.inp.set i (freeL b.g.n 8), b.reg⟩, freeL b.g.n 8) else (b, b.inp.getD i [])) := by
      unfold bword; rw [if_neg (by omega), if_pos h, hi, Int.toNat_natCast]
    rw [hi]
    exact input_b w hR hB.il d.op d.w d.k0 d.k1 d.k2 i (by omega) (by omega) _ (Lib.hid e.symm)
  | reg h hw hn hN =>
    refine ⟨2, 45, h, by decide, rfl, enters_of Tryz.func45 (by kernel_rfl) rfl, fun X base bb gb lv wv iv rv vs w hba hR => ?_⟩
    obtain ⟨i, hi⟩ : ∃ i : Nat, d.n = i := ⟨d.n.toNat, by omega⟩
    have e : bword b d = (if b.reg.getD i [] = [] then (⟨addV b.g 64, b.ws, b.inp, b.reg.set i (freeL b.g.n 64)⟩, freeL b.g.n 64) else (b, b.reg.getD i [])) := by
      unfold bword; rw [if_neg (by omega), if_neg (by omega), if_pos h, hi, Int.toNat_natCast]
    rw [hi]
    exact reg_b w hR hB.rl d.op d.w d.k0 d.k1 d.k2 i (by omega) (by omega) _ (Lib.hid e.symm)
  | wide h a ha haj hw hx =>
    refine ⟨6, 47, h, by decide, rfl, enters_of Tryz.func47 (by kernel_rfl) rfl, fun X base bb gb lv wv iv rv vs w hba hR => ?_⟩
    have W := hB.ws a haj
    have e : bword b d = (b, b.at a ++ constL (64 - (b.at a).length) 0) := by unfold bword; rw [if_neg (by omega), if_neg (by omega), if_neg (by omega), if_pos h, ha]
    rw [e]
    exact wide_b w hR d a ha (by omega) (by have := W.len; omega)
  | low h a ha haj hw hx =>
    refine ⟨7, 48, h, by decide, rfl, enters_of Tryz.func48 (by kernel_rfl) rfl, fun X base bb gb lv wv iv rv vs w hba hR => ?_⟩
    have W := hB.ws a haj
    have e : bword b d = (b, (b.at a).take 8) := by unfold bword; rw [if_neg (by omega), if_neg (by omega), if_neg (by omega), if_neg (by omega), if_pos h, ha]
    rw [e]
    exact low_any w hR d a ha (by omega) (by have := W.len; omega)
  | choice h a c e ha hc he haj hcj hej h1 hx hy h0 =>
    refine ⟨22, 49, h, by decide, rfl, enters_of Tryz.func49 (by kernel_rfl) rfl, fun X base bb gb lv wv iv rv vs w hba hR => ?_⟩
    have W0 := hB.ws a haj
    have W1 := hB.ws c hcj
    have W2 := hB.ws e hej
    have hl0 : (b.at a).length = 1 := by rw [W0.len, h1]; rfl
    obtain ⟨z, hz⟩ : ∃ z, b.at a = [z] := List.length_eq_one_iff.1 hl0
    have hzl : isL b.g.n z := W0.isl z (by rw [hz]; exact List.mem_singleton.2 rfl)
    have eb : bword b d = (⟨(chooseG b.g z (b.at c) (b.at e)).1, b.ws, b.inp, b.reg⟩, (chooseG b.g z (b.at c) (b.at e)).2) := by
      unfold bword; rw [if_neg (by omega), if_neg (by omega), if_neg (by omega), if_neg (by omega), if_neg (by omega), if_pos h, ha, hc, he, hz]; rfl
    rw [eb]
    exact choice_b w hba hR d a c e ha hc he (by omega) (by omega) (by omega) z hz d.w.toNat (by omega) (by rw [W1.len, hx]) (by rw [W2.len, hy]) hzl W1.isl W2.isl hB.gi (by omega) _ (Lib.hid rfl)
  | not h a ha haj hw h0 z =>
    refine ⟨5, 46, h, by decide, rfl, enters_of Tryz.func46 (by kernel_rfl) rfl, fun X base bb gb lv wv iv rv vs w hba hR => ?_⟩
    have W := hB.ws a haj
    have hwa := wd a haj
    have e : bword b d = (⟨(resG d.op b.g (b.at a).length (b.at a) (b.at ((0 : Nat) : Int))).1, b.ws, b.inp, b.reg⟩, (resG d.op b.g (b.at a).length (b.at a) (b.at ((0 : Nat) : Int))).2) := by
      unfold bword; rw [if_neg (by omega), if_neg (by omega), if_neg (by omega), if_neg (by omega), if_neg (by omega), if_neg (by omega), ha, z]; rfl
    rw [e]
    exact apply_b w hba hR d a 0 ha z (by omega) (by omega) (b.at a).length (by rw [W.len]; omega) rfl (.inl h) W.isl (.inl h) hB.gi (.inl h) hn _ (Lib.hid rfl)
  | two h a c ha hc haj hcj hx hy h0 =>
    have W := hB.ws a haj
    have V := hB.ws c hcj
    have hwa := wd a haj
    obtain ⟨j, hj⟩ : ∃ j : Nat, d.op = j := ⟨d.op.toNat, by omega⟩
    refine ⟨j, 46, hj, by omega, ?_, enters_of Tryz.func46 (by kernel_rfl) rfl, fun X base bb gb lv wv iv rv vs w hba hR => ?_⟩
    · unfold wayK
      rw [if_neg (by omega), if_neg (by omega), if_neg (by omega), if_neg (by omega), if_neg (by omega), if_neg (by omega), if_neg (by omega), if_pos (by omega)]
    · have e : bword b d = (⟨(resG d.op b.g (b.at a).length (b.at a) (b.at c)).1, b.ws, b.inp, b.reg⟩, (resG d.op b.g (b.at a).length (b.at a) (b.at c)).2) := by
        unfold bword; rw [if_neg (by omega), if_neg (by omega), if_neg (by omega), if_neg (by omega), if_neg (by omega), if_neg (by omega), ha, hc]
      rw [e]
      exact apply_b w hba hR d a c ha hc (by omega) (by omega) (b.at a).length (by rw [W.len]; omega) rfl (.inr (by rw [V.len, W.len, hx, hy])) W.isl (.inr V.isl) hB.gi (.inr (by omega)) hn _ (Lib.hid rfl)
  | test h a c ha hc haj hcj hx h0 hw =>
    have W := hB.ws a haj
    have V := hB.ws c hcj
    have hwa := wd a haj
    obtain ⟨j, hj⟩ : ∃ j : Nat, d.op = j := ⟨d.op.toNat, by omega⟩
    refine ⟨j, 46, hj, by omega, ?_, enters_of Tryz.func46 (by kernel_rfl) rfl, fun X base bb gb lv wv iv rv vs w hba hR => ?_⟩
    · unfold wayK
      rw [if_neg (by omega), if_neg (by omega), if_neg (by omega), if_neg (by omega), if_neg (by omega), if_neg (by omega), if_neg (by omega), if_pos (by omega)]
    · have e : bword b d = (⟨(resG d.op b.g (b.at a).length (b.at a) (b.at c)).1, b.ws, b.inp, b.reg⟩, (resG d.op b.g (b.at a).length (b.at a) (b.at c)).2) := by
        unfold bword; rw [if_neg (by omega), if_neg (by omega), if_neg (by omega), if_neg (by omega), if_neg (by omega), if_neg (by omega), ha, hc]
      rw [e]
      exact apply_b w hba hR d a c ha hc (by omega) (by omega) (b.at a).length (by rw [W.len]; omega) rfl (.inr (by rw [V.len, W.len, hx])) W.isl (.inr V.isl) hB.gi (.inr (by omega)) hn _ (Lib.hid rfl)
end Go.Proofs.YtmaogkgjiplckaaGreat
namespace Go.Proofs.YtmaogkgjiplckaaGreat
open Go.RowKit
def fcells (c0 c1 c2 : Value) (iv rv : List Value) : List Value := [c0, c1, c2] ++ (iv ++ rv)
def nilV (n : Nat) : List Value := List.replicate n (.slice none 0 0)
def fzero : List Value := fcells (.slice none 0 0) (.int .i64 0) (.slice none 0 0) (nilV 16) (nilV 8)
theorem fzero_len : fzero.length = 27 := by decide
theorem sizeTF : (Tryz.prog.info? 35).map (·.size) = some 27 := by kernel_rfl
theorem fcells_len {c0 c1 c2 : Value} {iv rv : List Value} (hi : iv.length = 16) (hr : rv.length = 8) : (fcells c0 c1 c2 iv rv).length = 27 := by
  unfold fcells; rw [List.length_append, List.length_append, hi, hr]; rfl
theorem fcells_one {c0 c1 c2 : Value} {iv rv : List Value} (h0 : c0.oneCell' = true) (h1 : c1.oneCell' = true) (h2 : c2.oneCell' = true) (hi : ∀ v ∈ iv, v.oneCell' = true) (hr : ∀ v ∈ rv, v.oneCell' = true) : (fcells c0 c1 c2 iv rv).toArray.all (·.oneCell') = true := by
  rw [List.all_toArray, List.all_eq_true]
  intro v hv
  unfold fcells at hv
  simp only [List.cons_append, List.nil_append, List.mem_cons, List.mem_append] at hv
  rcases hv with rfl | rfl | rfl | hv | hv
  · exact h0
  · exact h1
  · exact h2
  · exact hi v hv
  · exact hr v hv
theorem of_post {post : Ending → World → Prop} {a : Act} {w : World} {q : Nat} {cs : List Value} {E : Int} (hl : cs.length = 27) (hd : a.defers = []) (hp : a.tmps.getD 2 undef = .pointer (some ⟨q, 0, none⟩)) (hu : a.tmps.getD 3 undef = .int .i64 E) (hb : w.heap[q]? = some (.cells cs.toArray 35 (0, 0)))
    (h : post (.returned (.tuple #[.agg cs.toArray, .int .i64 E])) w) : bodyPost Tryz.prog Tryz.f8 post .ret a w := by
  refine bodyPost_ret ((results_cell_tmp rfl _ _ _).trans ?_) hd h
  rw [hp, hu]
  have e := run_loadVar_row w q 35 35 cs.toArray (0, 0) _ hb Tryz.underlying35 rfl (by rw [List.size_toArray, hl]; exact sizeTF)
  simp only [asAddr, Sem.run_pure, Result.andThen_ok, e]
theorem ways_at {w : World} {q : Nat} (h : w.heap[q]? = some (.cells (waysV 22).toArray 63 (0, 0))) : WaysAt w q := fun j hj => by
  rw [cell_of_row w q j _ _ _ h, List.getElem?_toArray]
  exact waysV_get 22 j hj
end Go.Proofs.YtmaogkgjiplckaaGreat
namespace Go.Proofs.YtmaogkgjiplckaaGreat
open Go.RowKit
theorem bK_ws {ls : List Nd} (hT : TF ls) (k : Nat) (hk : k ≤ ls.length) : (bK ls k).ws.length = k := by
  obtain ⟨s, hs⟩ := blast_ok (I := fun _ => 0) (R := fun _ => 0) hT (fun _ => by decide) (fun _ => by decide) k hk
  exact hs.len
def OfR (ls : List Nd) (k : Nat) (u : World) (bb gb base : Nat) (lv : Value) (wr : World) : Prop :=
  ∃ (X : Nat → Prop) (iv rv vs : List Value) (wv : Value), BRep X base wr bb gb (bK ls k) lv iv rv wv vs ∧ (∀ j, j < u.heap.size → X j) ∧ u.heap.size ≤ bb ∧ base ≤ wr.heap.size ∧ Kept (fun j => j < u.heap.size) u wr
theorem ofr_start {u w6 : World} {gb : Nat} {lv : Value} (ls : List Nd) (hG : GR (fun k => k < u.heap.size) u.heap.size w6 gb newG) (hb : Below u.heap.size u w6) :
    OfR ls 0 u w6.heap.size gb u.heap.size lv (w6.alloc (.cells (bcells (.slice none 0 0) (.int .i64 0) (.slice none 0 0) (nilV 16) (nilV 8) lv (.slice none 0 0) gb).toArray 71)) := by
  have hbx := Below.alloc (Below.refl w6.heap.size w6) (Nat.le_refl _) (.cells (bcells (.slice none 0 0) (.int .i64 0) (.slice none 0 0) (nilV 16) (nilV 8) lv (.slice none 0 0) gb).toArray 71)
  have hnil : ∀ {X : Nat → Prop} {n : Nat} {w : World}, SlsX X w (nilV n) (List.replicate n []) := fun {X n w} => by
    refine ⟨by simp [nilV], fun i x l hx hl => ?_⟩
    have e1 := List.eq_of_mem_replicate (List.mem_of_getElem? hx)
    have e2 := List.eq_of_mem_replicate (List.mem_of_getElem? hl)
    subst e1; subst e2
    exact SlX.nil _ _
  refine ⟨fun k => k < u.heap.size ∨ k = w6.heap.size, nilV 16, nilV 8, [], .slice none 0 0, ⟨heap_alloc_new w6 _, .inr rfl, hG.owned (below_own hbx) (Nat.le_refl _) (by simp), by simp [nilV], by simp [nilV], hnil, hnil, ?_, ?_, ?_, ?_, ⟨rfl, fun i x l hx _ => by simp at hx⟩⟩, fun j hj => .inl hj, hb.size, by simp; exact Nat.le_trans hb.size (Nat.le_succ _), (Kept.ofBelow hb).trans (Kept.below hbx fun k hk _ => hk)⟩
  · intro i v hv _; exact List.eq_of_mem_replicate (List.mem_of_getElem? hv)
  · intro i v hv _; exact List.eq_of_mem_replicate (List.mem_of_getElem? hv)
  · exact World.ownsRow_nil _ _ _ _
  · intro k e; cases e
theorem ofr_next {ls : List Nd} {k : Nat} {u w2 w9 : World} {bb gb base : Nat} {lv wv wv' v : Value} {iv rv vs : List Value} {Y : Nat → Prop} {r : BS × List Int} {o : Obj} (hbk : bK ls (k + 1) = .push r) (hB : BRep Y base w2 bb gb r.1 lv iv rv wv vs) (hS : SlX (BZ Y bb wv) w2 v r.2)
    (hO : w9.ownsRow base 31 1 wv' (vs.length + 1) (vs ++ [v])) (hg : (w2.alloc o).grownBy w9 wv.ownBlock) (hl : wv'.ownBlock = wv.ownBlock ∨ wv'.ownBlock = some (w2.alloc o).heap.size) (hY : ∀ j, j < u.heap.size → Y j) (hbb : u.heap.size ≤ bb) (hsz : base ≤ w2.heap.size) (hK : Kept (fun j => j < u.heap.size) u w2) (hbu : u.heap.size ≤ base := by exact Nat.le_refl _) :
    OfR ls (k + 1) u bb gb base lv (w9.setCell ⟨bb, 29, none⟩ wv') := by
  obtain ⟨p1, p2⟩ := hB.push (Below.alloc (Below.refl _ _) (Nat.le_refl _) o) hS hO hg hl
  refine ⟨fun k => Y k ∨ wv'.ownBlock = some k, iv, rv, _, wv', by rw [hbk]; exact p1, fun j hj => .inl (hY j hj), hbb, ?_, hK.trans (p2.mono fun j _ hj => ⟨hY j hj, by show j ≠ bb; have : j < u.heap.size := hj; omega, fun e => ?_⟩)⟩
  · exact Nat.le_trans hsz p2.size
  · have := (hB.row.lt j e.symm).1
    have : j < u.heap.size := hj
    omega
structure FRep (w : World) (bb gb : Nat) (b : BS) (c0 c1 c2 lv wv : Value) (iv rv : List Value) : Prop where
  box : w.heap[bb]? = some (.cells (bcells c0 c1 c2 iv rv lv wv gb).toArray 71 (0, 0))
  il : iv.length = 16
  rl : rv.length = 8
  inp : SlsX (fun k => k ≠ bb) w iv b.inp
  reg : SlsX (fun k => k ≠ bb) w rv b.reg
  ni : ∀ (i : Nat) (v : Value), iv[i]? = some v → b.inp[i]? = some [] → v = .slice none 0 0
  nr : ∀ (i : Nat) (v : Value), rv[i]? = some v → b.reg[i]? = some [] → v = .slice none 0 0
section
variable {w w' : World} {bb gb : Nat} {b : BS} {c0 c1 c2 lv wv : Value} {iv rv : List Value}
theorem FRep.lt (h : FRep w bb gb b c0 c1 c2 lv wv iv rv) : bb < w.heap.size := lt_of_block h.box
theorem FRep.cell (h : FRep w bb gb b c0 c1 c2 lv wv iv rv) (j : Nat) : w.cell? ⟨bb, j, none⟩ = (bcells c0 c1 c2 iv rv lv wv gb)[j]? := by
  rw [cell_of_row w bb j _ _ _ h.box, List.getElem?_toArray]
theorem FRep.ci (h : FRep w bb gb b c0 c1 c2 lv wv iv rv) {i : Nat} {v : Value} (hv : iv[i]? = some v) : w.cell? ⟨bb, 3 + i, none⟩ = some v := by rw [h.cell, bc_inp h.il hv]
theorem FRep.cr (h : FRep w bb gb b c0 c1 c2 lv wv iv rv) {i : Nat} {v : Value} (hv : rv[i]? = some v) : w.cell? ⟨bb, 19 + i, none⟩ = some v := by rw [h.cell, bc_reg h.il h.rl hv]
theorem FRep.below (h : FRep w bb gb b c0 c1 c2 lv wv iv rv) (hb : Below w.heap.size w w') : FRep w' bb gb b c0 c1 c2 lv wv iv rv :=
  ⟨(Kept.ofBelow (X := fun _ => True) hb).at h.box trivial, h.il, h.rl, h.inp.kept (Kept.ofBelow hb), h.reg.kept (Kept.ofBelow hb), h.ni, h.nr⟩
theorem set_kept {q i : Nat} {v : Value} : Kept (fun k => k ≠ q) w (w.setCell ⟨q, i, none⟩ v) := by
  have hg : w.grownBy (w.setCell ⟨q, i, none⟩ v) (some q) := set_grown
  exact ⟨hg.os, hg.tape, hg.output, hg.size, fun i hi hx => hg.block i hi (fun e => hx (by injection e))⟩
theorem FRep.set (h : FRep w bb gb b c0 c1 c2 lv wv iv rv) (i : Nat) (v : Value) {d0 d1 d2 : Value} (he : (bcells c0 c1 c2 iv rv lv wv gb).set i v = bcells d0 d1 d2 iv rv lv wv gb) : FRep (w.setCell ⟨bb, i, none⟩ v) bb gb b d0 d1 d2 lv wv iv rv := by
  have hbox := heap_setCell_same w bb i _ _ v h.box
  rw [List.setIfInBounds_toArray, he] at hbox
  exact ⟨hbox, h.il, h.rl, h.inp.kept set_kept, h.reg.kept set_kept, h.ni, h.nr⟩
theorem slsx_put {Z : Nat → Prop} {xs : List Value} {cl : List (List Int)} (h : SlsX Z w xs cl) (i : Nat) {v : Value} {l : List Int} (hl : cl[i]? = some l) (hv : SlX Z w v l) : SlsX Z w (xs.set i v) cl := by
  refine ⟨by rw [List.length_set]; exact h.1, fun j x m hx hm => ?_⟩
  by_cases e : i = j
  · subst e
    rw [hl] at hm
    injection hm with hm
    subst hm
    rw [List.getElem?_set, if_pos rfl] at hx
    split at hx
    · injection hx with hx; subst hx; exact hv
    · cases hx
  · rw [List.getElem?_set_ne e] at hx
    exact h.2 j x m hx hm
theorem FRep.setI (h : FRep w bb gb b c0 c1 c2 lv wv iv rv) {i : Nat} (hi : i < 16) {v : Value} {l : List Int} (hl : b.inp[i]? = some l) (hv : SlX (fun k => k ≠ bb) w v l) (hn : l = [] → v = .slice none 0 0) : FRep (w.setCell ⟨bb, 3 + i, none⟩ v) bb gb b c0 c1 c2 lv wv (iv.set i v) rv := by
  have hbox := heap_setCell_same w bb (3 + i) _ _ v h.box
  rw [List.setIfInBounds_toArray, bc_set_inp h.il v hi] at hbox
  refine ⟨hbox, by rw [List.length_set]; exact h.il, h.rl, (slsx_put h.inp i hl hv).kept set_kept, h.reg.kept set_kept, fun j x hx hm => ?_, h.nr⟩
  by_cases e : i = j
  · subst e
    rw [hl] at hm
    injection hm with hm
    rw [List.getElem?_set, if_pos rfl] at hx
    split at hx
    · injection hx with hx; rw [← hx]; exact hn hm
    · cases hx
  · rw [List.getElem?_set_ne e] at hx
    exact h.ni j x hx hm
theorem FRep.setR (h : FRep w bb gb b c0 c1 c2 lv wv iv rv) {i : Nat} (hi : i < 8) {v : Value} {l : List Int} (hl : b.reg[i]? = some l) (hv : SlX (fun k => k ≠ bb) w v l) (hn : l = [] → v = .slice none 0 0) : FRep (w.setCell ⟨bb, 19 + i, none⟩ v) bb gb b c0 c1 c2 lv wv iv (rv.set i v) := by
  have hbox := heap_setCell_same w bb (19 + i) _ _ v h.box
  rw [List.setIfInBounds_toArray, bc_set_reg h.il h.rl v hi] at hbox
  refine ⟨hbox, h.il, by rw [List.length_set]; exact h.rl, h.inp.kept set_kept, (slsx_put h.reg i hl hv).kept set_kept, h.ni, fun j x hx hm => ?_⟩
  by_cases e : i = j
  · subst e
    rw [hl] at hm
    injection hm with hm
    rw [List.getElem?_set, if_pos rfl] at hx
    split at hx
    · injection hx with hx; rw [← hx]; exact hn hm
    · cases hx
  · rw [List.getElem?_set_ne e] at hx
    exact h.nr j x hx hm
end
theorem BRep.form {X : Nat → Prop} {base bb gb : Nat} {w : World} {b : BS} {lv wv : Value} {iv rv vs : List Value} (h : BRep X base w bb gb b lv iv rv wv vs) : FRep w bb gb b (.slice none 0 0) (.int .i64 0) (.slice none 0 0) lv wv iv rv :=
  ⟨h.box, h.il, h.rl, h.inp.mono fun k _ hz => hz.2.1, h.reg.mono fun k _ hz => hz.2.1, h.ni, h.nr⟩
theorem bc_take {c0 c1 c2 lv wv : Value} {iv rv : List Value} {gb : Nat} (hi : iv.length = 16) (hr : rv.length = 8) : (bcells c0 c1 c2 iv rv lv wv gb).take 27 = fcells c0 c1 c2 iv rv := by
  unfold bcells fcells
  rw [← List.append_assoc iv, ← List.append_assoc, List.take_append_of_le_length (by simp [hi, hr]), List.take_of_length_le (by simp [hi, hr])]
theorem load_form (w : World) (g : Nat) (t : TypeId) (cs : Array Value) (fr : Nat × Nat) (hg : w.heap[g]? = some (.cells cs t fr)) (hs : 27 ≤ cs.size) : (Instr.loadAt 35 (.pointer (some ⟨g, 0, none⟩))).run Tryz.prog w = .ok (.agg (cs.toList.take 27).toArray) w := by
  simp only [Instr.loadAt, Instr.sureAddr, Sem.run_bind, Sem.run_pure, Result.andThen_ok]
  have hl : (loadCells ⟨g, 0, none⟩ (cs.toList.take 27).length).run Tryz.prog w = .ok (cs.toList.take 27).toArray w :=
    run_loadCells_list (P := Tryz.prog) w ⟨g, 0, none⟩ (cs.toList.take 27) (fun j v hv => by
      have hadd : (⟨g, 0, none⟩ : Addr).add j = ⟨g, j, none⟩ := by unfold Addr.add; split <;> simp_all
      rw [hadd, cell_of_row w g j cs t fr hg]
      rw [List.getElem?_take] at hv
      split at hv
      · simpa using hv
      · cases hv)
  have hln : (cs.toList.take 27).length = 27 := by rw [List.length_take, Array.length_toList]; omega
  have hi := sizeTF
  cases hq : Tryz.prog.info? 35 with
  | none => simp [hq] at hi
  | some i =>
    have hz : i.size = 27 := by simpa [hq] using hi
    have hagg : (isAgg 35).run Tryz.prog w = .ok true w := by
      unfold isAgg
      rw [Sem.run_bind, run_underlying Tryz.underlying35 w]
      rfl
    rw [hln] at hl
    simp [loadVar, Sem.run_bind, hagg, sizeOf, typeInfo, hq, hz, hl]
end Go.Proofs.YtmaogkgjiplckaaGreat
namespace Go.Proofs.YtmaogkgjiplckaaGreat
open Go.RowKit
def OfRes (b : BS) (root : List Int) (e : Ending) (w' : World) : Prop :=
  ∃ (q : Nat) (cs : List Value) (ar : Option Addr) (cr : Nat) (iv rv : List Value), e = .returned (.tuple #[.agg (fcells (.slice (some ⟨q, 0, none⟩) b.g.cl.length b.g.cl.length) (.int .i64 b.g.n) (.slice ar root.length cr) iv rv).toArray, .int .i64 0]) ∧
    OwnW w' q b.g.cl.length cs ∧ SlsX (fun _ => True) w' cs b.g.cl ∧ SlX (fun _ => True) w' (.slice ar root.length cr) root ∧ iv.length = 16 ∧ rv.length = 8 ∧ SlsX (fun _ => True) w' iv b.inp ∧ SlsX (fun _ => True) w' rv b.reg ∧
    (∀ (i : Nat) (v : Value), iv[i]? = some v → b.inp[i]? = some [] → v = .slice none 0 0) ∧ (∀ (i : Nat) (v : Value), rv[i]? = some v → b.reg[i]? = some [] → v = .slice none 0 0) ∧ b.g.cl.length ≤ 4194304
structure FR2 (u w : World) (bb gb : Nat) (b : BS) (q : Nat) (cs : List Value) (vr lv wv : Value) (root : List Int) (iv rv : List Value) : Prop where
  f : FRep w bb gb b (.slice (some ⟨q, 0, none⟩) b.g.cl.length b.g.cl.length) (.int .i64 b.g.n) vr lv wv iv rv
  o : OwnW w q b.g.cl.length cs
  qb : q ≠ bb
  cls : SlsX (fun k => k ≠ bb) w cs b.g.cl
  rt : SlX (fun k => k ≠ bb) w vr root
  k : Kept (fun j => j < u.heap.size) u w
  ub : u.heap.size ≤ bb
section
variable {u w w' : World} {bb gb : Nat} {b : BS} {q : Nat} {cs : List Value} {vr lv wv : Value} {root : List Int} {iv rv : List Value}
theorem FR2.below (h : FR2 u w bb gb b q cs vr lv wv root iv rv) (hb : Below w.heap.size w w') : FR2 u w' bb gb b q cs vr lv wv root iv rv :=
  ⟨h.f.below hb, h.o.kept (Kept.ofBelow (X := fun _ => True) hb) trivial, h.qb, h.cls.kept (Kept.ofBelow hb), h.rt.kept (Kept.ofBelow hb), h.k.trans (Kept.ofBelow hb), h.ub⟩
theorem FR2.setI (h : FR2 u w bb gb b q cs vr lv wv root iv rv) {i : Nat} (hi : i < 16) {v : Value} {l : List Int} (hl : b.inp[i]? = some l) (hv : SlX (fun k => k ≠ bb) w v l) (hn : l = [] → v = .slice none 0 0) : FR2 u (w.setCell ⟨bb, 3 + i, none⟩ v) bb gb b q cs vr lv wv root (iv.set i v) rv :=
  ⟨h.f.setI hi hl hv hn, h.o.kept set_kept h.qb, h.qb, h.cls.kept set_kept, h.rt.kept set_kept, h.k.trans (set_kept.mono fun j _ hj => by show j ≠ bb; have := h.ub; have : j < u.heap.size := hj; omega), h.ub⟩
theorem FR2.setR (h : FR2 u w bb gb b q cs vr lv wv root iv rv) {i : Nat} (hi : i < 8) {v : Value} {l : List Int} (hl : b.reg[i]? = some l) (hv : SlX (fun k => k ≠ bb) w v l) (hn : l = [] → v = .slice none 0 0) : FR2 u (w.setCell ⟨bb, 19 + i, none⟩ v) bb gb b q cs vr lv wv root iv (rv.set i v) :=
  ⟨h.f.setR hi hl hv hn, h.o.kept set_kept h.qb, h.qb, h.cls.kept set_kept, h.rt.kept set_kept, h.k.trans (set_kept.mono fun j _ hj => by show j ≠ bb; have := h.ub; have : j < u.heap.size := hj; omega), h.ub⟩
end
section
variable {ops : Array Oper} {rest : List Oper} {o : Oper} {a : Act} {w : World} {Q : Exit → Act → World → Prop}
theorem wl_ldform {l : List Value} (hgd : o.guard = none) (x : Operand) (ho : o.op = .load 35 x) (g : Nat) (hx : a.eval x = .pointer (some ⟨g, 0, none⟩)) (t : TypeId) (cs : Array Value) (fr : Nat × Nat) (hg : w.heap[g]? = some (.cells cs t fr)) (hs : 27 ≤ cs.size) (hl : cs.toList.take 27 = l)
    (h : wpList Tryz.prog ops Q rest (a.put o.dst (.agg l.toArray)) w) : wpList Tryz.prog ops Q (o :: rest) a w :=
  wpList_plain hgd fun _ hK => by
    subst hl
    unfold Oper.wp execOp
    simp only [ho, hx, Sem.run_bind, load_form w g t cs fr hg hs, Result.andThen_ok]
    exact hK _ _ h
end
theorem slsx_one {Z : Nat → Prop} {w : World} {xs : List Value} {cl : List (List Int)} (h : SlsX Z w xs cl) : ∀ v ∈ xs, v.oneCell' = true := fun v hv => by
  obtain ⟨i, hi⟩ := List.mem_iff_getElem?.1 hv
  have hl := (List.getElem?_eq_some_iff.1 hi).1
  obtain ⟨ao, c, e⟩ := (h.2 i v _ hi (List.getElem?_eq_getElem (by rw [← h.1]; exact hl))).shape
  rw [e]; rfl
theorem bc_size {c0 c1 c2 lv wv : Value} {iv rv : List Value} {gb : Nat} (hi : iv.length = 16) (hr : rv.length = 8) : 27 ≤ (bcells c0 c1 c2 iv rv lv wv gb).toArray.size := by
  rw [List.size_toArray]
  unfold bcells
  simp [hi, hr]
theorem SlsX.any {Z : Nat → Prop} {w : World} {xs : List Value} {cl : List (List Int)} (h : SlsX Z w xs cl) : SlsX (fun _ => True) w xs cl := h.mono fun _ _ _ => trivial
theorem slx_off {Z : Nat → Prop} {w : World} {r0 : Nat} {v : Value} {l : List Int} (h : SlX Z w v l) (hz : ∀ x ∈ l, x ≠ 0) (hf : w.heap[r0]? = some (.cells fzero.toArray 35 (0, 0))) : SlX (fun k => Z k ∧ k ≠ r0) w v l := by
  obtain ⟨ao, cap, e, hc, h0, hr⟩ := h
  refine ⟨ao, cap, e, hc, h0, fun hne => ?_⟩
  obtain ⟨b, o, e2, hZ, hlt, hR⟩ := hr hne
  refine ⟨b, o, e2, ⟨hZ, ?_⟩, hlt, hR⟩
  rintro rfl
  obtain ⟨x, l', rfl⟩ : ∃ x l', l = x :: l' := by cases l with
    | nil => exact absurd rfl hne
    | cons x l' => exact ⟨x, l', rfl⟩
  have hc0 := hR 0 x rfl
  rw [cell_of_row w b _ _ _ _ hf, List.getElem?_toArray] at hc0
  have hx := hz x (List.mem_cons_self ..)
  have hall : ∀ (i : Nat) (y : Int), fzero[i]? = some (.int .i64 y) → y = 0 := by
    intro i y hi
    have hi27 : i < 27 := by have := (List.getElem?_eq_some_iff.1 hi).1; rw [fzero_len] at this; exact this
    have key : ∀ i : Fin 27, fzero[i.1]? = some (.slice none 0 0) ∨ fzero[i.1]? = some (.int .i64 0) := by
      intro i
      match i with
      | ⟨0, _⟩ => exact .inl rfl
      | ⟨1, _⟩ => exact .inr rfl
      | ⟨i + 2, hi⟩ =>
        left
        have hrep : fzero = [.slice none 0 0, .int .i64 0] ++ List.replicate 25 (.slice none 0 0) := rfl
        rw [hrep, List.getElem?_append_right (by simp), List.getElem?_replicate]
        simp; omega
    rcases key ⟨i, hi27⟩ with h | h
    · simp only at h; rw [h] at hi; cases hi
    · simp only at h; rw [h] at hi; injection hi with hi; injection hi with _ hi; exact hi.symm
  exact hx (hall _ _ hc0)
theorem slsx_off {Z : Nat → Prop} {w : World} {r0 : Nat} {xs : List Value} {cl : List (List Int)} (h : SlsX Z w xs cl) (hz : ∀ c ∈ cl, ∀ x ∈ c, x ≠ 0) (hf : w.heap[r0]? = some (.cells fzero.toArray 35 (0, 0))) : SlsX (fun k => Z k ∧ k ≠ r0) w xs cl :=
  ⟨h.1, fun i x l hx hl => slx_off (h.2 i x l hx hl) (hz l (List.mem_of_getElem? hl)) hf⟩
theorem SlX.any {Z : Nat → Prop} {w : World} {v : Value} {l : List Int} (h : SlX Z w v l) : SlX (fun _ => True) w v l := h.mono fun _ _ _ => trivial
theorem bK_leaf {ls : List Nd} (hT : TF ls) : ∀ l, l ∈ (bK ls ls.length).inp ∨ l ∈ (bK ls ls.length).reg → l.length ≤ 1000000 ∧ ∀ x ∈ l, x ≠ 0 := by
  obtain ⟨s, hs⟩ := blast_ok (I := fun _ => 0) (R := fun _ => 0) hT (fun _ => by decide) (fun _ => by decide) ls.length (Nat.le_refl _)
  rintro l (h | h)
  · obtain ⟨i, hi⟩ := List.mem_iff_getElem?.1 h
    have h16 := hs.inp i (by have := (List.getElem?_eq_some_iff.1 hi).1; have := hs.il; omega)
    have e : (bK ls ls.length).inp.getD i [] = l := by rw [List.getD_eq_getElem?_getD, hi]; rfl
    rw [e] at h16
    rcases h16 with rfl | h16
    · simp
    · exact ⟨by have := h16.len; omega, fun x hx => (h16.isl x hx).1⟩
  · obtain ⟨i, hi⟩ := List.mem_iff_getElem?.1 h
    have h16 := hs.reg i (by have := (List.getElem?_eq_some_iff.1 hi).1; have := hs.rl; omega)
    have e : (bK ls ls.length).reg.getD i [] = l := by rw [List.getD_eq_getElem?_getD, hi]; rfl
    rw [e] at h16
    rcases h16 with rfl | h16
    · simp
    · exact ⟨by have := h16.len; omega, fun x hx => (h16.isl x hx).1⟩
set_option maxRecDepth 100000 in
set_option maxHeartbeats 8000000 in
theorem of_ok (ls : List Nd) (v : Value) (w : World) (h : SlIs 6 Nd.cells w v ls) (hwf : ∀ d ∈ ls, NdWf d) (hE : (tchk ls).1 = 0) (hll : ls.length ≤ 1000000) (hT : TF ls) (hne : ls ≠ []) (ho : ∀ d ∈ ls, 0 ≤ d.op ∧ d.op ≤ 24) (ha : ls.any arrB = false) (hn : ∀ k, k ≤ ls.length → (bK ls k).g.n + 40000 ≤ 1048576) :
    Calls Tryz.prog 8 #[v] w fun e w' => OfRes (bK ls ls.length) ((bK ls ls.length).at ((ls.length - 1 : Nat) : Int)) e w' ∧ Below w.heap.size w w' := by
  have hmf : ∀ (fn : Fn) (first cap : Array Value) (w : World), (Instr.makeFunc fn first cap).run Tryz.prog w = .ok (.func fn first cap) w := fun _ _ _ _ => rfl
  obtain ⟨b0, off, cap, rfl, -, HR0⟩ := h.cases.resolve_left (by rintro ⟨_, _, _, e⟩; exact hne e)
  have hcap : ls.length ≤ cap := by
    obtain ⟨_, _, e, hc, _⟩ := h
    injection e with e1 e2 e3
    omega
  have HC : Hid (∀ u : World, Below w.heap.size w u → Calls Tryz.prog 20 #[.slice (some ⟨b0, off, none⟩) ls.length cap] u fun e w' => e = .returned (.tuple #[.int .i64 0, .int .i64 (tchk ls).2]) ∧ Below u.heap.size u w') := Lib.hid (fun u hb => by
    have := check_any ls _ u (h.below hb) hwf
    rw [hE] at this
    exact this)
  have HCT : Hid (∀ u : World, Below w.heap.size w u → ∀ q, WaysAt u q → Calls Tryz.prog 22 #[.slice (some ⟨b0, off, none⟩) ls.length cap, .func (Fn.func 23) #[] #[.pointer (some ⟨q, 0, none⟩)]] u fun e w' => e = .returned (.bool false) ∧ Below u.heap.size u w') := Lib.hid (fun u hb q hq => containsn_any q _ ls u (h.below hb) hll hq ho false (Lib.hid ha))
  generalize (tchk ls).2 = E2 at HC
  clear h hE ho ha
  go_enter Tryz.func8, Tryz.ntmps8
  (iterate 12 (first | (with_reducible first | refine xA ?_ | refine xB ?_ | refine xC ?_ | refine xD ?_ | refine xH ?_ | refine xI rfl ?_ | refine xE ?_ | refine xF ?_ | refine xG ?_) | go_values | go_skip | go_guarded | go_step | go_upon | go_back | ((with_reducible show Oper.upon _ _ _ _ _ _); go_simp) | (dsimp only)))
  refine wp_abs (fun u => Below w.heap.size w u ∧ u.heap[w.heap.size]? = some (.cells fzero.toArray 35 (0, 0))) ⟨by (repeat (first | with_reducible exact Below.refl _ _ | assumption | with_reducible refine below_drewN ?_ _ | with_reducible refine Below.drew ?_ | with_reducible refine Below.setRow ?_ ?_ _ | with_reducible refine Below.alloc ?_ ?_ _ | with_reducible refine Below.setCell ?_ ?_ _ | with_reducible exact Nat.le_refl _ | (focus (simp; done)) | (focus (simp; omega)) | omega)), heap_alloc_new w (.cells fzero.toArray 35)⟩ ?_
  rintro w1 ⟨hb1, hf1⟩
  have HF := Lib.hid hf1
  clear hf1
  (repeat (first | (with_reducible first | refine xA ?_ | refine xB ?_ | refine xC ?_ | refine xD ?_ | refine xH ?_ | refine xI rfl ?_ | refine xE ?_ | refine xF ?_ | refine xG ?_) | go_skip | go_guarded | (go_at_call 20; (with_reducible refine (HC.out _ hb1).mono ?_); rintro _ w2 ⟨rfl, hb⟩; replace HF := Lib.hid ((Kept.ofBelow (X := fun _ => True) hb).at HF.out trivial); replace hb1 := hb1.trans (hb.mono hb1.size); clear hb) | (go_at_call 21; (with_reducible refine (ways_any _).mono ?_); rintro _ w3 ⟨rfl, hb⟩; replace HF := Lib.hid ((Kept.ofBelow (X := fun _ => True) hb).at HF.out trivial); replace hb1 := hb1.trans (hb.mono hb1.size); have hlt3 := lt_of_block HF.out; clear hb) | (go_at_call 22; (with_reducible refine (HCT.out _ hb4 _ HWY.out).mono ?_); rintro _ w5 ⟨rfl, hb⟩; replace HF := Lib.hid ((Kept.ofBelow (X := fun _ => True) hb).at HF.out trivial); replace HWY := Lib.hid (HWY.out.below hb); replace hb4 := hb4.trans (hb.mono hb4.size); clear hb) | ((with_reducible refine wl_id ?_); refine wl_strow rfl 63 _ _ rfl w3.heap.size (waysV 22).toArray rfl rfl 63 #[Value.nilFunc, Value.nilFunc, Value.nilFunc, Value.nilFunc, Value.nilFunc, Value.nilFunc, Value.nilFunc, Value.nilFunc, Value.nilFunc, Value.nilFunc, Value.nilFunc, Value.nilFunc, Value.nilFunc, Value.nilFunc, Value.nilFunc, Value.nilFunc, Value.nilFunc, Value.nilFunc, Value.nilFunc, Value.nilFunc, Value.nilFunc, Value.nilFunc, Value.nilFunc, Value.nilFunc, Value.nilFunc] (heap_alloc_new w3 _) (by rw [List.size_toArray, waysV_len]; exact sizeTW) (waysV_len 22).symm (waysV_one 22) ?_; intro w4 hh4 hg4; have HWY := Lib.hid (ways_at hh4); have hb4 := below_grown (Below.alloc hb1 hb1.size _) hg4 (fun k e => by injection e with e; have := hb1.size; omega); replace HF := Lib.hid (keep_at hg4 ((heap_alloc_old w3 _ hlt3).trans HF.out) (fun e => by injection e with e; omega)); have hq6 := lt_of_block hh4; clear hh4 hg4; (try simp only [Act.put, qz4, qz5, qz6])) | (go_at_call 24; (with_reducible refine (New_any (X := fun k => k < w5.heap.size) w5 (fun k h => h)).mono ?_); rintro _ w6 ⟨gb, rfl, hG6, hb6⟩) | ((with_reducible refine wl_id ?_); refine wl_bld (cells := (bcells (.slice none 0 0) (.int .i64 0) (.slice none 0 0) (nilV 16) (nilV 8) (.slice (some ⟨b0, off, none⟩) ls.length cap) (.slice none 0 0) gb).toArray) rfl 71 _ rfl (by kernel_rfl) ?_; (try simp only [Act.put, qz4, qz5, qz6])) | go_step3 | ((with_reducible show Exit.noGoto _ _ _ _); simp only [Exit.noGoto_normal, Exit.noGoto_exit, Exit.noGoto_ret]) | go_values | go_skip | go_guarded | go_step | go_upon | go_back | ((with_reducible show Oper.upon _ _ _ _ _ _); go_simp) | (dsimp only)))
  have hq5 : w3.heap.size < w5.heap.size := World.block_lt_of_cell? w5 _ (HWY.out 0 (by decide))
  have hbb := hb6.size
  refine wp_abs (fun u => OfR ls 0 w5 w6.heap.size gb w5.heap.size (.slice (some ⟨b0, off, none⟩) ls.length cap) u) (ofr_start ls hG6 hb6) ?_
  clear hG6 hb6 hb1 hlt3 hq6
  intro w7 hR7
  have HR7 := Lib.hid hR7
  clear hR7
  generalize w6.heap.size = bb at *
  generalize w3.heap.size = q6 at *
  go_loopw [8, 34] (fun e8 i wr => ∃ k : Nat, k ≤ ls.length ∧ e8 = .int .i64 0 ∧ i = .int .i64 k ∧ Hid (OfR ls k w5 bb gb w5.heap.size (.slice (some ⟨b0, off, none⟩) ls.length cap) wr)) (fun _ i _ => ls.length - (intOf i).toNat)
  case atStart => exact ⟨0, Nat.zero_le _, rfl, rfl, HR7⟩
  case round =>
    clear HR7
    obtain ⟨k, hk, rfl, rfl, HR⟩ := hrel
    obtain ⟨X, iv, rv, vs, wv, hB, hXB, hBb, hbase, hK⟩ := HR.out
    clear HR
    obtain ⟨aw, cw, rfl⟩ := ownsRow_shape hB.row
    have hbw : Below w.heap.size w wr := hb4.trans ((hK.toBelow (Nat.le_refl _) fun _ h => h).mono hb4.size)
    rcases Nat.lt_or_ge k ls.length with hlt | hge
    · obtain ⟨d, hd⟩ : ∃ d, ls[k]? = some d := ⟨_, List.getElem?_eq_getElem hlt⟩
      have hi := Lib.hid hd
      obtain ⟨s, hs⟩ := blast_ok (I := fun _ => 0) (R := fun _ => 0) hT (fun _ => by decide) (fun _ => by decide) k hk
      obtain ⟨s', hst⟩ := step_ok hT hs hd (fun _ => by decide) (fun _ => by decide)
      obtain ⟨j, f, hj, hj25, hwj, hent, HF2⟩ := way_any hT hs hd (hwf d (List.mem_of_getElem? hd)) (hn k hk)
      have hwl := hst.wd.len
      have hdw := (hT k d hd).wd fun a ha => hT.wd a (by omega)
      have hbk : bK ls (k + 1) = .push (bword (bK ls k) d) := by rw [bK, hd]
      have hrw := hst.ws
      obtain ⟨r, hr⟩ : ∃ r, bword (bK ls k) d = r := ⟨_, rfl⟩
      rw [hr] at hwl hbk hrw HF2
      obtain ⟨N, hN⟩ : ∃ N, r.2.length = N := ⟨_, rfl⟩
      have hN1 : 1 ≤ N := by omega
      have fN : ((N : Int) == 0) = false := by simp; omega
      have HF3 := Lib.hid HF2
      have HENT := Lib.hid hent
      have HBK := Lib.hid hbk
      have HRW := Lib.hid hrw
      have HN := Lib.hid hN
      have HJ := Lib.hid hj
      have HWJ := Lib.hid hwj
      clear hent hs hst hd hwl hdw hr HF2 hbk hrw hN hj hwj
      have HRn := HR0.below hbw
      (repeat (first | (with_reducible first | refine xA ?_ | refine xB ?_ | refine xC ?_ | refine xD ?_ | refine xH ?_ | refine xI rfl ?_ | refine xE ?_ | refine xF ?_ | refine xG ?_) | go_skip | go_guarded | ((with_reducible refine wl_id ?_); refine wl_ldNdA HRn (by (repeat (first | with_reducible exact Below.refl _ _ | assumption | with_reducible refine below_drewN ?_ _ | with_reducible refine Below.drew ?_ | with_reducible refine Below.setRow ?_ ?_ _ | with_reducible refine Below.alloc ?_ ?_ _ | with_reducible refine Below.setCell ?_ ?_ _ | with_reducible exact Nat.le_refl _ | (focus (simp; done)) | (focus (simp; omega)) | omega))) k _ hi rfl _ rfl rfl ?_; simp only [Act.put, qz4, qz5, qz6]; (try dsimp only)) | go_values | go_skip | go_guarded | go_step | go_upon | go_back | ((with_reducible show Oper.upon _ _ _ _ _ _); go_simp) | (dsimp only)))
      refine wp_abs (fun u => Below wr.heap.size wr u ∧ RowAt 6 Nd.cells u wr.heap.size 0 [d]) ⟨by (repeat (first | with_reducible exact Below.refl _ _ | assumption | with_reducible refine below_drewN ?_ _ | with_reducible refine Below.drew ?_ | with_reducible refine Below.setRow ?_ ?_ _ | with_reducible refine Below.alloc ?_ ?_ _ | with_reducible refine Below.setCell ?_ ?_ _ | with_reducible exact Nat.le_refl _ | (focus (simp; done)) | (focus (simp; omega)) | omega)), row6 (by simp [go_sem]) (by simp [go_sem]) (by simp [go_sem]) (by simp [go_sem]) (by simp [go_sem]) (by simp [go_sem])⟩ ?_
      rintro u1 ⟨hbn, hRN⟩
      have hXq : X q6 := hXB q6 hq5
      have hqb : q6 ≠ bb := by omega
      have hcq := HWY.out j hj25
      rw [HWJ.out] at hcq
      have hcq1 := cell_keep hbn (hK.cell hcq hq5)
      refine wp_region_held (S := fun u => RowAt 6 Nd.cells u wr.heap.size 0 [d] ∧ u.cell? ⟨q6, j, none⟩ = some (.func (Fn.func f) #[] #[])) (by kernel_rfl) ?_
      replace hRN : RowAt 6 Nd.cells ({ u1 with drawn := u1.drawn + 1 } : World) wr.heap.size 0 [d] := hRN
      replace hcq1 : ({ u1 with drawn := u1.drawn + 1 } : World).cell? ⟨q6, j, none⟩ = some (.func (Fn.func f) #[] #[]) := hcq1
      replace hbn : Below wr.heap.size wr ({ u1 with drawn := u1.drawn + 1 } : World) := hbn.trans ⟨rfl, rfl, rfl, Nat.le_refl _, fun _ _ => rfl⟩
      generalize ({ u1 with drawn := u1.drawn + 1 } : World) = u0 at *
      have HSC := And.intro hRN hcq1
      have hlt0 := row_lt hRN
      clear hRN hcq1 hcq
      have hji : (j : Int) < 25 := by omega
      have hj0 : (0 : Int) ≤ (j : Int) := by omega
      obtain ⟨hO, hzq⟩ := hB.owned hbn (q := wr.heap.size) (Nat.le_refl _) hlt0
      have HCALL := Lib.hid (HF3.out _ _ _ _ _ _ _ _ _ u0 (Nat.le_trans hbase hbn.size) hO)
      refine wpAnyH_take (i := 0) (v := .pointer (some ⟨wr.heap.size, 0, none⟩)) rfl (by kernel_rfl) (by kernel_rfl) (by kernel_rfl) (fun _ _ _ h => h) (Or.inl ⟨rfl, fun w _ => by go_simp⟩) HSC ?_; simp only [Act.put, qz1, qz2, qz3, qz4, qz5, qz6]
      refine wpAnyH_take (i := 1) (v := .int .i64 (j : Nat)) rfl (by kernel_rfl) (by kernel_rfl) (by kernel_rfl) (fun _ _ _ h => h) (Or.inl ⟨rfl, fun w hw => by have n0 := (nd_cells hw.1).1; rw [HJ.out] at n0; go_simp⟩) HSC ?_
      simp only [Act.put, qz1, qz2, qz3, qz4, qz5, qz6]
      refine wpAnyH_take (i := 2) (v := .pointer (some ⟨q6, j, none⟩)) rfl (by kernel_rfl) (by kernel_rfl) (by kernel_rfl) (fun _ _ _ h => h) (Or.inl ⟨rfl, fun w _ => by go_simp⟩) HSC ?_; simp only [Act.put, qz1, qz2, qz3, qz4, qz5, qz6]
      refine wpAnyH_take (i := 3) (v := .func (Fn.func f) #[] #[]) rfl (by kernel_rfl) (by kernel_rfl) (by kernel_rfl) (fun _ _ _ h => h) (Or.inl ⟨rfl, fun w hw => by have h := hw.2; go_simp⟩) HSC ?_
      simp only [Act.put, qz1, qz2, qz3, qz4, qz5, qz6]
      refine wpAnyH_take (i := 4) (v := .pointer (some ⟨bb, 0, none⟩)) rfl (by kernel_rfl) (by kernel_rfl) (by kernel_rfl) (fun _ _ _ h => h) (Or.inl ⟨rfl, fun w _ => by go_simp⟩) HSC ?_; simp only [Act.put, qz1, qz2, qz3, qz4, qz5, qz6]
      refine wpAnyH_take (i := 5) (v := .agg #[.int .i64 d.op, .int .i64 d.w, .int .u64 d.n, .int .i64 d.k0, .int .i64 d.k1, .int .i64 d.k2]) rfl (by kernel_rfl) (by kernel_rfl) (by kernel_rfl) (fun _ _ _ h => h) (Or.inl ⟨rfl, fun w hw => by obtain ⟨n0, n1, n2, n3, n4, n5⟩ := nd_cells hw.1; go_simp⟩) HSC ?_
      simp only [Act.put, qz1, qz2, qz3, qz4, qz5, qz6]
      refine wpAnyH_all (rs := [6]) (by kernel_rfl) (by simp) (fun i hi => ?_)
      obtain rfl : i = 6 := by simpa using hi
      refine wpOp_one rfl ?_
      have hent : ∀ (args : Array Value) (w : World), (callFunc f args).run Tryz.prog w = .ok (.enter f args) w := HENT.out
      (repeat (first | (with_reducible first | refine xA ?_ | refine xB ?_ | refine xC ?_ | refine xD ?_ | refine xH ?_ | refine xI rfl ?_ | refine xE ?_ | refine xF ?_ | refine xG ?_) | go_skip | go_guarded | ((with_reducible refine HCALL.out.mono ?_); rintro _ w2 ⟨v1, Y, iv2, rv2, rfl, hXY, hB2, hS2, hK2⟩; (obtain ⟨a1, c1, rfl⟩ := slx_shape hS2 HN.out)) | go_values | go_skip | go_guarded | go_step | go_upon | go_back | ((with_reducible show Oper.upon _ _ _ _ _ _); go_simp) | (dsimp only)))
      have hne2 : wr.heap.size ≠ bb := fun e => hzq.2.1 e
      have hS3 := And.intro (row_kept HSC.1 hK2 ⟨.inr rfl, hne2⟩) (hK2.cell HSC.2 ⟨.inl hXq, hqb⟩)
      refine ⟨hS3, ?_⟩
      refine wpAnyH_all (rs := [7]) (by kernel_rfl) (by simp) (fun i hi => ?_)
      obtain rfl : i = 7 := by simpa using hi
      refine wpOp_one rfl ?_
      (repeat (first | (with_reducible first | refine xA ?_ | refine xB ?_ | refine xC ?_ | refine xD ?_ | refine xH ?_ | refine xI rfl ?_ | refine xE ?_ | refine xF ?_ | refine xG ?_) | go_values | go_skip | go_guarded | go_step | go_upon | go_back | ((with_reducible show Oper.upon _ _ _ _ _ _); go_simp) | (dsimp only)))
      refine ⟨hS3, ?_⟩
      refine wpAnyH_done (by kernel_rfl) ?_ _
      have hsz2 : w5.heap.size ≤ w2.heap.size := Nat.le_trans hbase (Nat.le_trans hbn.size hK2.size)
      have hK3 : Kept (fun j => j < w5.heap.size) w5 w2 := (hK.trans (Kept.below hbn fun j hj hx => Nat.lt_of_lt_of_le hx hbase)).trans (hK2.mono fun j hj hx => ⟨.inl (hXB j hx), by show j ≠ bb; have : j < w5.heap.size := hx; omega⟩)
      have hXY2 : ∀ j, j < w5.heap.size → Y j := fun j hj => hXY j (.inl (hXB j hj))
      have hvk : vs.length = k := by rw [hB2.words.1, HRW.out]; exact bK_ws hT k hk
      have hvm : vs.length ≤ 1000000 := by omega
      have hcw := hB2.cw
      clear hS3 HSC hK2 hXY hO hzq hlt0 hB hbn hK hXB hbase hXq hji hj0 hent
      have HB2 := Lib.hid hB2
      have HS2 := Lib.hid hS2
      have HK3 := Lib.hid hK3
      have HXY2 := Lib.hid hXY2
      have HVK := Lib.hid hvk
      clear hB2 hS2 hK3 hXY2 hvk HCALL
      (repeat (first | (with_reducible first | refine xA ?_ | refine xB ?_ | refine xC ?_ | refine xD ?_ | refine xH ?_ | refine xI rfl ?_ | refine xE ?_ | refine xF ?_ | refine xG ?_) | go_skip | go_guarded | ((with_reducible refine wl_id ?_); refine wl_pushS rfl _ _ rfl w5.heap.size (.slice aw vs.length cw) vs.length vs rfl (HB2.out.row.alloc _) w2.heap.size a1 N c1 rfl (cell_new w2 _ _) hvm (Nat.le_trans hsz2 (by simp)) ?_; intro wv9 w9 hO9 hg9 hl9; (obtain ⟨aw9, cw9, rfl⟩ := ownsRow_shape hO9); have hbx9 := keep_at hg9 (HB2.out.below (Below.alloc (Below.refl _ _) (Nat.le_refl _) _)).box (fun e => (HB2.out.xw bb e.symm).2 rfl); have hc9 := (cell_of_row w9 bb 29 _ _ _ hbx9).trans (by rw [List.getElem?_toArray, bc_end HB2.out.il HB2.out.rl 2]); have hf9 := frozen_of_row w9 bb 29 _ _ hbx9; clear hbx9; have HO9 := Lib.hid hO9; have HG9 := Lib.hid hg9; have HL9 := Lib.hid hl9; clear hO9 hg9 hl9; (try simp only [Act.put, qz4, qz5, qz6])) | go_step3 | ((with_reducible show Exit.noGoto _ _ _ _); simp only [Exit.noGoto_normal, Exit.noGoto_exit, Exit.noGoto_ret]) | go_values | go_skip | go_guarded | go_step | go_upon | go_back | ((with_reducible show Oper.upon _ _ _ _ _ _); go_simp) | (dsimp only)))
      have hR9 := ofr_next HBK.out HB2.out HS2.out HO9.out HG9.out HL9.out HXY2.out hBb hsz2 HK3.out
      exact ⟨⟨k + 1, by omega, rfl, by go_num, Lib.hid hR9⟩, by simp [intOf]; omega⟩
    · obtain rfl : k = ls.length := by omega
      obtain ⟨L, hL⟩ : ∃ L, ls.length = L + 1 := ⟨ls.length - 1, by have := List.length_pos_iff.2 hne; omega⟩
      have hwl := bK_ws hT ls.length (Nat.le_refl _)
      obtain ⟨s, hs⟩ := blast_ok (I := fun _ => 0) (R := fun _ => 0) hT (fun _ => by decide) (fun _ => by decide) ls.length (Nat.le_refl _)
      have hWL := hs.ws L (by omega)
      have hwd := hT.wd L (by omega)
      have hGI := hs.gi
      obtain ⟨qw, nw, cw', xw, mw, cx, hwv, hLn, hcl, hSl, hml⟩ := hB.word L (by omega)
      injection hwv with e1 e2 e3
      subst e1; subst e2; subst e3
      have hcw := hB.cw
      have HLm := Lib.hid (show ls.length - 1 = L by omega)
      have hbl : ((bK ls ls.length).at L).length ≤ 64 ∧ 1 ≤ ((bK ls ls.length).at L).length := by rw [hWL.len]; omega
      have HLN := Lib.hid (bK_leaf hT)
      have hlt5 := lt_of_block HF.out
      have HNR := Lib.hid (show ∀ x ∈ (bK ls ls.length).at L, x ≠ 0 from fun x hx => (hWL.isl x hx).1)
      have HNC := Lib.hid (show ∀ c ∈ (bK ls ls.length).g.cl, ∀ x ∈ c, x ≠ 0 from fun c hc x hx => (hGI.rng c hc x hx).1)
      generalize hbK : bK ls ls.length = b at *
      have HBK := Lib.hid hbK
      clear hbK
      have HNE := Lib.hid (show ∀ l ∈ b.g.cl, l ≠ [] from hGI.ne)
      have HLL := Lib.hid (show ∀ l ∈ b.g.cl, l.length ≤ 1000000 from fun c hc => by have := hGI.len c hc; omega)
      have HSL := Lib.hid hSl
      have hLi : (ls.length : Int) - 1 = (L : Int) := by omega
      have hLv : (L : Int) < (vs.length : Int) := by omega
      have HML := Lib.hid hml
      have HBL := Lib.hid hbl
      have hB' := hB
      have HB := Lib.hid hB
      have HK := Lib.hid hK
      have HXB := Lib.hid hXB
      clear hs hWL hwd hGI hSl hml hbl hwl hk hge hn hwf hB hK hXB hL hB'
      (repeat (first | (with_reducible first | refine xA ?_ | refine xB ?_ | refine xC ?_ | refine xD ?_ | refine xH ?_ | refine xI rfl ?_ | refine xE ?_ | refine xF ?_ | refine xG ?_) | go_skip | go_guarded | (go_at_call 25; (with_reducible refine (cloneX (.slice xw mw cx) (b.at L) wr HSL.out (by have := HBL.out; omega) (fun e => absurd e (fun e => by have := HBL.out; rw [e] at this; simp at this))).mono ?_); rintro _ w2 ⟨ar, cr, rfl, -, hSr, hb2⟩; have hF2 := HB.out.form.below hb2; have hc2 : w2.cell? ⟨bb, 2, none⟩ = some (.slice none 0 0) := hF2.cell 2; have hf2 := frozen_of_row w2 bb 2 _ _ hF2.box) | go_step3 | ((with_reducible show Exit.noGoto _ _ _ _); simp only [Exit.noGoto_normal, Exit.noGoto_exit, Exit.noGoto_ret]) | go_values | go_skip | go_guarded | go_step | go_upon | go_back | ((with_reducible show Oper.upon _ _ _ _ _ _); go_simp) | (dsimp only)))
      refine wp_abs (fun u => u = w2.setCell ⟨bb, 2, none⟩ (.slice ar (b.at L).length cr)) rfl ?_
      intro w3 e3
      have hF3 : FRep w3 bb gb b (.slice none 0 0) (.int .i64 0) (.slice ar (b.at L).length cr) (.slice (some ⟨b0, off, none⟩) ls.length cap) (.slice (some ⟨qw, 0, none⟩) vs.length cw) iv rv := by rw [e3]; exact hF2.set 2 _ rfl
      have hG3 : GR X w5.heap.size w3 gb b.g := by rw [e3]; exact (HB.out.gr.below hb2).other set_grown HB.out.xb
      have hSr3 : SlX (fun k => k ≠ bb) w3 (.slice ar (b.at L).length cr) (b.at L) := by
        rw [e3]
        exact (hSr.mono fun k _ hk => by show k ≠ bb; have := HB.out.lt; have : wr.heap.size ≤ k := hk; omega).kept set_kept
      have hK3 : Kept (fun j => j < w5.heap.size) w5 w3 := by
        rw [e3]
        exact (HK.out.trans (Kept.ofBelow hb2)).trans (set_kept.mono fun j _ hj => by show j ≠ bb; have : j < w5.heap.size := hj; omega)
      have hXB := HB.out.xb
      clear e3 hF2 hc2 hf2 hb2 hSr HSL HB HK HXB HML HBL hbw hcw hcl hLn hLv hLi
      have hcg := hF3.cell 28
      rw [bc_end hF3.il hF3.rl 1] at hcg
      refine wp_region_held (S := fun u => u.cell? ⟨bb, 28, none⟩ = some (.pointer (some ⟨gb, 0, none⟩))) (by kernel_rfl) ?_
      have hbd : Below w3.heap.size w3 ({ w3 with drawn := w3.drawn + 1 } : World) := ⟨rfl, rfl, rfl, Nat.le_refl _, fun _ _ => rfl⟩
      have HF3 := Lib.hid (hF3.below hbd)
      have hG4 := hG3.below hbd
      have HS3 := Lib.hid (hSr3.kept (Kept.ofBelow hbd))
      have HK3 := Lib.hid (hK3.trans (Kept.ofBelow hbd))
      have HSC : ({ w3 with drawn := w3.drawn + 1 } : World).cell? ⟨bb, 28, none⟩ = some (.pointer (some ⟨gb, 0, none⟩)) := hcg
      clear hcg hF3 hG3 hSr3 hK3 hbd
      generalize ({ w3 with drawn := w3.drawn + 1 } : World) = u0 at *
      refine wpAnyH_take (i := 0) (v := .pointer (some ⟨bb, 0, none⟩)) rfl (by kernel_rfl) (by kernel_rfl) (by kernel_rfl) (fun _ _ _ h => h) (Or.inl ⟨rfl, fun w _ => by go_simp⟩) HSC ?_; simp only [Act.put, qz1, qz2, qz3, qz4, qz5, qz6]
      refine wpAnyH_take (i := 1) (v := .pointer (some ⟨bb, 0, none⟩)) rfl (by kernel_rfl) (by kernel_rfl) (by kernel_rfl) (fun _ _ _ h => h) (Or.inl ⟨rfl, fun w _ => by go_simp⟩) HSC ?_; simp only [Act.put, qz1, qz2, qz3, qz4, qz5, qz6]
      refine wpAnyH_take (i := 2) (v := .pointer (some ⟨bb, 0, none⟩)) rfl (by kernel_rfl) (by kernel_rfl) (by kernel_rfl) (fun _ _ _ h => h) (Or.inl ⟨rfl, fun w _ => by go_simp⟩) HSC ?_; simp only [Act.put, qz1, qz2, qz3, qz4, qz5, qz6]
      refine wpAnyH_take (i := 3) (v := .pointer (some ⟨bb, 0, none⟩)) rfl (by kernel_rfl) (by kernel_rfl) (by kernel_rfl) (fun _ _ _ h => h) (Or.inl ⟨rfl, fun w _ => by go_simp⟩) HSC ?_; simp only [Act.put, qz1, qz2, qz3, qz4, qz5, qz6]
      refine wpAnyH_take (i := 4) (v := .pointer (some ⟨bb, 28, none⟩)) rfl (by kernel_rfl) (by kernel_rfl) (by kernel_rfl) (fun _ _ _ h => h) (Or.inl ⟨rfl, fun w _ => by go_simp⟩) HSC ?_; simp only [Act.put, qz1, qz2, qz3, qz4, qz5, qz6]
      refine wpAnyH_take (i := 5) (v := .pointer (some ⟨gb, 0, none⟩)) rfl (by kernel_rfl) (by kernel_rfl) (by kernel_rfl) (fun _ _ _ h => h) (Or.inl ⟨rfl, fun w hw => by have h := hw; go_simp⟩) HSC ?_
      simp only [Act.put, qz1, qz2, qz3, qz4, qz5, qz6]
      refine wpAnyH_take (i := 7) (v := .pointer (some ⟨bb, 0, none⟩)) rfl (by kernel_rfl) (by kernel_rfl) (by kernel_rfl) (fun _ _ _ h => h) (Or.inl ⟨rfl, fun w _ => by go_simp⟩) HSC ?_; simp only [Act.put, qz1, qz2, qz3, qz4, qz5, qz6]
      refine wpAnyH_take (i := 8) (v := .pointer (some ⟨bb, 0, none⟩)) rfl (by kernel_rfl) (by kernel_rfl) (by kernel_rfl) (fun _ _ _ h => h) (Or.inl ⟨rfl, fun w _ => by go_simp⟩) HSC ?_; simp only [Act.put, qz1, qz2, qz3, qz4, qz5, qz6]
      refine wpAnyH_take (i := 9) (v := .pointer (some ⟨bb, 28, none⟩)) rfl (by kernel_rfl) (by kernel_rfl) (by kernel_rfl) (fun _ _ _ h => h) (Or.inl ⟨rfl, fun w _ => by go_simp⟩) HSC ?_; simp only [Act.put, qz1, qz2, qz3, qz4, qz5, qz6]
      refine wpAnyH_take (i := 10) (v := .pointer (some ⟨gb, 0, none⟩)) rfl (by kernel_rfl) (by kernel_rfl) (by kernel_rfl) (fun _ _ _ h => h) (Or.inl ⟨rfl, fun w hw => by have h := hw; go_simp⟩) HSC ?_
      simp only [Act.put, qz1, qz2, qz3, qz4, qz5, qz6]
      refine wpAnyH_all (rs := [6]) (by kernel_rfl) (by simp) (fun i hi => ?_)
      obtain rfl : i = 6 := by simpa using hi
      refine wpOp_one rfl ?_
      (repeat (first | (with_reducible first | refine xA ?_ | refine xB ?_ | refine xC ?_ | refine xD ?_ | refine xH ?_ | refine xI rfl ?_ | refine xE ?_ | refine xF ?_ | refine xG ?_) | go_skip | go_guarded | (go_at_call 26; (with_reducible refine (Clauses_any u0 hG4 HNE.out HLL.out).mono ?_); rintro _ u4 ⟨rfl, ⟨cs, hO4, hC4⟩, hG5, hb4'⟩) | go_values | go_skip | go_guarded | go_step | go_upon | go_back | ((with_reducible show Oper.upon _ _ _ _ _ _); go_simp) | (dsimp only)))
      have hSC4 := cell_keep hb4' HSC
      have hubb := HF3.out.lt
      have HCM := Lib.hid (show b.g.cl.length ≤ 4194304 by obtain ⟨_, _, _, _, _, hm, _⟩ := hG4.clauses; exact hm)
      have HO4 := Lib.hid hO4
      have HC4 := Lib.hid hC4
      have HF4 := Lib.hid (HF3.out.below hb4')
      have HS4 := Lib.hid (HS3.out.kept (Kept.ofBelow hb4'))
      have HK4 := Lib.hid (HK3.out.trans (Kept.ofBelow hb4'))
      clear hO4 hC4 HSC HF3 HS3 HK3 hb4' hG4
      refine ⟨hSC4, ?_⟩
      refine wpAnyH_all (rs := [11]) (by kernel_rfl) (by simp) (fun i hi => ?_)
      obtain rfl : i = 11 := by simpa using hi
      refine wpOp_one rfl ?_
      (repeat (first | (with_reducible first | refine xA ?_ | refine xB ?_ | refine xC ?_ | refine xD ?_ | refine xH ?_ | refine xI rfl ?_ | refine xE ?_ | refine xF ?_ | refine xG ?_) | go_skip | go_guarded | (go_at_call 27; (with_reducible refine (Vars_any _ hG5).mono ?_); rintro _ u5 ⟨rfl, rfl⟩) | go_values | go_skip | go_guarded | go_step | go_upon | go_back | ((with_reducible show Oper.upon _ _ _ _ _ _); go_simp) | (dsimp only)))
      refine ⟨hSC4, ?_⟩
      refine wpAnyH_take (i := 12) (v := .pointer (some ⟨bb, 0, none⟩)) rfl (by kernel_rfl) (by kernel_rfl) (by kernel_rfl) (fun _ _ _ h => h) (Or.inl ⟨rfl, fun w _ => by go_simp⟩) hSC4 ?_
      simp only [Act.put, qz1, qz2, qz3, qz4, qz5, qz6]
      refine wpAnyH_take (i := 13) (v := .pointer (some ⟨bb, 0, none⟩)) rfl (by kernel_rfl) (by kernel_rfl) (by kernel_rfl) (fun _ _ _ h => h) (Or.inl ⟨rfl, fun w _ => by go_simp⟩) hSC4 ?_
      simp only [Act.put, qz1, qz2, qz3, qz4, qz5, qz6]
      refine wpAnyH_take (i := 14) (v := .pointer (some ⟨bb, 0, none⟩)) rfl (by kernel_rfl) (by kernel_rfl) (by kernel_rfl) (fun _ _ _ h => h) (Or.inl ⟨rfl, fun w _ => by go_simp⟩) hSC4 ?_
      simp only [Act.put, qz1, qz2, qz3, qz4, qz5, qz6]
      have hc0 : u5.cell? ⟨bb, 0, none⟩ = some (.slice none 0 0) := HF4.out.cell 0
      have hf0 := frozen_of_row u5 bb 0 _ _ HF4.out.box
      refine wpAnyH_all (rs := [15]) (by kernel_rfl) (by simp) (fun i hi => ?_)
      obtain rfl : i = 15 := by simpa using hi
      refine wpOp_one rfl ?_
      (repeat (first | (with_reducible first | refine xA ?_ | refine xB ?_ | refine xC ?_ | refine xD ?_ | refine xH ?_ | refine xI rfl ?_ | refine xE ?_ | refine xF ?_ | refine xG ?_) | go_values | go_skip | go_guarded | go_step | go_upon | go_back | ((with_reducible show Oper.upon _ _ _ _ _ _); go_simp) | (dsimp only)))
      have hSC5 : (u5.setCell ⟨bb, 0, none⟩ (.slice (some ⟨u0.heap.size, 0, none⟩) b.g.cl.length b.g.cl.length)).cell? ⟨bb, 28, none⟩ = some (.pointer (some ⟨gb, 0, none⟩)) := by
        rw [(HF4.out.set 0 (.slice (some ⟨u0.heap.size, 0, none⟩) b.g.cl.length b.g.cl.length) rfl).cell 28, bc_end HF4.out.il HF4.out.rl 1]
        rfl
      refine ⟨hSC5, ?_⟩
      refine wpAnyH_take (i := 16) (v := .pointer (some ⟨bb, 0, none⟩)) rfl (by kernel_rfl) (by kernel_rfl) (by kernel_rfl) (fun _ _ _ h => h) (Or.inl ⟨rfl, fun w _ => by go_simp⟩) hSC5 ?_
      simp only [Act.put, qz1, qz2, qz3, qz4, qz5, qz6]
      refine wpAnyH_take (i := 17) (v := .pointer (some ⟨bb, 0, none⟩)) rfl (by kernel_rfl) (by kernel_rfl) (by kernel_rfl) (fun _ _ _ h => h) (Or.inl ⟨rfl, fun w _ => by go_simp⟩) hSC5 ?_
      simp only [Act.put, qz1, qz2, qz3, qz4, qz5, qz6]
      refine wpAnyH_take (i := 18) (v := .pointer (some ⟨bb, 1, none⟩)) rfl (by kernel_rfl) (by kernel_rfl) (by kernel_rfl) (fun _ _ _ h => h) (Or.inl ⟨rfl, fun w _ => by go_simp⟩) hSC5 ?_
      simp only [Act.put, qz1, qz2, qz3, qz4, qz5, qz6]
      have HF6 := Lib.hid (HF4.out.set 0 (.slice (some ⟨u0.heap.size, 0, none⟩) b.g.cl.length b.g.cl.length) rfl)
      have hc1 : (u5.setCell ⟨bb, 0, none⟩ (.slice (some ⟨u0.heap.size, 0, none⟩) b.g.cl.length b.g.cl.length)).cell? ⟨bb, 1, none⟩ = some (.int .i64 0) := HF6.out.cell 1
      have hf1 := frozen_of_row (u5.setCell ⟨bb, 0, none⟩ (.slice (some ⟨u0.heap.size, 0, none⟩) b.g.cl.length b.g.cl.length)) bb 1 _ _ HF6.out.box
      refine wpAnyH_all (rs := [19]) (by kernel_rfl) (by simp) (fun i hi => ?_)
      obtain rfl : i = 19 := by simpa using hi
      refine wpOp_one rfl ?_
      (repeat (first | (with_reducible first | refine xA ?_ | refine xB ?_ | refine xC ?_ | refine xD ?_ | refine xH ?_ | refine xI rfl ?_ | refine xE ?_ | refine xF ?_ | refine xG ?_) | go_values | go_skip | go_guarded | go_step | go_upon | go_back | ((with_reducible show Oper.upon _ _ _ _ _ _); go_simp) | (dsimp only)))
      have hF7 := HF6.out.set 1 (.int .i64 b.g.n) rfl
      have hK7 : Kept (fun k => k ≠ bb) u5 ((u5.setCell ⟨bb, 0, none⟩ (.slice (some ⟨u0.heap.size, 0, none⟩) b.g.cl.length b.g.cl.length)).setCell ⟨bb, 1, none⟩ (.int .i64 b.g.n)) := set_kept.trans set_kept
      refine ⟨(hF7.cell 28).trans (by rw [bc_end HF4.out.il HF4.out.rl 1]; rfl), ?_⟩
      refine wpAnyH_done (by kernel_rfl) ?_ _
      have hFR : FR2 w5 ((u5.setCell ⟨bb, 0, none⟩ (.slice (some ⟨u0.heap.size, 0, none⟩) b.g.cl.length b.g.cl.length)).setCell ⟨bb, 1, none⟩ (.int .i64 b.g.n)) bb gb b u0.heap.size cs (.slice ar (b.at L).length cr) (.slice (some ⟨b0, off, none⟩) ls.length cap) (.slice (some ⟨qw, 0, none⟩) vs.length cw) (b.at L) iv rv :=
        ⟨hF7, HO4.out.kept hK7 (by omega), by omega, (HC4.out.mono fun k _ hk => by show k ≠ bb; have : u0.heap.size < k := hk; omega).kept hK7, HS4.out.kept hK7, HK4.out.trans (hK7.mono fun j _ hj => by show j ≠ bb; have : j < w5.heap.size := hj; omega), hBb⟩
      have HFR := Lib.hid hFR
      clear hFR hK7 hF7 HF6 hc1 hf1 hSC5 hc0 hf0 HF4 HS4 HK4 HC4 HO4 hSC4 hG5 hXB
      generalize ((u5.setCell ⟨bb, 0, none⟩ (.slice (some ⟨u0.heap.size, 0, none⟩) b.g.cl.length b.g.cl.length)).setCell ⟨bb, 1, none⟩ (.int .i64 b.g.n)) = w7 at *
      generalize u0.heap.size = qc at *
      obtain ⟨root, hroot⟩ : ∃ root, b.at (L : Int) = root := ⟨_, rfl⟩
      have HRT := Lib.hid (show b.at ((ls.length - 1 : Nat) : Int) = root by rw [HLm.out]; exact hroot)
      have hfr := HFR.out
      rw [hroot] at hfr
      replace HFR := Lib.hid hfr
      have hnr := HNR.out
      rw [hroot] at hnr
      replace HNR := Lib.hid hnr
      clear hnr
      clear hfr hroot
      (repeat (first | (with_reducible first | refine xA ?_ | refine xB ?_ | refine xC ?_ | refine xD ?_ | refine xH ?_ | refine xI rfl ?_ | refine xE ?_ | refine xF ?_ | refine xG ?_) | go_skip | go_guarded | go_step3 | ((with_reducible show Exit.noGoto _ _ _ _); simp only [Exit.noGoto_normal, Exit.noGoto_exit, Exit.noGoto_ret]) | go_values | go_skip | go_guarded | go_step | go_upon | go_back | ((with_reducible show Oper.upon _ _ _ _ _ _); go_simp) | (dsimp only)))
      go_loopw [95] (fun i wr => ∃ (k : Nat) (iv2 : List Value), k ≤ 16 ∧ i = .int .i64 k ∧ Hid (FR2 w5 wr bb gb b qc cs (.slice ar root.length cr) (.slice (some ⟨b0, off, none⟩) ls.length cap) (.slice (some ⟨qw, 0, none⟩) vs.length cw) root iv2 rv)) (fun i _ => 16 - (intOf i).toNat)
      case atStart => exact ⟨0, _, Nat.zero_le _, rfl, HFR⟩
      case round =>
        clear HFR
        obtain ⟨k, iv2, hk, rfl, HFR⟩ := hrel
        rcases Nat.lt_or_ge k 16 with hlt | hge
        · have hil := HFR.out.f.il
          have hbl := HFR.out.f.inp.1
          obtain ⟨v, hv⟩ : ∃ v, iv2[k]? = some v := ⟨_, List.getElem?_eq_getElem (by omega)⟩
          obtain ⟨l, hl⟩ : ∃ l, b.inp[k]? = some l := ⟨_, List.getElem?_eq_getElem (by omega)⟩
          have hS := HFR.out.f.inp.2 k v l hv hl
          have hnil := HFR.out.f.ni k v hv
          obtain ⟨ao, c, rfl⟩ := hS.shape
          have hll : l.length ≤ 1000000 := (HLN.out l (.inl (List.mem_of_getElem? hl))).1
          have HCL := Lib.hid (fun u (hb : Below wr.heap.size wr u) => cloneX (.slice ao l.length c) l u (hS.kept (Kept.ofBelow hb)) hll (fun e => hnil (by rw [hl, e])))
          have HL := Lib.hid hl
          have HV := Lib.hid hv
          have hki : (k : Int) < 16 := by omega
          have hk0 : (0 : Int) ≤ (k : Int) := by omega
          have hlt2 := HFR.out.f.lt
          clear hS hnil hl hv hll
          (repeat (first | (with_reducible first | refine xA ?_ | refine xB ?_ | refine xC ?_ | refine xD ?_ | refine xH ?_ | refine xI rfl ?_ | refine xE ?_ | refine xF ?_ | refine xG ?_) | go_values | go_skip | go_guarded | go_step | go_upon | go_back | ((with_reducible show Oper.upon _ _ _ _ _ _); go_simp) | (dsimp only)))
          refine wp_region_held (S := fun _ => True) (by kernel_rfl) ?_
          have hbd : Below wr.heap.size wr ({ wr with drawn := wr.drawn + 1 } : World) := ⟨rfl, rfl, rfl, Nat.le_refl _, fun _ _ => rfl⟩
          have hcell : ({ wr with drawn := wr.drawn + 1 } : World).cell? ⟨bb, 3 + k, none⟩ = some (.slice ao l.length c) := HFR.out.f.ci HV.out
          generalize ({ wr with drawn := wr.drawn + 1 } : World) = u0 at *
          have HSC : (fun _ : World => True) u0 := trivial
          refine wpAnyH_take (i := 0) (v := .pointer (some ⟨bb, 0, none⟩)) rfl (by kernel_rfl) (by kernel_rfl) (by kernel_rfl) (fun _ _ _ h => h) (Or.inl ⟨rfl, fun w _ => by go_simp⟩) HSC ?_
          simp only [Act.put, qz1, qz2, qz3, qz4, qz5, qz6]
          refine wpAnyH_take (i := 1) (v := .int .i64 (k : Nat)) rfl (by kernel_rfl) (by kernel_rfl) (by kernel_rfl) (fun _ _ _ h => h) (Or.inl ⟨rfl, fun w _ => by go_simp⟩) HSC ?_
          simp only [Act.put, qz1, qz2, qz3, qz4, qz5, qz6]
          refine wpAnyH_take (i := 2) (v := .pointer (some ⟨bb, 0, none⟩)) rfl (by kernel_rfl) (by kernel_rfl) (by kernel_rfl) (fun _ _ _ h => h) (Or.inl ⟨rfl, fun w _ => by go_simp⟩) HSC ?_
          simp only [Act.put, qz1, qz2, qz3, qz4, qz5, qz6]
          refine wpAnyH_take (i := 3) (v := .int .i64 (k : Nat)) rfl (by kernel_rfl) (by kernel_rfl) (by kernel_rfl) (fun _ _ _ h => h) (Or.inl ⟨rfl, fun w _ => by go_simp⟩) HSC ?_
          simp only [Act.put, qz1, qz2, qz3, qz4, qz5, qz6]
          refine wpAnyH_take (i := 4) (v := .pointer (some ⟨bb, 0, none⟩)) rfl (by kernel_rfl) (by kernel_rfl) (by kernel_rfl) (fun _ _ _ h => h) (Or.inl ⟨rfl, fun w _ => by go_simp⟩) HSC ?_
          simp only [Act.put, qz1, qz2, qz3, qz4, qz5, qz6]
          refine wpAnyH_take (i := 5) (v := .pointer (some ⟨bb, 0, none⟩)) rfl (by kernel_rfl) (by kernel_rfl) (by kernel_rfl) (fun _ _ _ h => h) (Or.inl ⟨rfl, fun w _ => by go_simp⟩) HSC ?_
          simp only [Act.put, qz1, qz2, qz3, qz4, qz5, qz6]
          refine wpAnyH_take (i := 6) (v := .pointer (some ⟨bb, 3, none⟩)) rfl (by kernel_rfl) (by kernel_rfl) (by kernel_rfl) (fun _ _ _ h => h) (Or.inl ⟨rfl, fun w _ => by go_simp⟩) HSC ?_
          simp only [Act.put, qz1, qz2, qz3, qz4, qz5, qz6]
          refine wpAnyH_take (i := 7) (v := .pointer (some ⟨bb, 3 + k, none⟩)) rfl (by kernel_rfl) (by kernel_rfl) (by kernel_rfl) (fun _ _ _ h => h) (Or.inl ⟨rfl, fun w _ => by go_simp⟩) HSC ?_
          simp only [Act.put, qz1, qz2, qz3, qz4, qz5, qz6]
          refine wpAnyH_take (i := 10) (v := .pointer (some ⟨bb, 0, none⟩)) rfl (by kernel_rfl) (by kernel_rfl) (by kernel_rfl) (fun _ _ _ h => h) (Or.inl ⟨rfl, fun w _ => by go_simp⟩) HSC ?_
          simp only [Act.put, qz1, qz2, qz3, qz4, qz5, qz6]
          refine wpAnyH_take (i := 11) (v := .pointer (some ⟨bb, 0, none⟩)) rfl (by kernel_rfl) (by kernel_rfl) (by kernel_rfl) (fun _ _ _ h => h) (Or.inl ⟨rfl, fun w _ => by go_simp⟩) HSC ?_
          simp only [Act.put, qz1, qz2, qz3, qz4, qz5, qz6]
          refine wpAnyH_take (i := 12) (v := .pointer (some ⟨bb, 3, none⟩)) rfl (by kernel_rfl) (by kernel_rfl) (by kernel_rfl) (fun _ _ _ h => h) (Or.inl ⟨rfl, fun w _ => by go_simp⟩) HSC ?_
          simp only [Act.put, qz1, qz2, qz3, qz4, qz5, qz6]
          refine wpAnyH_all (rs := [8]) (by kernel_rfl) (by simp) (fun i hi => ?_)
          obtain rfl : i = 8 := by simpa using hi
          refine wpOp_one rfl ?_
          (repeat (first | (with_reducible first | refine xA ?_ | refine xB ?_ | refine xC ?_ | refine xD ?_ | refine xH ?_ | refine xI rfl ?_ | refine xE ?_ | refine xF ?_ | refine xG ?_) | go_values | go_skip | go_guarded | go_step | go_upon | go_back | ((with_reducible show Oper.upon _ _ _ _ _ _); go_simp) | (dsimp only)))
          refine ⟨trivial, ?_⟩
          refine wpAnyH_all (rs := [9]) (by kernel_rfl) (by simp) (fun i hi => ?_)
          obtain rfl : i = 9 := by simpa using hi
          refine wpOp_one rfl ?_
          (repeat (first | (with_reducible first | refine xA ?_ | refine xB ?_ | refine xC ?_ | refine xD ?_ | refine xH ?_ | refine xI rfl ?_ | refine xE ?_ | refine xF ?_ | refine xG ?_) | go_skip | go_guarded | (go_at_call 25; (with_reducible refine (HCL.out _ hbd).mono ?_); rintro _ u2 ⟨a2, c2, rfl, hn2, hS2, hb2⟩) | go_values | go_skip | go_guarded | go_step | go_upon | go_back | ((with_reducible show Oper.upon _ _ _ _ _ _); go_simp) | (dsimp only)))
          have hSC2 := cell_keep hb2 hcell
          have HS9 : (fun _ : World => True) u2 := trivial
          have HF2 := Lib.hid (HFR.out.below (hbd.trans (hb2.mono hbd.size)))
          have HS2 := Lib.hid (hS2.mono (Y := fun k => k ≠ bb) fun j _ hj => by show j ≠ bb; have := hbd.size; have : u0.heap.size ≤ j := hj; omega)
          have HN2 := Lib.hid hn2
          have hf2 := frozen_of_row u2 bb (3 + k) _ _ HF2.out.f.box
          clear HFR HCL hS2 hn2 hb2 hbd HSC hcell
          refine ⟨trivial, ?_⟩
          refine wpAnyH_take (i := 13) (v := .pointer (some ⟨bb, 3 + k, none⟩)) rfl (by kernel_rfl) (by kernel_rfl) (by kernel_rfl) (fun _ _ _ h => h) (Or.inl ⟨rfl, fun w _ => by go_simp⟩) HS9 ?_
          simp only [Act.put, qz1, qz2, qz3, qz4, qz5, qz6]
          refine wpAnyH_all (rs := [14]) (by kernel_rfl) (by simp) (fun i hi => ?_)
          obtain rfl : i = 14 := by simpa using hi
          refine wpOp_one rfl ?_
          (repeat (first | (with_reducible first | refine xA ?_ | refine xB ?_ | refine xC ?_ | refine xD ?_ | refine xH ?_ | refine xI rfl ?_ | refine xE ?_ | refine xF ?_ | refine xG ?_) | go_values | go_skip | go_guarded | go_step | go_upon | go_back | ((with_reducible show Oper.upon _ _ _ _ _ _); go_simp) | (dsimp only)))
          have hF9 := HF2.out.setI hlt HL.out HS2.out HN2.out
          refine ⟨trivial, ?_⟩
          refine wpAnyH_done (by kernel_rfl) ?_ _
          have HF9 := Lib.hid hF9
          clear hF9
          (repeat (first | (with_reducible first | refine xA ?_ | refine xB ?_ | refine xC ?_ | refine xD ?_ | refine xH ?_ | refine xI rfl ?_ | refine xE ?_ | refine xF ?_ | refine xG ?_) | go_values | go_skip | go_guarded | go_step | go_upon | go_back | ((with_reducible show Oper.upon _ _ _ _ _ _); go_simp) | (dsimp only)))
          exact ⟨⟨k + 1, _, by omega, by go_num, HF9⟩, by simp [intOf]; omega⟩
        · have hkn16 : ¬ ((k : Int) < 16) := by omega
          obtain ⟨k16, rfl⟩ : ∃ k16, k16 = k := ⟨_, rfl⟩
          clear hk hge
          (repeat (first | (with_reducible first | refine xA ?_ | refine xB ?_ | refine xC ?_ | refine xD ?_ | refine xH ?_ | refine xI rfl ?_ | refine xE ?_ | refine xF ?_ | refine xG ?_) | go_skip | go_guarded | go_step3 | ((with_reducible show Exit.noGoto _ _ _ _); simp only [Exit.noGoto_normal, Exit.noGoto_exit, Exit.noGoto_ret]) | go_values | go_skip | go_guarded | go_step | go_upon | go_back | ((with_reducible show Oper.upon _ _ _ _ _ _); go_simp) | (dsimp only)))
          go_loopw [113] (fun i wr => ∃ (k : Nat) (rv2 : List Value), k ≤ 8 ∧ i = .int .i64 k ∧ Hid (FR2 w5 wr bb gb b qc cs (.slice ar root.length cr) (.slice (some ⟨b0, off, none⟩) ls.length cap) (.slice (some ⟨qw, 0, none⟩) vs.length cw) root iv2 rv2)) (fun i _ => 8 - (intOf i).toNat)
          case atStart => exact ⟨0, _, Nat.zero_le _, rfl, HFR⟩
          case round =>
            clear HFR
            obtain ⟨k, rv2, hk, rfl, HFR⟩ := hrel
            rcases Nat.lt_or_ge k 8 with hlt | hge
            · have hil := HFR.out.f.rl
              have hbl := HFR.out.f.reg.1
              obtain ⟨v, hv⟩ : ∃ v, rv2[k]? = some v := ⟨_, List.getElem?_eq_getElem (by omega)⟩
              obtain ⟨l, hl⟩ : ∃ l, b.reg[k]? = some l := ⟨_, List.getElem?_eq_getElem (by omega)⟩
              have hS := HFR.out.f.reg.2 k v l hv hl
              have hnil := HFR.out.f.nr k v hv
              obtain ⟨ao, c, rfl⟩ := hS.shape
              have hll : l.length ≤ 1000000 := (HLN.out l (.inr (List.mem_of_getElem? hl))).1
              have HCL := Lib.hid (fun u (hb : Below wr.heap.size wr u) => cloneX (.slice ao l.length c) l u (hS.kept (Kept.ofBelow hb)) hll (fun e => hnil (by rw [hl, e])))
              have HL := Lib.hid hl
              have HV := Lib.hid hv
              have hki : (k : Int) < 8 := by omega
              have hk0 : (0 : Int) ≤ (k : Int) := by omega
              have hlt2 := HFR.out.f.lt
              clear hS hnil hl hv hll
              (repeat (first | (with_reducible first | refine xA ?_ | refine xB ?_ | refine xC ?_ | refine xD ?_ | refine xH ?_ | refine xI rfl ?_ | refine xE ?_ | refine xF ?_ | refine xG ?_) | go_values | go_skip | go_guarded | go_step | go_upon | go_back | ((with_reducible show Oper.upon _ _ _ _ _ _); go_simp) | (dsimp only)))
              refine wp_region_held (S := fun _ => True) (by kernel_rfl) ?_
              have hbd : Below wr.heap.size wr ({ wr with drawn := wr.drawn + 1 } : World) := ⟨rfl, rfl, rfl, Nat.le_refl _, fun _ _ => rfl⟩
              have hcell : ({ wr with drawn := wr.drawn + 1 } : World).cell? ⟨bb, 19 + k, none⟩ = some (.slice ao l.length c) := HFR.out.f.cr HV.out
              generalize ({ wr with drawn := wr.drawn + 1 } : World) = u0 at *
              have HSC : (fun _ : World => True) u0 := trivial
              refine wpAnyH_take (i := 0) (v := .pointer (some ⟨bb, 0, none⟩)) rfl (by kernel_rfl) (by kernel_rfl) (by kernel_rfl) (fun _ _ _ h => h) (Or.inl ⟨rfl, fun w _ => by go_simp⟩) HSC ?_
              simp only [Act.put, qz1, qz2, qz3, qz4, qz5, qz6]
              refine wpAnyH_take (i := 1) (v := .int .i64 (k : Nat)) rfl (by kernel_rfl) (by kernel_rfl) (by kernel_rfl) (fun _ _ _ h => h) (Or.inl ⟨rfl, fun w _ => by go_simp⟩) HSC ?_
              simp only [Act.put, qz1, qz2, qz3, qz4, qz5, qz6]
              refine wpAnyH_take (i := 2) (v := .pointer (some ⟨bb, 0, none⟩)) rfl (by kernel_rfl) (by kernel_rfl) (by kernel_rfl) (fun _ _ _ h => h) (Or.inl ⟨rfl, fun w _ => by go_simp⟩) HSC ?_
              simp only [Act.put, qz1, qz2, qz3, qz4, qz5, qz6]
              refine wpAnyH_take (i := 3) (v := .int .i64 (k : Nat)) rfl (by kernel_rfl) (by kernel_rfl) (by kernel_rfl) (fun _ _ _ h => h) (Or.inl ⟨rfl, fun w _ => by go_simp⟩) HSC ?_
              simp only [Act.put, qz1, qz2, qz3, qz4, qz5, qz6]
              refine wpAnyH_take (i := 4) (v := .pointer (some ⟨bb, 0, none⟩)) rfl (by kernel_rfl) (by kernel_rfl) (by kernel_rfl) (fun _ _ _ h => h) (Or.inl ⟨rfl, fun w _ => by go_simp⟩) HSC ?_
              simp only [Act.put, qz1, qz2, qz3, qz4, qz5, qz6]
              refine wpAnyH_take (i := 5) (v := .pointer (some ⟨bb, 0, none⟩)) rfl (by kernel_rfl) (by kernel_rfl) (by kernel_rfl) (fun _ _ _ h => h) (Or.inl ⟨rfl, fun w _ => by go_simp⟩) HSC ?_
              simp only [Act.put, qz1, qz2, qz3, qz4, qz5, qz6]
              refine wpAnyH_take (i := 6) (v := .pointer (some ⟨bb, 19, none⟩)) rfl (by kernel_rfl) (by kernel_rfl) (by kernel_rfl) (fun _ _ _ h => h) (Or.inl ⟨rfl, fun w _ => by go_simp⟩) HSC ?_
              simp only [Act.put, qz1, qz2, qz3, qz4, qz5, qz6]
              refine wpAnyH_take (i := 7) (v := .pointer (some ⟨bb, 19 + k, none⟩)) rfl (by kernel_rfl) (by kernel_rfl) (by kernel_rfl) (fun _ _ _ h => h) (Or.inl ⟨rfl, fun w _ => by go_simp⟩) HSC ?_
              simp only [Act.put, qz1, qz2, qz3, qz4, qz5, qz6]
              refine wpAnyH_take (i := 10) (v := .pointer (some ⟨bb, 0, none⟩)) rfl (by kernel_rfl) (by kernel_rfl) (by kernel_rfl) (fun _ _ _ h => h) (Or.inl ⟨rfl, fun w _ => by go_simp⟩) HSC ?_
              simp only [Act.put, qz1, qz2, qz3, qz4, qz5, qz6]
              refine wpAnyH_take (i := 11) (v := .pointer (some ⟨bb, 0, none⟩)) rfl (by kernel_rfl) (by kernel_rfl) (by kernel_rfl) (fun _ _ _ h => h) (Or.inl ⟨rfl, fun w _ => by go_simp⟩) HSC ?_
              simp only [Act.put, qz1, qz2, qz3, qz4, qz5, qz6]
              refine wpAnyH_take (i := 12) (v := .pointer (some ⟨bb, 19, none⟩)) rfl (by kernel_rfl) (by kernel_rfl) (by kernel_rfl) (fun _ _ _ h => h) (Or.inl ⟨rfl, fun w _ => by go_simp⟩) HSC ?_
              simp only [Act.put, qz1, qz2, qz3, qz4, qz5, qz6]
              refine wpAnyH_all (rs := [8]) (by kernel_rfl) (by simp) (fun i hi => ?_)
              obtain rfl : i = 8 := by simpa using hi
              refine wpOp_one rfl ?_
              (repeat (first | (with_reducible first | refine xA ?_ | refine xB ?_ | refine xC ?_ | refine xD ?_ | refine xH ?_ | refine xI rfl ?_ | refine xE ?_ | refine xF ?_ | refine xG ?_) | go_values | go_skip | go_guarded | go_step | go_upon | go_back | ((with_reducible show Oper.upon _ _ _ _ _ _); go_simp) | (dsimp only)))
              refine ⟨trivial, ?_⟩
              refine wpAnyH_all (rs := [9]) (by kernel_rfl) (by simp) (fun i hi => ?_)
              obtain rfl : i = 9 := by simpa using hi
              refine wpOp_one rfl ?_
              (repeat (first | (with_reducible first | refine xA ?_ | refine xB ?_ | refine xC ?_ | refine xD ?_ | refine xH ?_ | refine xI rfl ?_ | refine xE ?_ | refine xF ?_ | refine xG ?_) | go_skip | go_guarded | (go_at_call 25; (with_reducible refine (HCL.out _ hbd).mono ?_); rintro _ u2 ⟨a2, c2, rfl, hn2, hS2, hb2⟩) | go_values | go_skip | go_guarded | go_step | go_upon | go_back | ((with_reducible show Oper.upon _ _ _ _ _ _); go_simp) | (dsimp only)))
              have hSC2 := cell_keep hb2 hcell
              have HS9 : (fun _ : World => True) u2 := trivial
              have HF2 := Lib.hid (HFR.out.below (hbd.trans (hb2.mono hbd.size)))
              have HS2 := Lib.hid (hS2.mono (Y := fun k => k ≠ bb) fun j _ hj => by show j ≠ bb; have := hbd.size; have : u0.heap.size ≤ j := hj; omega)
              have HN2 := Lib.hid hn2
              have hf2 := frozen_of_row u2 bb (19 + k) _ _ HF2.out.f.box
              clear HFR HCL hS2 hn2 hb2 hbd HSC hcell
              refine ⟨trivial, ?_⟩
              refine wpAnyH_take (i := 13) (v := .pointer (some ⟨bb, 19 + k, none⟩)) rfl (by kernel_rfl) (by kernel_rfl) (by kernel_rfl) (fun _ _ _ h => h) (Or.inl ⟨rfl, fun w _ => by go_simp⟩) HS9 ?_
              simp only [Act.put, qz1, qz2, qz3, qz4, qz5, qz6]
              refine wpAnyH_all (rs := [14]) (by kernel_rfl) (by simp) (fun i hi => ?_)
              obtain rfl : i = 14 := by simpa using hi
              refine wpOp_one rfl ?_
              (repeat (first | (with_reducible first | refine xA ?_ | refine xB ?_ | refine xC ?_ | refine xD ?_ | refine xH ?_ | refine xI rfl ?_ | refine xE ?_ | refine xF ?_ | refine xG ?_) | go_values | go_skip | go_guarded | go_step | go_upon | go_back | ((with_reducible show Oper.upon _ _ _ _ _ _); go_simp) | (dsimp only)))
              have hF9 := HF2.out.setR hlt HL.out HS2.out HN2.out
              refine ⟨trivial, ?_⟩
              refine wpAnyH_done (by kernel_rfl) ?_ _
              have HF9 := Lib.hid hF9
              clear hF9
              (repeat (first | (with_reducible first | refine xA ?_ | refine xB ?_ | refine xC ?_ | refine xD ?_ | refine xH ?_ | refine xI rfl ?_ | refine xE ?_ | refine xF ?_ | refine xG ?_) | go_values | go_skip | go_guarded | go_step | go_upon | go_back | ((with_reducible show Oper.upon _ _ _ _ _ _); go_simp) | (dsimp only)))
              exact ⟨⟨k + 1, _, by omega, by go_num, HF9⟩, by simp [intOf]; omega⟩
            · have hkn8 : ¬ ((k : Int) < 8) := by omega
              obtain ⟨k8, rfl⟩ : ∃ k8, k8 = k := ⟨_, rfl⟩
              clear hk hge
              have hbox := HFR.out.f.box
              have hil := HFR.out.f.il
              have hrl := HFR.out.f.rl
              have hfz := HFR.out.k.at HF.out hlt5
              have hone := fcells_one (c0 := .slice (some ⟨qc, 0, none⟩) b.g.cl.length b.g.cl.length) (c1 := .int .i64 b.g.n) (c2 := .slice ar root.length cr) rfl rfl rfl (slsx_one HFR.out.f.inp) (slsx_one HFR.out.f.reg)
              have Hbox := Lib.hid hbox
              have Hfz := Lib.hid hfz
              have Hone := Lib.hid hone
              clear hbox hfz hone
              (repeat (first | (with_reducible first | refine xA ?_ | refine xB ?_ | refine xC ?_ | refine xD ?_ | refine xH ?_ | refine xI rfl ?_ | refine xE ?_ | refine xF ?_ | refine xG ?_) | go_skip | go_guarded | ((with_reducible refine wl_id ?_); refine wl_ldform rfl _ rfl bb rfl _ _ (0, 0) Hbox.out (bc_size hil hrl) (bc_take hil hrl) ?_; (try simp only [Act.put, qz4, qz5, qz6])) | ((with_reducible refine wl_id ?_); refine wl_strow rfl 35 _ _ rfl w.heap.size _ rfl rfl 35 fzero.toArray Hfz.out (by rw [List.size_toArray, fcells_len hil hrl]; exact sizeTF) (by rw [List.size_toArray, List.size_toArray, fcells_len hil hrl, fzero_len]) Hone.out ?_; intro w9 hh9 hg9; (try simp only [Act.put, qz4, qz5, qz6])) | go_step3 | ((with_reducible show Exit.noGoto _ _ _ _); simp only [Exit.noGoto_normal, Exit.noGoto_exit, Exit.noGoto_ret]) | go_values | go_skip | go_guarded | go_step | go_upon | go_back | ((with_reducible show Oper.upon _ _ _ _ _ _); go_simp) | (dsimp only)))
              have hne9 : w.heap.size ≠ bb := by have := HFR.out.ub; omega
              have hk9 : Kept (fun k => k ≠ w.heap.size) wr w9 := ⟨hg9.os, hg9.tape, hg9.output, hg9.size, fun i hi hx => hg9.block i hi (fun e => hx (by injection e))⟩
              have hqw : qc ≠ w.heap.size := by have := HFR.out.ub; omega
              refine of_post (fcells_len hil hrl) rfl rfl rfl hh9 ⟨?_, ?_⟩
              · rw [HBK.out, HRT.out]
                exact ⟨qc, cs, ar, cr, iv2, rv2, rfl, HFR.out.o.kept hk9 hqw, ((slsx_off HFR.out.cls HNC.out Hfz.out).kept (hk9.mono fun _ _ h => h.2)).any, ((slx_off HFR.out.rt HNR.out Hfz.out).kept (hk9.mono fun _ _ h => h.2)).any, hil, hrl,
                  ((slsx_off HFR.out.f.inp (fun c hc => (HLN.out c (.inl hc)).2) Hfz.out).kept (hk9.mono fun _ _ h => h.2)).any, ((slsx_off HFR.out.f.reg (fun c hc => (HLN.out c (.inr hc)).2) Hfz.out).kept (hk9.mono fun _ _ h => h.2)).any, HFR.out.f.ni, HFR.out.f.nr, HCM.out⟩
              · exact below_grown (hb4.trans ((HFR.out.k.toBelow (Nat.le_refl _) fun _ h => h).mono hb4.size)) hg9 (fun k e => by injection e with e; omega)
end Go.Proofs.YtmaogkgjiplckaaGreat
namespace Go.Proofs.YtmaogkgjiplckaaGreat
open Go.RowKit
theorem nd_at {w : World} {b o k : Nat} {ls : List Nd} {d : Nd} (h : RowAt 6 Nd.cells w b o ls) (hi : ls[k]? = some d) : w.cell? ⟨b, o + k * 6, none⟩ = some (.int .i64 d.op) ∧ w.cell? ⟨b, o + k * 6 + 1, none⟩ = some (.int .i64 d.w) ∧ w.cell? ⟨b, o + k * 6 + 2, none⟩ = some (.int .u64 d.n) := by
  have h0 := h k d hi 0 _ rfl
  have h1 := h k d hi 1 _ rfl
  have h2 := h k d hi 2 _ rfl
  rw [Nat.mul_comm] at h0 h1 h2
  rw [← Nat.add_assoc] at h1 h2
  exact ⟨h0, h1, h2⟩
def hasB (op : Int) (n : Nat) (d : Nd) : Bool := d.op == op && d.n == (n : Int)
end Go.Proofs.YtmaogkgjiplckaaGreat
namespace Go.Proofs.YtmaogkgjiplckaaGreat
open Go.RowKit
def heavyB (d : Nd) : Bool := decide (10 ≤ d.op) && decide (d.op ≤ 12) && d.w == 64
theorem heavy_iff {d : Nd} : heavyB d = true ↔ heavyD d := by
  unfold heavyB heavyD
  simp only [Bool.and_eq_true, decide_eq_true_eq, beq_iff_eq, and_assoc]
def lightB (ls : List Nd) : Bool := decide (ls.length ≤ 60) && decide (ls.countP heavyB ≤ 2)
theorem countP_take {p : Nd → Bool} {ls : List Nd} {k : Nat} {d : Nd} (h : ls[k]? = some d) : (ls.take (k + 1)).countP p = (ls.take k).countP p + (if p d then 1 else 0) := by
  rw [List.take_add_one, h, List.countP_append]
  simp [List.countP_cons]
set_option maxRecDepth 100000 in
set_option maxHeartbeats 2000000 in
theorem light_any (v : Value) (ls : List Nd) (w : World) (h : SlIs 6 Nd.cells w v ls) (r : Bool) (hr : Hid (lightB ls = r)) :
    Calls Tryz.prog 7 #[v] w fun e w' => e = .returned (.bool r) ∧ w' = w := by
  obtain ⟨ao, cap, rfl, hcap, -, hrow⟩ := h
  by_cases h60 : (ls.length : Int) > 60
  · have hr0 : r = false := by rw [← hr.out]; unfold lightB; rw [decide_eq_false (by omega)]; rfl
    subst hr0
    clear hr hrow
    go_enter Tryz.func7, Tryz.ntmps7
    (repeat (first | (with_reducible first | refine xA ?_ | refine xB ?_ | refine xC ?_ | refine xD ?_ | refine xH ?_ | refine xI rfl ?_ | refine xE ?_ | refine xF ?_ | refine xG ?_) | go_values | go_skip | go_guarded | go_step | go_upon | go_back | ((with_reducible show Oper.upon _ _ _ _ _ _); go_simp) | (dsimp only)))
    go_ret
    exact ⟨rfl, rfl⟩
  have hlI : (ls.length : Int) ≤ 60 := by omega
  have HROW := Lib.hid hrow
  clear hrow hcap
  go_enter Tryz.func7, Tryz.ntmps7
  (repeat (first | (with_reducible first | refine xA ?_ | refine xB ?_ | refine xC ?_ | refine xD ?_ | refine xH ?_ | refine xI rfl ?_ | refine xE ?_ | refine xF ?_ | refine xG ?_) | go_values | go_skip | go_guarded | go_step | go_upon | go_back | ((with_reducible show Oper.upon _ _ _ _ _ _); go_simp) | (dsimp only)))
  go_loop [3, 4] (fun c i => ∃ k : Nat, k ≤ ls.length ∧ c = .int .i64 ((ls.take k).countP heavyB : Nat) ∧ i = .int .i64 k) (fun _ i => ls.length - (intOf i).toNat)
  case atStart => exact ⟨0, Nat.zero_le _, rfl, rfl⟩
  case round =>
    obtain ⟨k, hk, rfl, rfl⟩ := hrel
    have hcb : (((ls.take k).countP heavyB : Nat) : Int) ≤ 60 := by
      have := List.countP_le_length (p := heavyB) (l := ls.take k)
      rw [List.length_take] at this
      omega
    rcases Nat.lt_or_ge k ls.length with hlt | hge
    · obtain ⟨d, hd⟩ : ∃ d, ls[k]? = some d := ⟨_, List.getElem?_eq_getElem hlt⟩
      obtain ⟨b, off, rfl, HR⟩ := HROW.out (by intro e; rw [e] at hlt; simp at hlt)
      obtain ⟨c0, c1, c2⟩ := nd_at HR hd
      have Hd := Lib.hid hd
      clear hd
      obtain ⟨C, hC⟩ : ∃ C : Nat, (ls.take k).countP heavyB = C := ⟨_, rfl⟩
      rw [hC] at hcb ⊢
      have HC := Lib.hid hC
      clear hC HR
      by_cases h1 : d.op ≥ 10
      · by_cases h2 : d.op ≤ 12
        · by_cases h3 : d.w = 64
          · have f3 : (d.w == 64) = true := by simpa using h3
            have hH := Lib.hid (show heavyB d = true by unfold heavyB; rw [decide_eq_true h1, decide_eq_true h2, f3]; rfl)
            clear h3
            (repeat (first | (with_reducible first | refine xA ?_ | refine xB ?_ | refine xC ?_ | refine xD ?_ | refine xH ?_ | refine xI rfl ?_ | refine xE ?_ | refine xF ?_ | refine xG ?_) | go_values | go_skip | go_guarded | go_step | go_upon | go_back | ((with_reducible show Oper.upon _ _ _ _ _ _); go_simp) | (dsimp only)))
            exact ⟨⟨k + 1, by omega, by rw [countP_take Hd.out, hH.out, HC.out]; go_num, by go_num⟩, by simp [intOf]; omega⟩
          · have f3 : (d.w == 64) = false := by simpa using h3
            have hH := Lib.hid (show heavyB d = false by unfold heavyB; rw [f3]; simp)
            clear h3
            (repeat (first | (with_reducible first | refine xA ?_ | refine xB ?_ | refine xC ?_ | refine xD ?_ | refine xH ?_ | refine xI rfl ?_ | refine xE ?_ | refine xF ?_ | refine xG ?_) | go_values | go_skip | go_guarded | go_step | go_upon | go_back | ((with_reducible show Oper.upon _ _ _ _ _ _); go_simp) | (dsimp only)))
            exact ⟨⟨k + 1, by omega, by rw [countP_take Hd.out, hH.out, HC.out]; rfl, by go_num⟩, by simp [intOf]; omega⟩
        · have hH := Lib.hid (show heavyB d = false by unfold heavyB; rw [decide_eq_false h2]; simp)
          (repeat (first | (with_reducible first | refine xA ?_ | refine xB ?_ | refine xC ?_ | refine xD ?_ | refine xH ?_ | refine xI rfl ?_ | refine xE ?_ | refine xF ?_ | refine xG ?_) | go_values | go_skip | go_guarded | go_step | go_upon | go_back | ((with_reducible show Oper.upon _ _ _ _ _ _); go_simp) | (dsimp only)))
          exact ⟨⟨k + 1, by omega, by rw [countP_take Hd.out, hH.out, HC.out]; rfl, by go_num⟩, by simp [intOf]; omega⟩
      · have hH := Lib.hid (show heavyB d = false by unfold heavyB; rw [decide_eq_false (show ¬ 10 ≤ d.op by omega)]; rfl)
        (repeat (first | (with_reducible first | refine xA ?_ | refine xB ?_ | refine xC ?_ | refine xD ?_ | refine xH ?_ | refine xI rfl ?_ | refine xE ?_ | refine xF ?_ | refine xG ?_) | go_values | go_skip | go_guarded | go_step | go_upon | go_back | ((with_reducible show Oper.upon _ _ _ _ _ _); go_simp) | (dsimp only)))
        exact ⟨⟨k + 1, by omega, by rw [countP_take Hd.out, hH.out, HC.out]; rfl, by go_num⟩, by simp [intOf]; omega⟩
    · obtain rfl : k = ls.length := by omega
      (repeat (first | (with_reducible first | refine xA ?_ | refine xB ?_ | refine xC ?_ | refine xD ?_ | refine xH ?_ | refine xI rfl ?_ | refine xE ?_ | refine xF ?_ | refine xG ?_) | go_values | go_skip | go_guarded | go_step | go_upon | go_back | ((with_reducible show Oper.upon _ _ _ _ _ _); go_simp) | (dsimp only)))
      go_ret
      refine ⟨ret_bool ?_, rfl⟩
      rw [← hr.out]
      unfold lightB
      rw [decide_eq_true (show ls.length ≤ 60 by omega), Bool.true_and]
      exact decide_eq_decide.2 (by omega)
theorem light_cost : ∀ (ls : List Nd), costL ls ≤ 13000 * ls.length + 27000 * ls.countP heavyB := by
  intro ls
  induction ls with
  | nil => simp [costL]
  | cons d ls ih =>
    unfold costL at ih ⊢
    rw [List.map_cons, List.sum_cons, List.length_cons, List.countP_cons]
    by_cases h : heavyD d
    · have e : costD d = 40000 := by unfold costD; rw [if_pos h]
      rw [e, if_pos (heavy_iff.2 h)]; omega
    · have e : costD d = 13000 := by unfold costD; rw [if_neg h]
      rw [e, if_neg (fun e => h (heavy_iff.1 e))]; omega
theorem costL_take (ls : List Nd) (k : Nat) : costL (ls.take k) ≤ costL ls := by
  unfold costL
  conv => rhs; rw [← List.take_append_drop k ls, List.map_append, List.sum_append]
  omega
theorem light_n {ls : List Nd} (hT : TF ls) (hl : lightB ls = true) : ∀ k, k ≤ ls.length → (bK ls k).g.n + 40000 ≤ 1048576 := by
  intro k hk
  unfold lightB at hl
  rw [Bool.and_eq_true, decide_eq_true_eq, decide_eq_true_eq] at hl
  have h1 := blast_n hT k hk
  have h2 := costL_take ls k
  have h3 := light_cost ls
  omega
end Go.Proofs.YtmaogkgjiplckaaGreat
namespace Go.Proofs.YtmaogkgjiplckaaGreat
open Go.RowKit
def toldN (d : Nd) (tm : List Int) : Nd := ⟨d.op, d.w, d.n, if 0 < kidsI d.op then tm.getD d.k0.toNat 0 else d.k0, if 1 < kidsI d.op then tm.getD d.k1.toNat 0 else d.k1, if 2 < kidsI d.op then tm.getD d.k2.toNat 0 else d.k2⟩
def RN (A : List Nd) (d : Nd) : Prop := rightE d A = 0 ∧ noArr d ∧ NdWf d
def RT (A : List Nd) : Prop := ∀ j d, A[j]? = some d → RN (A.take j) d
theorem RN.ops {A : List Nd} {d : Nd} (h : RN A d) : 0 ≤ d.op ∧ d.op ≤ 24 := by
  have hr := h.1
  unfold rightE at hr
  by_cases h0 : d.op < 0 ∨ 24 < d.op
  · rw [if_pos h0] at hr; cases hr
  · omega
theorem RN.parts {A : List Nd} {d : Nd} (h : RN A d) : ∃ a b c, kidW (kidsI d.op) 0 d.k0 A = some a ∧ kidW (kidsI d.op) 1 d.k1 A = some b ∧ kidW (kidsI d.op) 2 d.k2 A = some c := by
  have ho := h.ops
  have hr := h.1
  unfold rightE at hr
  rw [if_neg (by omega)] at hr
  unfold kidsR at hr
  cases h0 : kidW (kidsI d.op) 0 d.k0 A with
  | none => rw [h0] at hr; simp at hr
  | some a =>
    cases h1 : kidW (kidsI d.op) 1 d.k1 A with
    | none => rw [h0, h1] at hr; simp at hr
    | some b =>
      cases h2 : kidW (kidsI d.op) 2 d.k2 A with
      | none => rw [h0, h1, h2] at hr; simp at hr
      | some c => exact ⟨a, b, c, rfl, rfl, rfl⟩
theorem RT.snoc {A : List Nd} (h : RT A) {d : Nd} (hd : RN A d) : RT (A ++ [d]) := fun j e he => by
  rcases Nat.lt_trichotomy j A.length with hj | hj | hj
  · rw [List.getElem?_append_left hj] at he
    rw [List.take_append_of_le_length (by omega)]
    exact h j e he
  · subst hj
    rw [List.getElem?_append_right (Nat.le_refl _), Nat.sub_self] at he
    obtain rfl : d = e := by simpa using he
    rw [List.take_left']
    · exact hd
    · rfl
  · rw [List.getElem?_eq_none (by simp; omega)] at he; cases he
theorem val_congr {I R : Nat → Nat} {A B : List Nd} {vA vB : List Nat} {d d' : Nd} (ho : d'.op = d.op) (hn : d'.n = d.n) (hr : 0 ≤ d.op ∧ d.op ≤ 24) (na : noArr d)
    (h0 : 0 < kidsI d.op → wAt B d'.k0 = wAt A d.k0 ∧ vB.getD d'.k0.toNat 0 = vA.getD d.k0.toNat 0) (h1 : 1 < kidsI d.op → vB.getD d'.k1.toNat 0 = vA.getD d.k1.toNat 0) (h2 : 2 < kidsI d.op → vB.getD d'.k2.toNat 0 = vA.getD d.k2.toNat 0) : valD I R B vB d' = valD I R A vA d := by
  obtain ⟨n3, n4, n23, n24⟩ := na
  unfold valD
  rw [ho, hn]
  by_cases c0 : d.op = 0
  · rw [if_pos c0, if_pos c0]
  rw [if_neg c0, if_neg c0]
  by_cases c1 : d.op = 1
  · rw [if_pos c1, if_pos c1]
  rw [if_neg c1, if_neg c1]
  by_cases c2 : d.op = 2
  · rw [if_pos c2, if_pos c2]
  rw [if_neg c2, if_neg c2]
  have k0 : 0 < kidsI d.op := by unfold kidsI; rw [if_neg (by omega)]; split <;> (try split) <;> omega
  rw [(h0 k0).2, (h0 k0).1]
  by_cases c6 : d.op = 6
  · rw [if_pos c6, if_pos c6]
  rw [if_neg c6, if_neg c6]
  by_cases c7 : d.op = 7
  · rw [if_pos c7, if_pos c7]
  rw [if_neg c7, if_neg c7]
  by_cases c5 : d.op = 5
  · rw [if_neg (by omega), if_neg (by omega), c5]
    unfold opI
    rw [if_pos rfl, if_pos rfl]
  have k1 : 1 < kidsI d.op := by unfold kidsI; rw [if_neg (by omega)]; split <;> (try split) <;> omega
  rw [h1 k1]
  by_cases c22 : d.op = 22
  · have k2 : 2 < kidsI d.op := by rw [c22]; decide
    rw [if_pos c22, if_pos c22, h2 k2]
  · rw [if_neg c22, if_neg c22]
theorem vK_get {I R : Nat → Nat} {ls : List Nd} {j : Nat} : ∀ k, j < k → k ≤ ls.length → (vK I R ls k).getD j 0 = (vK I R ls (j + 1)).getD j 0 := by
  intro k hjk
  induction k with
  | zero => omega
  | succ k ih =>
    intro hk
    rcases Nat.lt_or_ge j k with h | h
    · rw [vK, List.getElem?_eq_getElem (show k < ls.length by omega)]
      dsimp only
      rw [List.getD_eq_getElem?_getD, List.getElem?_append_left (by rw [vK_len k (by omega)]; exact h), ← List.getD_eq_getElem?_getD]
      exact ih h (by omega)
    · obtain rfl : j = k := by omega
      rfl
theorem kid_lt {A : List Nd} {d : Nd} (h : RN A d) : (0 < kidsI d.op → ∃ a : Nat, d.k0 = a ∧ a < A.length) ∧ (1 < kidsI d.op → ∃ a : Nat, d.k1 = a ∧ a < A.length) ∧ (2 < kidsI d.op → ∃ a : Nat, d.k2 = a ∧ a < A.length) := by
  obtain ⟨a, b, c, h0, h1, h2⟩ := h.parts
  refine ⟨fun k => ?_, fun k => ?_, fun k => ?_⟩
  · obtain ⟨x, e, hx, _⟩ := kidW_in h0 k; exact ⟨x, e, hx⟩
  · obtain ⟨x, e, hx, _⟩ := kidW_in h1 k; exact ⟨x, e, hx⟩
  · obtain ⟨x, e, hx, _⟩ := kidW_in h2 k; exact ⟨x, e, hx⟩
theorem vK_val {I R : Nat → Nat} {ls : List Nd} (hT : RT ls) {j : Nat} {d : Nd} (hd : ls[j]? = some d) : (vK I R ls ls.length).getD j 0 = valD I R ls (vK I R ls ls.length) d := by
  have hj : j < ls.length := (List.getElem?_eq_some_iff.1 hd).1
  rw [vK_get ls.length hj (Nat.le_refl _)]
  rw [vK, hd]
  dsimp only
  rw [List.getD_eq_getElem?_getD, List.getElem?_append_right (by rw [vK_len j (by omega)]; omega), vK_len j (by omega), Nat.sub_self]
  show valD I R ls (vK I R ls j) d = _
  have hN := hT j d hd
  have hl : (ls.take j).length = j := by rw [List.length_take]; omega
  obtain ⟨l0, l1, l2⟩ := kid_lt hN
  rw [hl] at l0 l1 l2
  have key : ∀ K : Int, (∃ a : Nat, K = a ∧ a < j) → (vK I R ls j).getD K.toNat 0 = (vK I R ls ls.length).getD K.toNat 0 := by
    rintro K ⟨a, rfl, ha⟩
    rw [Int.toNat_natCast, vK_get j ha (by omega), vK_get ls.length (by omega) (Nat.le_refl _)]
  exact val_congr rfl rfl hN.ops hN.2.1 (fun k => ⟨rfl, key _ (l0 k)⟩) (fun k => key _ (l1 k)) (fun k => key _ (l2 k))
theorem wAt_app {A : List Nd} {x : List Nd} {a : Nat} (h : a < A.length) : wAt (A ++ x) a = wAt A a := by
  unfold wAt
  rw [Int.toNat_natCast, List.getElem?_append_left h]
theorem vK_app {I R : Nat → Nat} {B : List Nd} (x : List Nd) (hT : RT B) : ∀ k, k ≤ B.length → vK I R (B ++ x) k = vK I R B k := by
  intro k
  induction k with
  | zero => intro _; rfl
  | succ k ih =>
    intro hk
    have hk' : k < B.length := by omega
    have hd := List.getElem?_eq_getElem hk'
    have hN := hT k _ hd
    rw [vK, vK, List.getElem?_append_left hk', hd]
    dsimp only
    rw [ih (by omega)]
    have hl : (B.take k).length = k := by rw [List.length_take]; omega
    obtain ⟨l0, _, _⟩ := kid_lt hN
    rw [hl] at l0
    rw [val_congr (A := B) (B := B ++ x) rfl rfl hN.ops hN.2.1 (fun k0 => ⟨by
      obtain ⟨a, e, ha⟩ := l0 k0
      rw [e, wAt_app (by omega)], rfl⟩) (fun _ => rfl) (fun _ => rfl)]
def Emb (A B : List Nd) (a : Nat) (p : Int) : Prop := 0 ≤ p ∧ p < B.length ∧ wAt B p = wAt A a ∧ ∀ I R : Nat → Nat, (vK I R B B.length).getD p.toNat 0 = (vK I R A A.length).getD a 0
theorem Emb.snoc {A B : List Nd} {a : Nat} {p : Int} (hB : RT B) (x : Nd) (h : Emb A B a p) : Emb A (B ++ [x]) a p := by
  obtain ⟨h0, h1, h2, h3⟩ := h
  obtain ⟨q, rfl⟩ := Int.eq_ofNat_of_zero_le h0
  refine ⟨h0, by simp; omega, by rw [wAt_app (by omega)]; exact h2, fun I R => ?_⟩
  rw [← h3 I R, Int.toNat_natCast, vK_get _ (show q < (B ++ [x]).length by simp; omega) (Nat.le_refl _), vK_get B.length (by omega) (Nat.le_refl _)]
  rw [vK_app [x] hB (q + 1) (by omega)]
theorem kidW_told {has j K x : Int} {A B : List Nd} {tm : List Int} (h : kidW has j K A = some x) (hm : j < has → ∀ a : Nat, K = a → a < A.length → 0 ≤ tm.getD a 0 ∧ tm.getD a 0 < B.length ∧ wAt B (tm.getD a 0) = wAt A a) : kidW has j (if j < has then tm.getD K.toNat 0 else K) B = some x := by
  by_cases hj : j < has
  · obtain ⟨a, rfl, ha, rfl⟩ := kidW_in h hj
    obtain ⟨h0, h1, h2⟩ := hm hj a rfl ha
    rw [if_pos hj, Int.toNat_natCast]
    unfold kidW
    rw [if_neg (by omega), if_neg (by omega), h2]
  · obtain ⟨rfl, rfl⟩ := kidW_out h (by omega)
    rw [if_neg hj]
    unfold kidW
    rw [if_pos (by omega), if_pos rfl]
def isKid (d : Nd) (a : Nat) : Prop := (0 < kidsI d.op ∧ d.k0 = a) ∨ (1 < kidsI d.op ∧ d.k1 = a) ∨ (2 < kidsI d.op ∧ d.k2 = a)
theorem told_rn {A B : List Nd} {d : Nd} {tm : List Int} (h : RN A d) (hB : B.length ≤ 65536) (hm : ∀ a, isKid d a → a < A.length → 0 ≤ tm.getD a 0 ∧ tm.getD a 0 < B.length ∧ wAt B (tm.getD a 0) = wAt A a) : RN B (toldN d tm) := by
  obtain ⟨a, b, c, h0, h1, h2⟩ := h.parts
  have g0 := kidW_told (B := B) (tm := tm) h0 (fun k x e hx => hm x (.inl ⟨k, e⟩) hx)
  have g1 := kidW_told (B := B) (tm := tm) h1 (fun k x e hx => hm x (.inr (.inl ⟨k, e⟩)) hx)
  have g2 := kidW_told (B := B) (tm := tm) h2 (fun k x e hx => hm x (.inr (.inr ⟨k, e⟩)) hx)
  have hr := h.1
  unfold rightE kidsR at hr
  rw [h0, h1, h2] at hr
  have bnd : ∀ K : Int, (-9223372036854775808 ≤ K ∧ K ≤ 9223372036854775807) → ∀ j : Int, (j < kidsI d.op → ∃ a : Nat, K = a ∧ isKid d a ∧ a < A.length) → -9223372036854775808 ≤ (if j < kidsI d.op then tm.getD K.toNat 0 else K) ∧ (if j < kidsI d.op then tm.getD K.toNat 0 else K) ≤ 9223372036854775807 := by
    intro K hK j hj
    by_cases c : j < kidsI d.op
    · obtain ⟨a, rfl, ha, hl⟩ := hj c
      obtain ⟨x0, x1, _⟩ := hm a ha hl
      rw [if_pos c, Int.toNat_natCast]
      omega
    · rw [if_neg c]; exact hK
  obtain ⟨l0, l1, l2⟩ := kid_lt h
  obtain ⟨w0, w1, w2, w3, w4, w5⟩ := h.2.2
  refine ⟨?_, h.2.1, w0, w1, w2, bnd _ w3 0 (fun k => ?_), bnd _ w4 1 (fun k => ?_), bnd _ w5 2 (fun k => ?_)⟩
  · unfold rightE kidsR toldN
    dsimp only
    rw [g0, g1, g2]
    exact hr
  · obtain ⟨x, e, hx⟩ := l0 k; exact ⟨x, e, .inl ⟨k, e⟩, hx⟩
  · obtain ⟨x, e, hx⟩ := l1 k; exact ⟨x, e, .inr (.inl ⟨k, e⟩), hx⟩
  · obtain ⟨x, e, hx⟩ := l2 k; exact ⟨x, e, .inr (.inr ⟨k, e⟩), hx⟩
theorem told_val {I R : Nat → Nat} {A B : List Nd} {j : Nat} {d : Nd} {tm : List Int} (hA : RT A) (hd : A[j]? = some d) (hm : ∀ a, isKid d a → a < j → Emb A B a (tm.getD a 0)) : valD I R B (vK I R B B.length) (toldN d tm) = (vK I R A A.length).getD j 0 := by
  have hN := hA j d hd
  have hj : j < A.length := (List.getElem?_eq_some_iff.1 hd).1
  have hl : (A.take j).length = j := by rw [List.length_take]; omega
  rw [vK_val hA hd]
  obtain ⟨l0, l1, l2⟩ := kid_lt hN
  rw [hl] at l0 l1 l2
  refine val_congr rfl rfl hN.ops hN.2.1 (fun k => ?_) (fun k => ?_) (fun k => ?_)
  · obtain ⟨a, e, ha⟩ := l0 k
    have := hm a (.inl ⟨k, e⟩) ha
    unfold toldN
    dsimp only
    rw [if_pos k, e, Int.toNat_natCast]
    exact ⟨this.2.2.1, this.2.2.2 I R⟩
  · obtain ⟨a, e, ha⟩ := l1 k
    have := hm a (.inr (.inl ⟨k, e⟩)) ha
    unfold toldN
    dsimp only
    rw [if_pos k, e, Int.toNat_natCast]
    exact this.2.2.2 I R
  · obtain ⟨a, e, ha⟩ := l2 k
    have := hm a (.inr (.inr ⟨k, e⟩)) ha
    unfold toldN
    dsimp only
    rw [if_pos k, e, Int.toNat_natCast]
    exact this.2.2.2 I R
theorem told_rn' {A B : List Nd} {j : Nat} {d : Nd} {tm : List Int} (hA : RT A) (hd : A[j]? = some d) (hB : B.length ≤ 65536) (hm : ∀ a, isKid d a → a < j → Emb A B a (tm.getD a 0)) : RN B (toldN d tm) := by
  have hj : j < A.length := (List.getElem?_eq_some_iff.1 hd).1
  have hl : (A.take j).length = j := by rw [List.length_take]; omega
  refine told_rn (hA j d hd) hB fun a ha hal => ?_
  rw [hl] at hal
  obtain ⟨h0, h1, h2, _⟩ := hm a ha hal
  exact ⟨h0, h1, by rw [h2, wAt_take hal]⟩
theorem emb_hit {A B : List Nd} {j : Nat} {d : Nd} {tm : List Int} (hA : RT A) (hB : RT B) (hd : A[j]? = some d) (hm : ∀ a, isKid d a → a < j → Emb A B a (tm.getD a 0)) {p : Nat} (hp : B[p]? = some (toldN d tm)) : Emb A B j p := by
  have hpl : p < B.length := (List.getElem?_eq_some_iff.1 hp).1
  refine ⟨by omega, by omega, ?_, fun I R => ?_⟩
  · rw [wAt_get hp, wAt_get hd]; rfl
  · rw [Int.toNat_natCast, vK_val hB hp]
    exact told_val hA hd hm
theorem emb_miss {A B : List Nd} {j : Nat} {d : Nd} {tm : List Int} (hA : RT A) (hB : RT B) (hl : B.length ≤ 65536) (hd : A[j]? = some d) (hm : ∀ a, isKid d a → a < j → Emb A B a (tm.getD a 0)) : RT (B ++ [toldN d tm]) ∧ Emb A (B ++ [toldN d tm]) j B.length := by
  have hR := hB.snoc (told_rn' hA hd hl hm)
  refine ⟨hR, emb_hit hA hR hd (fun a ha haj => (hm a ha haj).snoc hB _) ?_⟩
  rw [List.getElem?_append_right (Nat.le_refl _), Nat.sub_self]
  rfl
structure PutI (ls : List Nd) (k : Nat) (A : List Nd) (tm : List Int) : Prop where
  rt : RT A
  len : tm.length = k
  al : A.length ≤ k
  hv : A.countP heavyB ≤ (ls.take k).countP heavyB
  emb : ∀ j : Nat, j < k → Emb ls A j (tm.getD j 0)
theorem count_take {ls : List Nd} {k : Nat} {d : Nd} (hd : ls[k]? = some d) : (ls.take (k + 1)).countP heavyB = (ls.take k).countP heavyB + if heavyB d then 1 else 0 := by
  rw [List.take_add_one, hd, List.countP_append]
  simp [List.countP_cons]
theorem PutI.start (ls : List Nd) : PutI ls 0 [] [] := ⟨fun j d h => by simp at h, rfl, Nat.le_refl _, by simp, fun j h => by omega⟩
structure TermI (A : List Nd) (nd : Nat → Bool) (k : Nat) (B : List Nd) (tm : List Int) : Prop where
  rt : RT B
  len : tm.length = A.length
  al : B.length ≤ k
  hv : B.countP heavyB ≤ (A.take k).countP heavyB
  emb : ∀ j : Nat, j < k → nd j = true → Emb A B j (tm.getD j 0)
  last : ∀ j : Nat, j + 1 = k → nd j = true → tm.getD j 0 = (B.length : Int) - 1 ∧ 0 < B.length
theorem TermI.start (A : List Nd) (nd : Nat → Bool) {tm : List Int} (hl : tm.length = A.length) : TermI A nd 0 [] tm := ⟨fun j d h => by simp at h, hl, Nat.le_refl _, by simp, fun j h => by omega, fun j h => by omega⟩
theorem TermI.skip {A B : List Nd} {nd : Nat → Bool} {k : Nat} {tm : List Int} {d : Nd} (h : TermI A nd k B tm) (hd : A[k]? = some d) (hn : nd k = false) : TermI A nd (k + 1) B tm := by
  refine ⟨h.rt, h.len, by have := h.al; omega, by rw [count_take hd]; have := h.hv; omega, fun j hj hnj => ?_, fun j hj hnj => ?_⟩
  · rcases Nat.lt_or_ge j k with hjk | hjk
    · exact h.emb j hjk hnj
    · obtain rfl : j = k := by omega
      rw [hn] at hnj; cases hnj
  · obtain rfl : j = k := by omega
    rw [hn] at hnj; cases hnj
theorem getD_setI {l : List Int} {i j : Nat} {x : Int} (hi : i < l.length) : (l.set i x).getD j 0 = if j = i then x else l.getD j 0 := by
  rw [List.getD_eq_getElem?_getD]
  by_cases e : j = i
  · subst e; rw [List.getElem?_set_self hi, if_pos rfl]; rfl
  · rw [List.getElem?_set_ne (Ne.symm e), if_neg e, List.getD_eq_getElem?_getD]
theorem TermI.take {A B : List Nd} {nd : Nat → Bool} {k : Nat} {tm : List Int} {d : Nd} (hA : RT A) (h : TermI A nd k B tm) (hk : k ≤ 65536) (hd : A[k]? = some d) (hkid : ∀ a, isKid d a → a < k → nd a = true) : TermI A nd (k + 1) (B ++ [toldN d (tm.set k (B.length : Int))]) (tm.set k (B.length : Int)) := by
  have hkl : k < A.length := (List.getElem?_eq_some_iff.1 hd).1
  have hki : k < tm.length := by rw [h.len]; exact hkl
  have hm : ∀ a, isKid d a → a < k → Emb A B a ((tm.set k (B.length : Int)).getD a 0) := fun a ha hak => by
    rw [getD_setI hki, if_neg (by omega)]
    exact h.emb a hak (hkid a ha hak)
  obtain ⟨h1, h2⟩ := emb_miss hA h.rt (by have := h.al; omega) hd hm
  refine ⟨h1, by simp [h.len], by have := h.al; simp; omega, ?_, fun j hj hnj => ?_, fun j hj hnj => ?_⟩
  · rw [count_take hd, List.countP_append]
    have e : heavyB (toldN d (tm.set k (B.length : Int))) = heavyB d := rfl
    have := h.hv
    simp only [List.countP_cons, List.countP_nil, e]
    omega
  · rw [getD_setI hki]
    rcases Nat.lt_or_ge j k with hjk | hjk
    · rw [if_neg (by omega)]
      exact (h.emb j hjk hnj).snoc h.rt _
    · obtain rfl : j = k := by omega
      rw [if_pos rfl]
      exact h2
  · obtain rfl : j = k := by omega
    rw [getD_setI hki, if_pos rfl]
    simp
end Go.Proofs.YtmaogkgjiplckaaGreat
namespace Go.Proofs.YtmaogkgjiplckaaGreat
open Go.RowKit
def atB (l : List Int) (k : Int) : Int := l.getD k.toNat 0
def u8c (x : Int) : List Value := [.int .u8 x]
set_option maxRecDepth 100000 in
theorem at_any (v : Value) (l : List Int) (k : Int) (w : World) (h : SlIs 1 u8c w v l) (hk : 0 ≤ k ∧ k < 18446744073709551616) (hl : l.length ≤ 1000000) (r : Int) (hr : Hid (atB l k = r)) :
    Calls Tryz.prog 35 #[v, .int .u64 k] w fun e w' => e = .returned (.int .u8 r) ∧ w' = w := by
  obtain ⟨ao, cap, rfl, hcap, hnil, hrow⟩ := h
  have hlI : (l.length : Int) ≤ 1000000 := by omega
  by_cases hlt : k < (l.length : Int)
  · have hne : l ≠ [] := by intro e; rw [e] at hlt; simp at hlt; omega
    obtain ⟨b, o, rfl, HR⟩ := hrow hne
    have hi : k.toNat < l.length := by omega
    have hc := HR k.toNat _ (List.getElem?_eq_getElem hi) 0 _ rfl
    have er : l[k.toNat] = r := by rw [← hr.out]; unfold atB; rw [List.getD_eq_getElem?_getD, List.getElem?_eq_getElem hi]; rfl
    rw [er] at hc
    simp only [Nat.one_mul, Nat.add_zero] at hc
    have hk0 := hk.1
    clear er hi HR hrow hne
    go_enter Tryz.func35, Tryz.ntmps35
    (repeat (first | (with_reducible first | refine xA ?_ | refine xB ?_ | refine xC ?_ | refine xD ?_ | refine xH ?_ | refine xI rfl ?_ | refine xE ?_ | refine xF ?_ | refine xG ?_) | go_values | go_skip | go_guarded | go_step | go_upon | go_back | ((with_reducible show Oper.upon _ _ _ _ _ _); go_simp) | (dsimp only)))
    go_ret
    exact ⟨rfl, rfl⟩
  · have er : r = 0 := by rw [← hr.out]; unfold atB; rw [List.getD_eq_getElem?_getD, List.getElem?_eq_none (by omega)]; rfl
    subst er
    have hk0 := hk.1
    clear hrow
    go_enter Tryz.func35, Tryz.ntmps35
    (repeat (first | (with_reducible first | refine xA ?_ | refine xB ?_ | refine xC ?_ | refine xD ?_ | refine xH ?_ | refine xI rfl ?_ | refine xE ?_ | refine xF ?_ | refine xG ?_) | go_values | go_skip | go_guarded | go_step | go_upon | go_back | ((with_reducible show Oper.upon _ _ _ _ _ _); go_simp) | (dsimp only)))
    go_ret
    exact ⟨rfl, rfl⟩
end Go.Proofs.YtmaogkgjiplckaaGreat
namespace Go.Proofs.YtmaogkgjiplckaaGreat
open Go.RowKit
def SlN (w : World) (v : Value) (vs : List Nat) : Prop := ∃ ao cap, v = .slice ao vs.length cap ∧ (vs ≠ [] → ∃ b o, ao = some ⟨b, o, none⟩ ∧ ∀ (i x : Nat), vs[i]? = some x → w.cell? ⟨b, o + i, none⟩ = some (.int .u64 (x : Int)))
theorem SlN.below {w w' : World} {v : Value} {vs : List Nat} (h : SlN w v vs) (hb : Below w.heap.size w w') : SlN w' v vs :=
  let ⟨ao, cap, h1, h2⟩ := h
  ⟨ao, cap, h1, fun hn => let ⟨b, o, e, hr⟩ := h2 hn; ⟨b, o, e, fun i x hi => cell_keep hb (hr i x hi)⟩⟩
theorem ite_nn {c : Prop} [Decidable c] {a b : Int} (ha : 0 ≤ a) (hb : 0 ≤ b) : 0 ≤ if c then a else b := by split; exact ha; exact hb
theorem opI_nn {op x y : Int} {W : Nat} (hx : 0 ≤ x) (hy : 0 ≤ y) (hw : x < 2 ^ W) : 0 ≤ opI op W x y := by
  have hp : (0 : Int) < 2 ^ W := Int.pow_pos (by decide)
  have hm : ∀ a : Int, 0 ≤ a % 2 ^ W := fun a => Int.emod_nonneg _ (by omega)
  have hd : ∀ k : Nat, 0 ≤ x / 2 ^ k := fun k => Int.ediv_nonneg hx (Int.le_of_lt (Int.pow_pos (by decide)))
  have hxy : 0 ≤ x % y := by
    by_cases h0 : y = 0
    · subst h0; rw [Int.emod_zero]; exact hx
    · exact Int.emod_nonneg _ h0
  have h1 : 0 ≤ 2 ^ W - 1 - x := by omega
  have h2 : (0 : Int) ≤ 2 ^ W - 1 := by omega
  have h3 := Int.ediv_nonneg hx hy
  clear hp
  unfold opI
  refine ite_nn h1 (ite_nn (hm _) (ite_nn (hm _) (ite_nn (hm _) (ite_nn (ite_nn h2 h3) (ite_nn hxy (ite_nn (Int.natCast_nonneg _) (ite_nn (Int.natCast_nonneg _) (ite_nn (Int.natCast_nonneg _) (ite_nn (hm _) (ite_nn (hd _) (ite_nn (hm _) (ite_nn (ite_nn (by decide) (by decide)) (ite_nn (ite_nn (by decide) (by decide)) ?_)))))))))))))
  exact ite_nn (ite_nn (by decide) (by decide)) (by decide)
theorem ap_val {op : Int} {W x y : Nat} (hW : 1 ≤ W ∧ W ≤ 64) (hx : x < 2 ^ W) (hy : op = 5 ∨ y < 2 ^ W) : AP op (W : Int) (x : Int) (y : Int) = ((opI op W (x : Int) (y : Int)).toNat : Int) := by
  unfold AP
  rw [wid_in hW]
  have ex : ((x : Int) % 2 ^ W) = x := Int.emod_eq_of_lt (by omega) (by exact_mod_cast hx)
  rw [ex]
  have hx' : (x : Int) < 2 ^ W := by exact_mod_cast hx
  rcases hy with rfl | hy
  · have e : ∀ z, opI 5 W (x : Int) z = 2 ^ W - 1 - (x : Int) := fun z => by unfold opI; rw [if_pos rfl]
    rw [e, e, Int.toNat_of_nonneg (by omega)]
  · have ey : ((y : Int) % 2 ^ W) = y := Int.emod_eq_of_lt (by omega) (by exact_mod_cast hy)
    rw [ey, Int.toNat_of_nonneg (opI_nn (by omega) (by omega) hx')]
theorem vK_lt {I R : Nat → Nat} {ls : List Nd} (hT : TF ls) (hI : ∀ i, I i < 256) (hR : ∀ i, R i < 18446744073709551616) {k : Nat} (hk : k ≤ ls.length) {j : Nat} (hj : j < k) : (vK I R ls k).getD j 0 < 2 ^ (wAt ls j).toNat := by
  obtain ⟨s, hs⟩ := blast_ok hT hI hR k hk
  have h := hs.ws j hj
  have := num_lt s ((bK ls k).at j)
  rw [h.num, h.len] at this
  exact this
section
variable {op W n k0 k1 k2 r0 r1 r2 r3 r4 r5 r6 r7 : Int} {vl vv vi vm : Value} {w : World}
set_option maxRecDepth 100000
set_option maxHeartbeats 1000000
theorem one_const : Calls Tryz.prog 56 #[vl, vv, .agg #[vi, .int .u64 r0, .int .u64 r1, .int .u64 r2, .int .u64 r3, .int .u64 r4, .int .u64 r5, .int .u64 r6, .int .u64 r7, vm], .agg #[.int .i64 0, .int .i64 W, .int .u64 n, .int .i64 k0, .int .i64 k1, .int .i64 k2]] w fun e w' => e = .returned (.int .u64 n) ∧ Below w.heap.size w w' := by
  go_enter Tryz.func56, Tryz.ntmps56
  (repeat (first | (with_reducible first | refine xA ?_ | refine xB ?_ | refine xC ?_ | refine xD ?_ | refine xH ?_ | refine xI rfl ?_ | refine xE ?_ | refine xF ?_ | refine xG ?_) | go_values | go_skip | go_guarded | go_step | go_upon | go_back | ((with_reducible show Oper.upon _ _ _ _ _ _); go_simp) | (dsimp only)))
  go_ret
  exact ⟨rfl, by (repeat (first | with_reducible exact Below.refl _ _ | assumption | with_reducible refine below_drewN ?_ _ | with_reducible refine Below.drew ?_ | with_reducible refine Below.setRow ?_ ?_ _ | with_reducible refine Below.alloc ?_ ?_ _ | with_reducible refine Below.setCell ?_ ?_ _ | with_reducible exact Nat.le_refl _ | (focus (simp; done)) | (focus (simp; omega)) | omega))⟩
theorem one_input (inp : List Int) (hi : SlIs 1 u8c w vi inp) (hil : inp.length ≤ 1000000) (hn : 0 ≤ n ∧ n < 16) (r : Int) (hr : Hid (atB inp n = r)) (hr0 : 0 ≤ r ∧ r < 256) :
    Calls Tryz.prog 56 #[vl, vv, .agg #[vi, .int .u64 r0, .int .u64 r1, .int .u64 r2, .int .u64 r3, .int .u64 r4, .int .u64 r5, .int .u64 r6, .int .u64 r7, vm], .agg #[.int .i64 1, .int .i64 W, .int .u64 n, .int .i64 k0, .int .i64 k1, .int .i64 k2]] w fun e w' => e = .returned (.int .u64 r) ∧ Below w.heap.size w w' := by
  have HAT : Hid (∀ u : World, Below w.heap.size w u → Calls Tryz.prog 35 #[vi, .int .u64 n] u fun e w' => e = .returned (.int .u8 r) ∧ w' = u) := Lib.hid (fun u hb => at_any vi inp n u (hi.below hb) (by omega) hil r hr)
  obtain ⟨h0, h1⟩ := hr0
  obtain ⟨n0, n1⟩ := hn
  clear hi hil hr
  go_enter Tryz.func56, Tryz.ntmps56
  (repeat (first | (with_reducible first | refine xA ?_ | refine xB ?_ | refine xC ?_ | refine xD ?_ | refine xH ?_ | refine xI rfl ?_ | refine xE ?_ | refine xF ?_ | refine xG ?_) | go_skip | go_guarded | (go_at_call 35; (with_reducible refine (HAT.out _ (by (repeat (first | with_reducible exact Below.refl _ _ | assumption | with_reducible refine below_drewN ?_ _ | with_reducible refine Below.drew ?_ | with_reducible refine Below.setRow ?_ ?_ _ | with_reducible refine Below.alloc ?_ ?_ _ | with_reducible refine Below.setCell ?_ ?_ _ | with_reducible exact Nat.le_refl _ | (focus (simp; done)) | (focus (simp; omega)) | omega)))).mono ?_); rintro _ w1 ⟨rfl, rfl⟩) | go_values | go_skip | go_guarded | go_step | go_upon | go_back | ((with_reducible show Oper.upon _ _ _ _ _ _); go_simp) | (dsimp only)))
  go_ret
  exact ⟨ret_int (by omega), by (repeat (first | with_reducible exact Below.refl _ _ | assumption | with_reducible refine below_drewN ?_ _ | with_reducible refine Below.drew ?_ | with_reducible refine Below.setRow ?_ ?_ _ | with_reducible refine Below.alloc ?_ ?_ _ | with_reducible refine Below.setCell ?_ ?_ _ | with_reducible exact Nat.le_refl _ | (focus (simp; done)) | (focus (simp; omega)) | omega))⟩
theorem one_reg (hn : 0 ≤ n ∧ n < 8) (r : Int) (hr : Hid ([r0, r1, r2, r3, r4, r5, r6, r7].getD n.toNat 0 = r)) :
    Calls Tryz.prog 56 #[vl, vv, .agg #[vi, .int .u64 r0, .int .u64 r1, .int .u64 r2, .int .u64 r3, .int .u64 r4, .int .u64 r5, .int .u64 r6, .int .u64 r7, vm], .agg #[.int .i64 2, .int .i64 W, .int .u64 n, .int .i64 k0, .int .i64 k1, .int .i64 k2]] w fun e w' => e = .returned (.int .u64 r) ∧ Below w.heap.size w w' := by
  have h8 : n = 0 ∨ n = 1 ∨ n = 2 ∨ n = 3 ∨ n = 4 ∨ n = 5 ∨ n = 6 ∨ n = 7 := by omega
  rcases h8 with rfl | rfl | rfl | rfl | rfl | rfl | rfl | rfl
  all_goals
    obtain rfl : _ = r := hr.out
    clear hr hn
    go_enter Tryz.func56, Tryz.ntmps56
    (repeat (first | (with_reducible first | refine xA ?_ | refine xB ?_ | refine xC ?_ | refine xD ?_ | refine xH ?_ | refine xI rfl ?_ | refine xE ?_ | refine xF ?_ | refine xG ?_) | go_values | go_skip | go_guarded | go_step | go_upon | go_back | ((with_reducible show Oper.upon _ _ _ _ _ _); go_simp) | (dsimp only)))
    go_ret
    exact ⟨rfl, by (repeat (first | with_reducible exact Below.refl _ _ | assumption | with_reducible refine below_drewN ?_ _ | with_reducible refine Below.drew ?_ | with_reducible refine Below.setRow ?_ ?_ _ | with_reducible refine Below.alloc ?_ ?_ _ | with_reducible refine Below.setCell ?_ ?_ _ | with_reducible exact Nat.le_refl _ | (focus (simp; done)) | (focus (simp; omega)) | omega))⟩
theorem one_wide (vs : List Nat) (hv : SlN w vv vs) (hvl : vs.length ≤ 1000000) (a : Nat) (ha : a < vs.length) (x : Nat) (hx : vs.getD a 0 = x) :
    Calls Tryz.prog 56 #[vl, vv, .agg #[vi, .int .u64 r0, .int .u64 r1, .int .u64 r2, .int .u64 r3, .int .u64 r4, .int .u64 r5, .int .u64 r6, .int .u64 r7, vm], .agg #[.int .i64 6, .int .i64 W, .int .u64 n, .int .i64 a, .int .i64 k1, .int .i64 k2]] w fun e w' => e = .returned (.int .u64 (x : Int)) ∧ Below w.heap.size w w' := by
  obtain ⟨ao, cap, rfl, hrow⟩ := hv
  obtain ⟨b, o, rfl, HR⟩ := hrow (by intro e; rw [e] at ha; simp at ha)
  have hxa : vs[a]? = some x := by rw [List.getD_eq_getElem?_getD, List.getElem?_eq_getElem ha] at hx; rw [List.getElem?_eq_getElem ha]; exact congrArg some hx
  have hc := HR a x hxa
  have hlt := World.block_lt_of_cell? w _ hc
  have h0 : (0 : Int) ≤ (a : Int) := by omega
  have h1 : (a : Int) < (vs.length : Int) := by omega
  clear HR hrow hxa hx
  go_enter Tryz.func56, Tryz.ntmps56
  (repeat (first | (with_reducible first | refine xA ?_ | refine xB ?_ | refine xC ?_ | refine xD ?_ | refine xH ?_ | refine xI rfl ?_ | refine xE ?_ | refine xF ?_ | refine xG ?_) | go_values | go_skip | go_guarded | go_step | go_upon | go_back | ((with_reducible show Oper.upon _ _ _ _ _ _); go_simp) | (dsimp only)))
  go_ret
  exact ⟨rfl, by (repeat (first | with_reducible exact Below.refl _ _ | assumption | with_reducible refine below_drewN ?_ _ | with_reducible refine Below.drew ?_ | with_reducible refine Below.setRow ?_ ?_ _ | with_reducible refine Below.alloc ?_ ?_ _ | with_reducible refine Below.setCell ?_ ?_ _ | with_reducible exact Nat.le_refl _ | (focus (simp; done)) | (focus (simp; omega)) | omega))⟩
end
end Go.Proofs.YtmaogkgjiplckaaGreat

