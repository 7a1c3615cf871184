import Derived.Test.YtmaogkgjiplckaaQL7
import Derived.Deep.Slices
import Derived.Lib.SmallJoins
import Derived.OpenShut
import Derived.Deep.Strs
set_option linter.unusedSimpArgs false
set_option linter.unusedVariables false
namespace Go.Proofs.Ytmaogkgjiplckaa
open Go.RowKit
/-- what Of answers of a right term -/
def OfRes (b : BS) (root : List Int) (e : Ending) (w' : World) : Prop :=
  ∃ (q : Nat) (cs : List Value) (ar : Option Addr) (cr : Nat) (iv rv : List Value), e = .returned (.tuple #[.agg (fcells (.slice (some ⟨q, 0, none⟩) b.g.cl.length b.g.cl.length) (.int .i64 b.g.n) (.slice ar root.length cr) iv rv).toArray, .int .i64 0]) ∧
    OwnW w' q b.g.cl.length cs ∧ SlsX (fun _ => True) w' cs b.g.cl ∧ SlX (fun _ => True) w' (.slice ar root.length cr) root ∧ iv.length = 16 ∧ rv.length = 8 ∧ SlsX (fun _ => True) w' iv b.inp ∧ SlsX (fun _ => True) w' rv b.reg ∧
    (∀ (i : Nat) (v : Value), iv[i]? = some v → b.inp[i]? = some [] → v = .slice none 0 0) ∧ (∀ (i : Nat) (v : Value), rv[i]? = some v → b.reg[i]? = some [] → v = .slice none 0 0) ∧ b.g.cl.length ≤ 4194304
structure FR2 (u w : World) (bb gb : Nat) (b : BS) (q : Nat) (cs : List Value) (vr lv wv : Value) (root : List Int) (iv rv : List Value) : Prop where
  f : FRep w bb gb b (.slice (some ⟨q, 0, none⟩) b.g.cl.length b.g.cl.length) (.int .i64 b.g.n) vr lv wv iv rv
  o : OwnW w q b.g.cl.length cs
  qb : q ≠ bb
  cls : SlsX (fun k => k ≠ bb) w cs b.g.cl
  rt : SlX (fun k => k ≠ bb) w vr root
  k : Kept (fun j => j < u.heap.size) u w
  ub : u.heap.size ≤ bb
section
variable {u w w' : World} {bb gb : Nat} {b : BS} {q : Nat} {cs : List Value} {vr lv wv : Value} {root : List Int} {iv rv : List Value}
theorem FR2.below (h : FR2 u w bb gb b q cs vr lv wv root iv rv) (hb : Below w.heap.size w w') : FR2 u w' bb gb b q cs vr lv wv root iv rv :=
  ⟨h.f.below hb, h.o.kept (Kept.ofBelow (X := fun _ => True) hb) trivial, h.qb, h.cls.kept (Kept.ofBelow hb), h.rt.kept (Kept.ofBelow hb), h.k.trans (Kept.ofBelow hb), h.ub⟩
theorem FR2.setI (h : FR2 u w bb gb b q cs vr lv wv root iv rv) {i : Nat} (hi : i < 16) {v : Value} {l : List Int} (hl : b.inp[i]? = some l) (hv : SlX (fun k => k ≠ bb) w v l) (hn : l = [] → v = .slice none 0 0) : FR2 u (w.setCell ⟨bb, 3 + i, none⟩ v) bb gb b q cs vr lv wv root (iv.set i v) rv :=
  ⟨h.f.setI hi hl hv hn, h.o.kept set_kept h.qb, h.qb, h.cls.kept set_kept, h.rt.kept set_kept, h.k.trans (set_kept.mono fun j _ hj => by show j ≠ bb; have := h.ub; have : j < u.heap.size := hj; omega), h.ub⟩
theorem FR2.setR (h : FR2 u w bb gb b q cs vr lv wv root iv rv) {i : Nat} (hi : i < 8) {v : Value} {l : List Int} (hl : b.reg[i]? = some l) (hv : SlX (fun k => k ≠ bb) w v l) (hn : l = [] → v = .slice none 0 0) : FR2 u (w.setCell ⟨bb, 19 + i, none⟩ v) bb gb b q cs vr lv wv root iv (rv.set i v) :=
  ⟨h.f.setR hi hl hv hn, h.o.kept set_kept h.qb, h.qb, h.cls.kept set_kept, h.rt.kept set_kept, h.k.trans (set_kept.mono fun j _ hj => by show j ≠ bb; have := h.ub; have : j < u.heap.size := hj; omega), h.ub⟩
end
section
variable {ops : Array Oper} {rest : List Oper} {o : Oper} {a : Act} {w : World} {Q : Exit → Act → World → Prop}
theorem wl_ldform {l : List Value} (hgd : o.guard = none) (x : Operand) (ho : o.op = .load 63 x) (g : Nat) (hx : a.eval x = .pointer (some ⟨g, 0, none⟩)) (t : TypeId) (cs : Array Value) (fr : Nat × Nat) (hg : w.heap[g]? = some (.cells cs t fr)) (hs : 27 ≤ cs.size) (hl : cs.toList.take 27 = l)
    (h : wpList Try.prog ops Q rest (a.put o.dst (.agg l.toArray)) w) : wpList Try.prog ops Q (o :: rest) a w :=
  wpList_plain hgd fun _ hK => by
    subst hl
    unfold Oper.wp execOp
    simp only [ho, hx, Sem.run_bind, load_form w g t cs fr hg hs, Result.andThen_ok]
    exact hK _ _ h
end
theorem slsx_one {Z : Nat → Prop} {w : World} {xs : List Value} {cl : List (List Int)} (h : SlsX Z w xs cl) : ∀ v ∈ xs, v.oneCell' = true := fun v hv => by
  obtain ⟨i, hi⟩ := List.mem_iff_getElem?.1 hv
  have hl := (List.getElem?_eq_some_iff.1 hi).1
  obtain ⟨ao, c, e⟩ := (h.2 i v _ hi (List.getElem?_eq_getElem (by rw [← h.1]; exact hl))).shape
  rw [e]; rfl
theorem bc_size {c0 c1 c2 lv wv : Value} {iv rv : List Value} {gb : Nat} (hi : iv.length = 16) (hr : rv.length = 8) : 27 ≤ (bcells c0 c1 c2 iv rv lv wv gb).toArray.size := by
  rw [List.size_toArray]
  unfold bcells
  simp [hi, hr]
theorem SlsX.any {Z : Nat → Prop} {w : World} {xs : List Value} {cl : List (List Int)} (h : SlsX Z w xs cl) : SlsX (fun _ => True) w xs cl := h.mono fun _ _ _ => trivial
/-- a row of literals lies in no empty form -/
theorem slx_off {Z : Nat → Prop} {w : World} {r0 : Nat} {v : Value} {l : List Int} (h : SlX Z w v l) (hz : ∀ x ∈ l, x ≠ 0) (hf : w.heap[r0]? = some (.cells fzero.toArray 63 (0, 0))) : SlX (fun k => Z k ∧ k ≠ r0) w v l := by
  obtain ⟨ao, cap, e, hc, h0, hr⟩ := h
  refine ⟨ao, cap, e, hc, h0, fun hne => ?_⟩
  obtain ⟨b, o, e2, hZ, hlt, hR⟩ := hr hne
  refine ⟨b, o, e2, ⟨hZ, ?_⟩, hlt, hR⟩
  rintro rfl
  obtain ⟨x, l', rfl⟩ : ∃ x l', l = x :: l' := by cases l with
    | nil => exact absurd rfl hne
    | cons x l' => exact ⟨x, l', rfl⟩
  have hc0 := hR 0 x rfl
  rw [cell_of_row w b _ _ _ _ hf, List.getElem?_toArray] at hc0
  have hx := hz x (List.mem_cons_self ..)
  have hall : ∀ (i : Nat) (y : Int), fzero[i]? = some (.int .i64 y) → y = 0 := by
    intro i y hi
    have hi27 : i < 27 := by have := (List.getElem?_eq_some_iff.1 hi).1; rw [fzero_len] at this; exact this
    have key : ∀ i : Fin 27, fzero[i.1]? = some (.slice none 0 0) ∨ fzero[i.1]? = some (.int .i64 0) := by
      intro i
      match i with
      | ⟨0, _⟩ => exact .inl rfl
      | ⟨1, _⟩ => exact .inr rfl
      | ⟨i + 2, hi⟩ =>
        left
        have hrep : fzero = [.slice none 0 0, .int .i64 0] ++ List.replicate 25 (.slice none 0 0) := rfl
        rw [hrep, List.getElem?_append_right (by simp), List.getElem?_replicate]
        simp; omega
    rcases key ⟨i, hi27⟩ with h | h
    · simp only at h; rw [h] at hi; cases hi
    · simp only at h; rw [h] at hi; injection hi with hi; injection hi with _ hi; exact hi.symm
  exact hx (hall _ _ hc0)
theorem slsx_off {Z : Nat → Prop} {w : World} {r0 : Nat} {xs : List Value} {cl : List (List Int)} (h : SlsX Z w xs cl) (hz : ∀ c ∈ cl, ∀ x ∈ c, x ≠ 0) (hf : w.heap[r0]? = some (.cells fzero.toArray 63 (0, 0))) : SlsX (fun k => Z k ∧ k ≠ r0) w xs cl :=
  ⟨h.1, fun i x l hx hl => slx_off (h.2 i x l hx hl) (hz l (List.mem_of_getElem? hl)) hf⟩
theorem SlX.any {Z : Nat → Prop} {w : World} {v : Value} {l : List Int} (h : SlX Z w v l) : SlX (fun _ => True) w v l := h.mono fun _ _ _ => trivial
theorem bK_leaf {ls : List Nd} (hT : TF ls) : ∀ l, l ∈ (bK ls ls.length).inp ∨ l ∈ (bK ls ls.length).reg → l.length ≤ 1000000 ∧ ∀ x ∈ l, x ≠ 0 := by
  obtain ⟨s, hs⟩ := blast_ok (I := fun _ => 0) (R := fun _ => 0) hT (fun _ => by decide) (fun _ => by decide) ls.length (Nat.le_refl _)
  rintro l (h | h)
  · obtain ⟨i, hi⟩ := List.mem_iff_getElem?.1 h
    have h16 := hs.inp i (by have := (List.getElem?_eq_some_iff.1 hi).1; have := hs.il; omega)
    have e : (bK ls ls.length).inp.getD i [] = l := by rw [List.getD_eq_getElem?_getD, hi]; rfl
    rw [e] at h16
    rcases h16 with rfl | h16
    · simp
    · exact ⟨by have := h16.len; omega, fun x hx => (h16.isl x hx).1⟩
  · obtain ⟨i, hi⟩ := List.mem_iff_getElem?.1 h
    have h16 := hs.reg i (by have := (List.getElem?_eq_some_iff.1 hi).1; have := hs.rl; omega)
    have e : (bK ls ls.length).reg.getD i [] = l := by rw [List.getD_eq_getElem?_getD, hi]; rfl
    rw [e] at h16
    rcases h16 with rfl | h16
    · simp
    · exact ⟨by have := h16.len; omega, fun x hx => (h16.isl x hx).1⟩
set_option maxRecDepth 100000 in
set_option maxHeartbeats 8000000 in
theorem of_ok (ls : List Nd) (v : Value) (w : World) (h : SlIs 6 Nd.cells w v ls) (hwf : ∀ d ∈ ls, NdWf d) (hE : (tchk ls).1 = 0) (hll : ls.length ≤ 1000000) (hT : TF ls) (hne : ls ≠ []) (ho : ∀ d ∈ ls, 0 ≤ d.op ∧ d.op ≤ 24) (ha : ls.any arrB = false) (hn : ∀ k, k ≤ ls.length → (bK ls k).g.n + 40000 ≤ 1048576) :
    Calls Try.prog 31 #[v] w fun e w' => OfRes (bK ls ls.length) ((bK ls ls.length).at ((ls.length - 1 : Nat) : Int)) e w' ∧ Below w.heap.size w w' := by
  have hmf : ∀ (fn : Fn) (first cap : Array Value) (w : World), (Instr.makeFunc fn first cap).run Try.prog w = .ok (.func fn first cap) w := fun _ _ _ _ => rfl
  obtain ⟨b0, off, cap, rfl, -, HR0⟩ := h.cases.resolve_left (by rintro ⟨_, _, _, e⟩; exact hne e)
  have hcap : ls.length ≤ cap := by
    obtain ⟨_, _, e, hc, _⟩ := h
    injection e with e1 e2 e3
    omega
  have HC : Hid (∀ u : World, Below w.heap.size w u → Calls Try.prog 59 #[.slice (some ⟨b0, off, none⟩) ls.length cap] u fun e w' => e = .returned (.tuple #[.int .i64 0, .int .i64 (tchk ls).2]) ∧ Below u.heap.size u w') := Lib.hid (fun u hb => by
    have := check_any ls _ u (h.below hb) hwf
    rw [hE] at this
    exact this)
  have HCT : Hid (∀ u : World, Below w.heap.size w u → ∀ q, WaysAt u q → Calls Try.prog 61 #[.slice (some ⟨b0, off, none⟩) ls.length cap, .func (Fn.func 62) #[] #[.pointer (some ⟨q, 0, none⟩)]] u fun e w' => e = .returned (.bool false) ∧ Below u.heap.size u w') := Lib.hid (fun u hb q hq => containsn_any q _ ls u (h.below hb) hll hq ho false (Lib.hid ha))
  generalize (tchk ls).2 = E2 at HC
  clear h hE ho ha
  go_enter Try.func31, Try.ntmps31
  (iterate 12 (first | (with_reducible first | refine xA ?_ | refine xB ?_ | refine xC ?_ | refine xD ?_ | refine xH ?_ | refine xI rfl ?_ | refine xE ?_ | refine xF ?_ | refine xG ?_) | go_values | go_skip | go_guarded | go_step | go_upon | go_back | ((with_reducible show Oper.upon _ _ _ _ _ _); go_simp) | (dsimp only)))
  refine wp_abs (fun u => Below w.heap.size w u ∧ u.heap[w.heap.size]? = some (.cells fzero.toArray 63 (0, 0))) ⟨by (repeat (first | with_reducible exact Below.refl _ _ | assumption | with_reducible refine below_drewN ?_ _ | with_reducible refine Below.drew ?_ | with_reducible refine Below.setRow ?_ ?_ _ | with_reducible refine Below.alloc ?_ ?_ _ | with_reducible refine Below.setCell ?_ ?_ _ | with_reducible exact Nat.le_refl _ | (focus (simp; done)) | (focus (simp; omega)) | omega)), heap_alloc_new w (.cells fzero.toArray 63)⟩ ?_
  rintro w1 ⟨hb1, hf1⟩
  have HF := Lib.hid hf1
  clear hf1
  (repeat (first | (with_reducible first | refine xA ?_ | refine xB ?_ | refine xC ?_ | refine xD ?_ | refine xH ?_ | refine xI rfl ?_ | refine xE ?_ | refine xF ?_ | refine xG ?_) | go_skip | go_guarded | (go_at_call 59; (with_reducible refine (HC.out _ hb1).mono ?_); rintro _ w2 ⟨rfl, hb⟩; replace HF := Lib.hid ((Kept.ofBelow (X := fun _ => True) hb).at HF.out trivial); replace hb1 := hb1.trans (hb.mono hb1.size); clear hb) | (go_at_call 60; (with_reducible refine (ways_any _).mono ?_); rintro _ w3 ⟨rfl, hb⟩; replace HF := Lib.hid ((Kept.ofBelow (X := fun _ => True) hb).at HF.out trivial); replace hb1 := hb1.trans (hb.mono hb1.size); have hlt3 := lt_of_block HF.out; clear hb) | (go_at_call 61; (with_reducible refine (HCT.out _ hb4 _ HWY.out).mono ?_); rintro _ w5 ⟨rfl, hb⟩; replace HF := Lib.hid ((Kept.ofBelow (X := fun _ => True) hb).at HF.out trivial); replace HWY := Lib.hid (HWY.out.below hb); replace hb4 := hb4.trans (hb.mono hb4.size); clear hb) | ((with_reducible refine wl_id ?_); refine wl_strow rfl 99 _ _ rfl w3.heap.size (waysV 22).toArray rfl rfl 99 #[Value.nilFunc, Value.nilFunc, Value.nilFunc, Value.nilFunc, Value.nilFunc, Value.nilFunc, Value.nilFunc, Value.nilFunc, Value.nilFunc, Value.nilFunc, Value.nilFunc, Value.nilFunc, Value.nilFunc, Value.nilFunc, Value.nilFunc, Value.nilFunc, Value.nilFunc, Value.nilFunc, Value.nilFunc, Value.nilFunc, Value.nilFunc, Value.nilFunc, Value.nilFunc, Value.nilFunc, Value.nilFunc] (heap_alloc_new w3 _) (by rw [List.size_toArray, waysV_len]; exact sizeTW) (waysV_len 22).symm (waysV_one 22) ?_; intro w4 hh4 hg4; have HWY := Lib.hid (ways_at hh4); have hb4 := below_grown (Below.alloc hb1 hb1.size _) hg4 (fun k e => by injection e with e; have := hb1.size; omega); replace HF := Lib.hid (keep_at hg4 ((heap_alloc_old w3 _ hlt3).trans HF.out) (fun e => by injection e with e; omega)); have hq6 := lt_of_block hh4; clear hh4 hg4; (try simp only [Act.put, List.setIfInBounds_toArray, List.set_cons_succ, List.set_cons_zero])) | (go_at_call 10; (with_reducible refine (New_any (X := fun k => k < w5.heap.size) w5 (fun k h => h)).mono ?_); rintro _ w6 ⟨gb, rfl, hG6, hb6⟩) | ((with_reducible refine wl_id ?_); refine wl_bld (cells := (bcells (.slice none 0 0) (.int .i64 0) (.slice none 0 0) (nilV 16) (nilV 8) (.slice (some ⟨b0, off, none⟩) ls.length cap) (.slice none 0 0) gb).toArray) rfl 105 _ rfl (by kernel_rfl) ?_; (try simp only [Act.put, List.setIfInBounds_toArray, List.set_cons_succ, List.set_cons_zero])) | go_step3 | ((with_reducible show Exit.noGoto _ _ _ _); simp only [Exit.noGoto_normal, Exit.noGoto_exit, Exit.noGoto_ret]) | go_values | go_skip | go_guarded | go_step | go_upon | go_back | ((with_reducible show Oper.upon _ _ _ _ _ _); go_simp) | (dsimp only)))
  have hq5 : w3.heap.size < w5.heap.size := World.block_lt_of_cell? w5 _ (HWY.out 0 (by decide))
  have hbb := hb6.size
  refine wp_abs (fun u => OfR ls 0 w5 w6.heap.size gb w5.heap.size (.slice (some ⟨b0, off, none⟩) ls.length cap) u) (ofr_start ls hG6 hb6) ?_
  clear hG6 hb6 hb1 hlt3 hq6
  intro w7 hR7
  have HR7 := Lib.hid hR7
  clear hR7
  generalize w6.heap.size = bb at *
  generalize w3.heap.size = q6 at *
  go_loopw [8, 34] (fun e8 i wr => ∃ k : Nat, k ≤ ls.length ∧ e8 = .int .i64 0 ∧ i = .int .i64 k ∧ Hid (OfR ls k w5 bb gb w5.heap.size (.slice (some ⟨b0, off, none⟩) ls.length cap) wr)) (fun _ i _ => ls.length - (intOf i).toNat)
  case atStart => exact ⟨0, Nat.zero_le _, rfl, rfl, HR7⟩
  case round =>
    clear HR7
    obtain ⟨k, hk, rfl, rfl, HR⟩ := hrel
    obtain ⟨X, iv, rv, vs, wv, hB, hXB, hBb, hbase, hK⟩ := HR.out
    clear HR
    obtain ⟨aw, cw, rfl⟩ := ownsRow_shape hB.row
    have hbw : Below w.heap.size w wr := hb4.trans ((hK.toBelow (Nat.le_refl _) fun _ h => h).mono hb4.size)
    rcases Nat.lt_or_ge k ls.length with hlt | hge
    · obtain ⟨d, hd⟩ : ∃ d, ls[k]? = some d := ⟨_, List.getElem?_eq_getElem hlt⟩
      have hi := Lib.hid hd
      obtain ⟨s, hs⟩ := blast_ok (I := fun _ => 0) (R := fun _ => 0) hT (fun _ => by decide) (fun _ => by decide) k hk
      obtain ⟨s', hst⟩ := step_ok hT hs hd (fun _ => by decide) (fun _ => by decide)
      obtain ⟨j, f, hj, hj25, hwj, hent, HF2⟩ := way_any hT hs hd (hwf d (List.mem_of_getElem? hd)) (hn k hk)
      have hwl := hst.wd.len
      have hdw := (hT k d hd).wd fun a ha => hT.wd a (by omega)
      have hbk : bK ls (k + 1) = .push (bword (bK ls k) d) := by rw [bK, hd]
      have hrw := hst.ws
      obtain ⟨r, hr⟩ : ∃ r, bword (bK ls k) d = r := ⟨_, rfl⟩
      rw [hr] at hwl hbk hrw HF2
      obtain ⟨N, hN⟩ : ∃ N, r.2.length = N := ⟨_, rfl⟩
      have hN1 : 1 ≤ N := by omega
      have fN : ((N : Int) == 0) = false := by simp; omega
      have HF3 := Lib.hid HF2
      have HENT := Lib.hid hent
      have HBK := Lib.hid hbk
      have HRW := Lib.hid hrw
      have HN := Lib.hid hN
      have HJ := Lib.hid hj
      have HWJ := Lib.hid hwj
      clear hent hs hst hd hwl hdw hr HF2 hbk hrw hN hj hwj
      have HRn := HR0.below hbw
      (repeat (first | (with_reducible first | refine xA ?_ | refine xB ?_ | refine xC ?_ | refine xD ?_ | refine xH ?_ | refine xI rfl ?_ | refine xE ?_ | refine xF ?_ | refine xG ?_) | go_skip | go_guarded | ((with_reducible refine wl_id ?_); refine wl_ldNdA HRn (by (repeat (first | with_reducible exact Below.refl _ _ | assumption | with_reducible refine below_drewN ?_ _ | with_reducible refine Below.drew ?_ | with_reducible refine Below.setRow ?_ ?_ _ | with_reducible refine Below.alloc ?_ ?_ _ | with_reducible refine Below.setCell ?_ ?_ _ | with_reducible exact Nat.le_refl _ | (focus (simp; done)) | (focus (simp; omega)) | omega))) k _ hi rfl _ rfl rfl ?_; simp only [Act.put, List.setIfInBounds_toArray, List.set_cons_succ, List.set_cons_zero]; (try dsimp only)) | go_values | go_skip | go_guarded | go_step | go_upon | go_back | ((with_reducible show Oper.upon _ _ _ _ _ _); go_simp) | (dsimp only)))
      refine wp_abs (fun u => Below wr.heap.size wr u ∧ RowAt 6 Nd.cells u wr.heap.size 0 [d]) ⟨by (repeat (first | with_reducible exact Below.refl _ _ | assumption | with_reducible refine below_drewN ?_ _ | with_reducible refine Below.drew ?_ | with_reducible refine Below.setRow ?_ ?_ _ | with_reducible refine Below.alloc ?_ ?_ _ | with_reducible refine Below.setCell ?_ ?_ _ | with_reducible exact Nat.le_refl _ | (focus (simp; done)) | (focus (simp; omega)) | omega)), row6 (by simp [go_sem]) (by simp [go_sem]) (by simp [go_sem]) (by simp [go_sem]) (by simp [go_sem]) (by simp [go_sem])⟩ ?_
      rintro u1 ⟨hbn, hRN⟩
      have hXq : X q6 := hXB q6 hq5
      have hqb : q6 ≠ bb := by omega
      have hcq := HWY.out j hj25
      rw [HWJ.out] at hcq
      have hcq1 := cell_keep hbn (hK.cell hcq hq5)
      refine wp_region_held (S := fun u => RowAt 6 Nd.cells u wr.heap.size 0 [d] ∧ u.cell? ⟨q6, j, none⟩ = some (.func (Fn.func f) #[] #[])) (by kernel_rfl) ?_
      replace hRN : RowAt 6 Nd.cells ({ u1 with drawn := u1.drawn + 1 } : World) wr.heap.size 0 [d] := hRN
      replace hcq1 : ({ u1 with drawn := u1.drawn + 1 } : World).cell? ⟨q6, j, none⟩ = some (.func (Fn.func f) #[] #[]) := hcq1
      replace hbn : Below wr.heap.size wr ({ u1 with drawn := u1.drawn + 1 } : World) := hbn.trans ⟨rfl, rfl, rfl, Nat.le_refl _, fun _ _ => rfl⟩
      generalize ({ u1 with drawn := u1.drawn + 1 } : World) = u0 at *
      have HSC := And.intro hRN hcq1
      have hlt0 := row_lt hRN
      clear hRN hcq1 hcq
      have hji : (j : Int) < 25 := by omega
      have hj0 : (0 : Int) ≤ (j : Int) := by omega
      obtain ⟨hO, hzq⟩ := hB.owned hbn (q := wr.heap.size) (Nat.le_refl _) hlt0
      have HCALL := Lib.hid (HF3.out _ _ _ _ _ _ _ _ _ u0 (Nat.le_trans hbase hbn.size) hO)
      refine wpAnyH_take (i := 0) (v := .pointer (some ⟨wr.heap.size, 0, none⟩)) rfl (by kernel_rfl) (by kernel_rfl) (by kernel_rfl) (fun _ _ _ h => h) (Or.inl ⟨rfl, fun w _ => by go_simp⟩) HSC ?_; simp only [Act.put, List.getElem_toArray, List.getElem_cons_zero, List.getElem_cons_succ, List.setIfInBounds_toArray, List.set_cons_succ, List.set_cons_zero]
      refine wpAnyH_take (i := 1) (v := .int .i64 (j : Nat)) rfl (by kernel_rfl) (by kernel_rfl) (by kernel_rfl) (fun _ _ _ h => h) (Or.inl ⟨rfl, fun w hw => by have n0 := (nd_cells hw.1).1; rw [HJ.out] at n0; go_simp⟩) HSC ?_
      simp only [Act.put, List.getElem_toArray, List.getElem_cons_zero, List.getElem_cons_succ, List.setIfInBounds_toArray, List.set_cons_succ, List.set_cons_zero]
      refine wpAnyH_take (i := 2) (v := .pointer (some ⟨q6, j, none⟩)) rfl (by kernel_rfl) (by kernel_rfl) (by kernel_rfl) (fun _ _ _ h => h) (Or.inl ⟨rfl, fun w _ => by go_simp⟩) HSC ?_; simp only [Act.put, List.getElem_toArray, List.getElem_cons_zero, List.getElem_cons_succ, List.setIfInBounds_toArray, List.set_cons_succ, List.set_cons_zero]
      refine wpAnyH_take (i := 3) (v := .func (Fn.func f) #[] #[]) rfl (by kernel_rfl) (by kernel_rfl) (by kernel_rfl) (fun _ _ _ h => h) (Or.inl ⟨rfl, fun w hw => by have h := hw.2; go_simp⟩) HSC ?_
      simp only [Act.put, List.getElem_toArray, List.getElem_cons_zero, List.getElem_cons_succ, List.setIfInBounds_toArray, List.set_cons_succ, List.set_cons_zero]
      refine wpAnyH_take (i := 4) (v := .pointer (some ⟨bb, 0, none⟩)) rfl (by kernel_rfl) (by kernel_rfl) (by kernel_rfl) (fun _ _ _ h => h) (Or.inl ⟨rfl, fun w _ => by go_simp⟩) HSC ?_; simp only [Act.put, List.getElem_toArray, List.getElem_cons_zero, List.getElem_cons_succ, List.setIfInBounds_toArray, List.set_cons_succ, List.set_cons_zero]
      refine wpAnyH_take (i := 5) (v := .agg #[.int .i64 d.op, .int .i64 d.w, .int .u64 d.n, .int .i64 d.k0, .int .i64 d.k1, .int .i64 d.k2]) rfl (by kernel_rfl) (by kernel_rfl) (by kernel_rfl) (fun _ _ _ h => h) (Or.inl ⟨rfl, fun w hw => by obtain ⟨n0, n1, n2, n3, n4, n5⟩ := nd_cells hw.1; go_simp⟩) HSC ?_
      simp only [Act.put, List.getElem_toArray, List.getElem_cons_zero, List.getElem_cons_succ, List.setIfInBounds_toArray, List.set_cons_succ, List.set_cons_zero]
      refine wpAnyH_all (rs := [6]) (by kernel_rfl) (by simp) (fun i hi => ?_)
      obtain rfl : i = 6 := by simpa using hi
      refine wpOp_one rfl ?_
      have hent : ∀ (args : Array Value) (w : World), (callFunc f args).run Try.prog w = .ok (.enter f args) w := HENT.out
      (repeat (first | (with_reducible first | refine xA ?_ | refine xB ?_ | refine xC ?_ | refine xD ?_ | refine xH ?_ | refine xI rfl ?_ | refine xE ?_ | refine xF ?_ | refine xG ?_) | go_skip | go_guarded | ((with_reducible refine HCALL.out.mono ?_); rintro _ w2 ⟨v1, Y, iv2, rv2, rfl, hXY, hB2, hS2, hK2⟩; (obtain ⟨a1, c1, rfl⟩ := slx_shape hS2 HN.out)) | go_values | go_skip | go_guarded | go_step | go_upon | go_back | ((with_reducible show Oper.upon _ _ _ _ _ _); go_simp) | (dsimp only)))
      have hne2 : wr.heap.size ≠ bb := fun e => hzq.2.1 e
      have hS3 := And.intro (row_kept HSC.1 hK2 ⟨.inr rfl, hne2⟩) (hK2.cell HSC.2 ⟨.inl hXq, hqb⟩)
      refine ⟨hS3, ?_⟩
      refine wpAnyH_all (rs := [7]) (by kernel_rfl) (by simp) (fun i hi => ?_)
      obtain rfl : i = 7 := by simpa using hi
      refine wpOp_one rfl ?_
      (repeat (first | (with_reducible first | refine xA ?_ | refine xB ?_ | refine xC ?_ | refine xD ?_ | refine xH ?_ | refine xI rfl ?_ | refine xE ?_ | refine xF ?_ | refine xG ?_) | go_values | go_skip | go_guarded | go_step | go_upon | go_back | ((with_reducible show Oper.upon _ _ _ _ _ _); go_simp) | (dsimp only)))
      refine ⟨hS3, ?_⟩
      refine wpAnyH_done (by kernel_rfl) ?_ _
      have hsz2 : w5.heap.size ≤ w2.heap.size := Nat.le_trans hbase (Nat.le_trans hbn.size hK2.size)
      have hK3 : Kept (fun j => j < w5.heap.size) w5 w2 := (hK.trans (Kept.below hbn fun j hj hx => Nat.lt_of_lt_of_le hx hbase)).trans (hK2.mono fun j hj hx => ⟨.inl (hXB j hx), by show j ≠ bb; have : j < w5.heap.size := hx; omega⟩)
      have hXY2 : ∀ j, j < w5.heap.size → Y j := fun j hj => hXY j (.inl (hXB j hj))
      have hvk : vs.length = k := by rw [hB2.words.1, HRW.out]; exact bK_ws hT k hk
      have hvm : vs.length ≤ 1000000 := by omega
      have hcw := hB2.cw
      clear hS3 HSC hK2 hXY hO hzq hlt0 hB hbn hK hXB hbase hXq hji hj0 hent
      have HB2 := Lib.hid hB2
      have HS2 := Lib.hid hS2
      have HK3 := Lib.hid hK3
      have HXY2 := Lib.hid hXY2
      have HVK := Lib.hid hvk
      clear hB2 hS2 hK3 hXY2 hvk HCALL
      (repeat (first | (with_reducible first | refine xA ?_ | refine xB ?_ | refine xC ?_ | refine xD ?_ | refine xH ?_ | refine xI rfl ?_ | refine xE ?_ | refine xF ?_ | refine xG ?_) | go_skip | go_guarded | ((with_reducible refine wl_id ?_); refine wl_pushS rfl _ _ rfl w5.heap.size (.slice aw vs.length cw) vs.length vs rfl (HB2.out.row.alloc _) w2.heap.size a1 N c1 rfl (cell_new w2 _ _) hvm (Nat.le_trans hsz2 (by simp)) ?_; intro wv9 w9 hO9 hg9 hl9; (obtain ⟨aw9, cw9, rfl⟩ := ownsRow_shape hO9); have hbx9 := keep_at hg9 (HB2.out.below (Below.alloc (Below.refl _ _) (Nat.le_refl _) _)).box (fun e => (HB2.out.xw bb e.symm).2 rfl); have hc9 := (cell_of_row w9 bb 29 _ _ _ hbx9).trans (by rw [List.getElem?_toArray, bc_end HB2.out.il HB2.out.rl 2]); have hf9 := frozen_of_row w9 bb 29 _ _ hbx9; clear hbx9; have HO9 := Lib.hid hO9; have HG9 := Lib.hid hg9; have HL9 := Lib.hid hl9; clear hO9 hg9 hl9; (try simp only [Act.put, List.setIfInBounds_toArray, List.set_cons_succ, List.set_cons_zero])) | go_step3 | ((with_reducible show Exit.noGoto _ _ _ _); simp only [Exit.noGoto_normal, Exit.noGoto_exit, Exit.noGoto_ret]) | go_values | go_skip | go_guarded | go_step | go_upon | go_back | ((with_reducible show Oper.upon _ _ _ _ _ _); go_simp) | (dsimp only)))
      have hR9 := ofr_next HBK.out HB2.out HS2.out HO9.out HG9.out HL9.out HXY2.out hBb hsz2 HK3.out
      exact ⟨⟨k + 1, by omega, rfl, by go_num, Lib.hid hR9⟩, by simp [intOf]; omega⟩
    · obtain rfl : k = ls.length := by omega
      obtain ⟨L, hL⟩ : ∃ L, ls.length = L + 1 := ⟨ls.length - 1, by have := List.length_pos_iff.2 hne; omega⟩
      have hwl := bK_ws hT ls.length (Nat.le_refl _)
      obtain ⟨s, hs⟩ := blast_ok (I := fun _ => 0) (R := fun _ => 0) hT (fun _ => by decide) (fun _ => by decide) ls.length (Nat.le_refl _)
      have hWL := hs.ws L (by omega)
      have hwd := hT.wd L (by omega)
      have hGI := hs.gi
      obtain ⟨qw, nw, cw', xw, mw, cx, hwv, hLn, hcl, hSl, hml⟩ := hB.word L (by omega)
      injection hwv with e1 e2 e3
      subst e1; subst e2; subst e3
      have hcw := hB.cw
      have HLm := Lib.hid (show ls.length - 1 = L by omega)
      have hbl : ((bK ls ls.length).at L).length ≤ 64 ∧ 1 ≤ ((bK ls ls.length).at L).length := by rw [hWL.len]; omega
      have HLN := Lib.hid (bK_leaf hT)
      have hlt5 := lt_of_block HF.out
      have HNR := Lib.hid (show ∀ x ∈ (bK ls ls.length).at L, x ≠ 0 from fun x hx => (hWL.isl x hx).1)
      have HNC := Lib.hid (show ∀ c ∈ (bK ls ls.length).g.cl, ∀ x ∈ c, x ≠ 0 from fun c hc x hx => (hGI.rng c hc x hx).1)
      generalize hbK : bK ls ls.length = b at *
      have HBK := Lib.hid hbK
      clear hbK
      have HNE := Lib.hid (show ∀ l ∈ b.g.cl, l ≠ [] from hGI.ne)
      have HLL := Lib.hid (show ∀ l ∈ b.g.cl, l.length ≤ 1000000 from fun c hc => by have := hGI.len c hc; omega)
      have HSL := Lib.hid hSl
      have hLi : (ls.length : Int) - 1 = (L : Int) := by omega
      have hLv : (L : Int) < (vs.length : Int) := by omega
      have HML := Lib.hid hml
      have HBL := Lib.hid hbl
      have hB' := hB
      have HB := Lib.hid hB
      have HK := Lib.hid hK
      have HXB := Lib.hid hXB
      clear hs hWL hwd hGI hSl hml hbl hwl hk hge hn hwf hB hK hXB hL hB'
      (repeat (first | (with_reducible first | refine xA ?_ | refine xB ?_ | refine xC ?_ | refine xD ?_ | refine xH ?_ | refine xI rfl ?_ | refine xE ?_ | refine xF ?_ | refine xG ?_) | go_skip | go_guarded | (go_at_call 57; (with_reducible refine (cloneX (.slice xw mw cx) (b.at L) wr HSL.out (by have := HBL.out; omega) (fun e => absurd e (fun e => by have := HBL.out; rw [e] at this; simp at this))).mono ?_); rintro _ w2 ⟨ar, cr, rfl, -, hSr, hb2⟩; have hF2 := HB.out.form.below hb2; have hc2 : w2.cell? ⟨bb, 2, none⟩ = some (.slice none 0 0) := hF2.cell 2; have hf2 := frozen_of_row w2 bb 2 _ _ hF2.box) | go_step3 | ((with_reducible show Exit.noGoto _ _ _ _); simp only [Exit.noGoto_normal, Exit.noGoto_exit, Exit.noGoto_ret]) | go_values | go_skip | go_guarded | go_step | go_upon | go_back | ((with_reducible show Oper.upon _ _ _ _ _ _); go_simp) | (dsimp only)))
      refine wp_abs (fun u => u = w2.setCell ⟨bb, 2, none⟩ (.slice ar (b.at L).length cr)) rfl ?_
      intro w3 e3
      have hF3 : FRep w3 bb gb b (.slice none 0 0) (.int .i64 0) (.slice ar (b.at L).length cr) (.slice (some ⟨b0, off, none⟩) ls.length cap) (.slice (some ⟨qw, 0, none⟩) vs.length cw) iv rv := by rw [e3]; exact hF2.set 2 _ rfl
      have hG3 : GR X w5.heap.size w3 gb b.g := by rw [e3]; exact (HB.out.gr.below hb2).other set_grown HB.out.xb
      have hSr3 : SlX (fun k => k ≠ bb) w3 (.slice ar (b.at L).length cr) (b.at L) := by
        rw [e3]
        exact (hSr.mono fun k _ hk => by show k ≠ bb; have := HB.out.lt; have : wr.heap.size ≤ k := hk; omega).kept set_kept
      have hK3 : Kept (fun j => j < w5.heap.size) w5 w3 := by
        rw [e3]
        exact (HK.out.trans (Kept.ofBelow hb2)).trans (set_kept.mono fun j _ hj => by show j ≠ bb; have : j < w5.heap.size := hj; omega)
      have hXB := HB.out.xb
      clear e3 hF2 hc2 hf2 hb2 hSr HSL HB HK HXB HML HBL hbw hcw hcl hLn hLv hLi
      have hcg := hF3.cell 28
      rw [bc_end hF3.il hF3.rl 1] at hcg
      refine wp_region_held (S := fun u => u.cell? ⟨bb, 28, none⟩ = some (.pointer (some ⟨gb, 0, none⟩))) (by kernel_rfl) ?_
      have hbd : Below w3.heap.size w3 ({ w3 with drawn := w3.drawn + 1 } : World) := ⟨rfl, rfl, rfl, Nat.le_refl _, fun _ _ => rfl⟩
      have HF3 := Lib.hid (hF3.below hbd)
      have hG4 := hG3.below hbd
      have HS3 := Lib.hid (hSr3.kept (Kept.ofBelow hbd))
      have HK3 := Lib.hid (hK3.trans (Kept.ofBelow hbd))
      have HSC : ({ w3 with drawn := w3.drawn + 1 } : World).cell? ⟨bb, 28, none⟩ = some (.pointer (some ⟨gb, 0, none⟩)) := hcg
      clear hcg hF3 hG3 hSr3 hK3 hbd
      generalize ({ w3 with drawn := w3.drawn + 1 } : World) = u0 at *
      refine wpAnyH_take (i := 0) (v := .pointer (some ⟨bb, 0, none⟩)) rfl (by kernel_rfl) (by kernel_rfl) (by kernel_rfl) (fun _ _ _ h => h) (Or.inl ⟨rfl, fun w _ => by go_simp⟩) HSC ?_; simp only [Act.put, List.getElem_toArray, List.getElem_cons_zero, List.getElem_cons_succ, List.setIfInBounds_toArray, List.set_cons_succ, List.set_cons_zero]
      refine wpAnyH_take (i := 1) (v := .pointer (some ⟨bb, 0, none⟩)) rfl (by kernel_rfl) (by kernel_rfl) (by kernel_rfl) (fun _ _ _ h => h) (Or.inl ⟨rfl, fun w _ => by go_simp⟩) HSC ?_; simp only [Act.put, List.getElem_toArray, List.getElem_cons_zero, List.getElem_cons_succ, List.setIfInBounds_toArray, List.set_cons_succ, List.set_cons_zero]
      refine wpAnyH_take (i := 2) (v := .pointer (some ⟨bb, 0, none⟩)) rfl (by kernel_rfl) (by kernel_rfl) (by kernel_rfl) (fun _ _ _ h => h) (Or.inl ⟨rfl, fun w _ => by go_simp⟩) HSC ?_; simp only [Act.put, List.getElem_toArray, List.getElem_cons_zero, List.getElem_cons_succ, List.setIfInBounds_toArray, List.set_cons_succ, List.set_cons_zero]
      refine wpAnyH_take (i := 3) (v := .pointer (some ⟨bb, 0, none⟩)) rfl (by kernel_rfl) (by kernel_rfl) (by kernel_rfl) (fun _ _ _ h => h) (Or.inl ⟨rfl, fun w _ => by go_simp⟩) HSC ?_; simp only [Act.put, List.getElem_toArray, List.getElem_cons_zero, List.getElem_cons_succ, List.setIfInBounds_toArray, List.set_cons_succ, List.set_cons_zero]
      refine wpAnyH_take (i := 4) (v := .pointer (some ⟨bb, 28, none⟩)) rfl (by kernel_rfl) (by kernel_rfl) (by kernel_rfl) (fun _ _ _ h => h) (Or.inl ⟨rfl, fun w _ => by go_simp⟩) HSC ?_; simp only [Act.put, List.getElem_toArray, List.getElem_cons_zero, List.getElem_cons_succ, List.setIfInBounds_toArray, List.set_cons_succ, List.set_cons_zero]
      refine wpAnyH_take (i := 5) (v := .pointer (some ⟨gb, 0, none⟩)) rfl (by kernel_rfl) (by kernel_rfl) (by kernel_rfl) (fun _ _ _ h => h) (Or.inl ⟨rfl, fun w hw => by have h := hw; go_simp⟩) HSC ?_
      simp only [Act.put, List.getElem_toArray, List.getElem_cons_zero, List.getElem_cons_succ, List.setIfInBounds_toArray, List.set_cons_succ, List.set_cons_zero]
      refine wpAnyH_take (i := 7) (v := .pointer (some ⟨bb, 0, none⟩)) rfl (by kernel_rfl) (by kernel_rfl) (by kernel_rfl) (fun _ _ _ h => h) (Or.inl ⟨rfl, fun w _ => by go_simp⟩) HSC ?_; simp only [Act.put, List.getElem_toArray, List.getElem_cons_zero, List.getElem_cons_succ, List.setIfInBounds_toArray, List.set_cons_succ, List.set_cons_zero]
      refine wpAnyH_take (i := 8) (v := .pointer (some ⟨bb, 0, none⟩)) rfl (by kernel_rfl) (by kernel_rfl) (by kernel_rfl) (fun _ _ _ h => h) (Or.inl ⟨rfl, fun w _ => by go_simp⟩) HSC ?_; simp only [Act.put, List.getElem_toArray, List.getElem_cons_zero, List.getElem_cons_succ, List.setIfInBounds_toArray, List.set_cons_succ, List.set_cons_zero]
      refine wpAnyH_take (i := 9) (v := .pointer (some ⟨bb, 28, none⟩)) rfl (by kernel_rfl) (by kernel_rfl) (by kernel_rfl) (fun _ _ _ h => h) (Or.inl ⟨rfl, fun w _ => by go_simp⟩) HSC ?_; simp only [Act.put, List.getElem_toArray, List.getElem_cons_zero, List.getElem_cons_succ, List.setIfInBounds_toArray, List.set_cons_succ, List.set_cons_zero]
      refine wpAnyH_take (i := 10) (v := .pointer (some ⟨gb, 0, none⟩)) rfl (by kernel_rfl) (by kernel_rfl) (by kernel_rfl) (fun _ _ _ h => h) (Or.inl ⟨rfl, fun w hw => by have h := hw; go_simp⟩) HSC ?_
      simp only [Act.put, List.getElem_toArray, List.getElem_cons_zero, List.getElem_cons_succ, List.setIfInBounds_toArray, List.set_cons_succ, List.set_cons_zero]
      refine wpAnyH_all (rs := [6]) (by kernel_rfl) (by simp) (fun i hi => ?_)
      obtain rfl : i = 6 := by simpa using hi
      refine wpOp_one rfl ?_
      (repeat (first | (with_reducible first | refine xA ?_ | refine xB ?_ | refine xC ?_ | refine xD ?_ | refine xH ?_ | refine xI rfl ?_ | refine xE ?_ | refine xF ?_ | refine xG ?_) | go_skip | go_guarded | (go_at_call 28; (with_reducible refine (Clauses_any u0 hG4 HNE.out HLL.out).mono ?_); rintro _ u4 ⟨rfl, ⟨cs, hO4, hC4⟩, hG5, hb4'⟩) | go_values | go_skip | go_guarded | go_step | go_upon | go_back | ((with_reducible show Oper.upon _ _ _ _ _ _); go_simp) | (dsimp only)))
      have hSC4 := cell_keep hb4' HSC
      have hubb := HF3.out.lt
      have HCM := Lib.hid (show b.g.cl.length ≤ 4194304 by obtain ⟨_, _, _, _, _, hm, _⟩ := hG4.clauses; exact hm)
      have HO4 := Lib.hid hO4
      have HC4 := Lib.hid hC4
      have HF4 := Lib.hid (HF3.out.below hb4')
      have HS4 := Lib.hid (HS3.out.kept (Kept.ofBelow hb4'))
      have HK4 := Lib.hid (HK3.out.trans (Kept.ofBelow hb4'))
      clear hO4 hC4 HSC HF3 HS3 HK3 hb4' hG4
      refine ⟨hSC4, ?_⟩
      refine wpAnyH_all (rs := [11]) (by kernel_rfl) (by simp) (fun i hi => ?_)
      obtain rfl : i = 11 := by simpa using hi
      refine wpOp_one rfl ?_
      (repeat (first | (with_reducible first | refine xA ?_ | refine xB ?_ | refine xC ?_ | refine xD ?_ | refine xH ?_ | refine xI rfl ?_ | refine xE ?_ | refine xF ?_ | refine xG ?_) | go_skip | go_guarded | (go_at_call 18; (with_reducible refine (Vars_any _ hG5).mono ?_); rintro _ u5 ⟨rfl, rfl⟩) | go_values | go_skip | go_guarded | go_step | go_upon | go_back | ((with_reducible show Oper.upon _ _ _ _ _ _); go_simp) | (dsimp only)))
      refine ⟨hSC4, ?_⟩
      refine wpAnyH_take (i := 12) (v := .pointer (some ⟨bb, 0, none⟩)) rfl (by kernel_rfl) (by kernel_rfl) (by kernel_rfl) (fun _ _ _ h => h) (Or.inl ⟨rfl, fun w _ => by go_simp⟩) hSC4 ?_
      simp only [Act.put, List.getElem_toArray, List.getElem_cons_zero, List.getElem_cons_succ, List.setIfInBounds_toArray, List.set_cons_succ, List.set_cons_zero]
      refine wpAnyH_take (i := 13) (v := .pointer (some ⟨bb, 0, none⟩)) rfl (by kernel_rfl) (by kernel_rfl) (by kernel_rfl) (fun _ _ _ h => h) (Or.inl ⟨rfl, fun w _ => by go_simp⟩) hSC4 ?_
      simp only [Act.put, List.getElem_toArray, List.getElem_cons_zero, List.getElem_cons_succ, List.setIfInBounds_toArray, List.set_cons_succ, List.set_cons_zero]
      refine wpAnyH_take (i := 14) (v := .pointer (some ⟨bb, 0, none⟩)) rfl (by kernel_rfl) (by kernel_rfl) (by kernel_rfl) (fun _ _ _ h => h) (Or.inl ⟨rfl, fun w _ => by go_simp⟩) hSC4 ?_
      simp only [Act.put, List.getElem_toArray, List.getElem_cons_zero, List.getElem_cons_succ, List.setIfInBounds_toArray, List.set_cons_succ, List.set_cons_zero]
      have hc0 : u5.cell? ⟨bb, 0, none⟩ = some (.slice none 0 0) := HF4.out.cell 0
      have hf0 := frozen_of_row u5 bb 0 _ _ HF4.out.box
      refine wpAnyH_all (rs := [15]) (by kernel_rfl) (by simp) (fun i hi => ?_)
      obtain rfl : i = 15 := by simpa using hi
      refine wpOp_one rfl ?_
      (repeat (first | (with_reducible first | refine xA ?_ | refine xB ?_ | refine xC ?_ | refine xD ?_ | refine xH ?_ | refine xI rfl ?_ | refine xE ?_ | refine xF ?_ | refine xG ?_) | go_values | go_skip | go_guarded | go_step | go_upon | go_back | ((with_reducible show Oper.upon _ _ _ _ _ _); go_simp) | (dsimp only)))
      have hSC5 : (u5.setCell ⟨bb, 0, none⟩ (.slice (some ⟨u0.heap.size, 0, none⟩) b.g.cl.length b.g.cl.length)).cell? ⟨bb, 28, none⟩ = some (.pointer (some ⟨gb, 0, none⟩)) := by
        rw [(HF4.out.set 0 (.slice (some ⟨u0.heap.size, 0, none⟩) b.g.cl.length b.g.cl.length) rfl).cell 28, bc_end HF4.out.il HF4.out.rl 1]
        rfl
      refine ⟨hSC5, ?_⟩
      refine wpAnyH_take (i := 16) (v := .pointer (some ⟨bb, 0, none⟩)) rfl (by kernel_rfl) (by kernel_rfl) (by kernel_rfl) (fun _ _ _ h => h) (Or.inl ⟨rfl, fun w _ => by go_simp⟩) hSC5 ?_
      simp only [Act.put, List.getElem_toArray, List.getElem_cons_zero, List.getElem_cons_succ, List.setIfInBounds_toArray, List.set_cons_succ, List.set_cons_zero]
      refine wpAnyH_take (i := 17) (v := .pointer (some ⟨bb, 0, none⟩)) rfl (by kernel_rfl) (by kernel_rfl) (by kernel_rfl) (fun _ _ _ h => h) (Or.inl ⟨rfl, fun w _ => by go_simp⟩) hSC5 ?_
      simp only [Act.put, List.getElem_toArray, List.getElem_cons_zero, List.getElem_cons_succ, List.setIfInBounds_toArray, List.set_cons_succ, List.set_cons_zero]
      refine wpAnyH_take (i := 18) (v := .pointer (some ⟨bb, 1, none⟩)) rfl (by kernel_rfl) (by kernel_rfl) (by kernel_rfl) (fun _ _ _ h => h) (Or.inl ⟨rfl, fun w _ => by go_simp⟩) hSC5 ?_
      simp only [Act.put, List.getElem_toArray, List.getElem_cons_zero, List.getElem_cons_succ, List.setIfInBounds_toArray, List.set_cons_succ, List.set_cons_zero]
      have HF6 := Lib.hid (HF4.out.set 0 (.slice (some ⟨u0.heap.size, 0, none⟩) b.g.cl.length b.g.cl.length) rfl)
      have hc1 : (u5.setCell ⟨bb, 0, none⟩ (.slice (some ⟨u0.heap.size, 0, none⟩) b.g.cl.length b.g.cl.length)).cell? ⟨bb, 1, none⟩ = some (.int .i64 0) := HF6.out.cell 1
      have hf1 := frozen_of_row (u5.setCell ⟨bb, 0, none⟩ (.slice (some ⟨u0.heap.size, 0, none⟩) b.g.cl.length b.g.cl.length)) bb 1 _ _ HF6.out.box
      refine wpAnyH_all (rs := [19]) (by kernel_rfl) (by simp) (fun i hi => ?_)
      obtain rfl : i = 19 := by simpa using hi
      refine wpOp_one rfl ?_
      (repeat (first | (with_reducible first | refine xA ?_ | refine xB ?_ | refine xC ?_ | refine xD ?_ | refine xH ?_ | refine xI rfl ?_ | refine xE ?_ | refine xF ?_ | refine xG ?_) | go_values | go_skip | go_guarded | go_step | go_upon | go_back | ((with_reducible show Oper.upon _ _ _ _ _ _); go_simp) | (dsimp only)))
      have hF7 := HF6.out.set 1 (.int .i64 b.g.n) rfl
      have hK7 : Kept (fun k => k ≠ bb) u5 ((u5.setCell ⟨bb, 0, none⟩ (.slice (some ⟨u0.heap.size, 0, none⟩) b.g.cl.length b.g.cl.length)).setCell ⟨bb, 1, none⟩ (.int .i64 b.g.n)) := set_kept.trans set_kept
      refine ⟨(hF7.cell 28).trans (by rw [bc_end HF4.out.il HF4.out.rl 1]; rfl), ?_⟩
      refine wpAnyH_done (by kernel_rfl) ?_ _
      have hFR : FR2 w5 ((u5.setCell ⟨bb, 0, none⟩ (.slice (some ⟨u0.heap.size, 0, none⟩) b.g.cl.length b.g.cl.length)).setCell ⟨bb, 1, none⟩ (.int .i64 b.g.n)) bb gb b u0.heap.size cs (.slice ar (b.at L).length cr) (.slice (some ⟨b0, off, none⟩) ls.length cap) (.slice (some ⟨qw, 0, none⟩) vs.length cw) (b.at L) iv rv :=
        ⟨hF7, HO4.out.kept hK7 (by omega), by omega, (HC4.out.mono fun k _ hk => by show k ≠ bb; have : u0.heap.size < k := hk; omega).kept hK7, HS4.out.kept hK7, HK4.out.trans (hK7.mono fun j _ hj => by show j ≠ bb; have : j < w5.heap.size := hj; omega), hBb⟩
      have HFR := Lib.hid hFR
      clear hFR hK7 hF7 HF6 hc1 hf1 hSC5 hc0 hf0 HF4 HS4 HK4 HC4 HO4 hSC4 hG5 hXB
      generalize ((u5.setCell ⟨bb, 0, none⟩ (.slice (some ⟨u0.heap.size, 0, none⟩) b.g.cl.length b.g.cl.length)).setCell ⟨bb, 1, none⟩ (.int .i64 b.g.n)) = w7 at *
      generalize u0.heap.size = qc at *
      obtain ⟨root, hroot⟩ : ∃ root, b.at (L : Int) = root := ⟨_, rfl⟩
      have HRT := Lib.hid (show b.at ((ls.length - 1 : Nat) : Int) = root by rw [HLm.out]; exact hroot)
      have hfr := HFR.out
      rw [hroot] at hfr
      replace HFR := Lib.hid hfr
      have hnr := HNR.out
      rw [hroot] at hnr
      replace HNR := Lib.hid hnr
      clear hnr
      clear hfr hroot
      (repeat (first | (with_reducible first | refine xA ?_ | refine xB ?_ | refine xC ?_ | refine xD ?_ | refine xH ?_ | refine xI rfl ?_ | refine xE ?_ | refine xF ?_ | refine xG ?_) | go_skip | go_guarded | go_step3 | ((with_reducible show Exit.noGoto _ _ _ _); simp only [Exit.noGoto_normal, Exit.noGoto_exit, Exit.noGoto_ret]) | go_values | go_skip | go_guarded | go_step | go_upon | go_back | ((with_reducible show Oper.upon _ _ _ _ _ _); go_simp) | (dsimp only)))
      go_loopw [95] (fun i wr => ∃ (k : Nat) (iv2 : List Value), k ≤ 16 ∧ i = .int .i64 k ∧ Hid (FR2 w5 wr bb gb b qc cs (.slice ar root.length cr) (.slice (some ⟨b0, off, none⟩) ls.length cap) (.slice (some ⟨qw, 0, none⟩) vs.length cw) root iv2 rv)) (fun i _ => 16 - (intOf i).toNat)
      case atStart => exact ⟨0, _, Nat.zero_le _, rfl, HFR⟩
      case round =>
        clear HFR
        obtain ⟨k, iv2, hk, rfl, HFR⟩ := hrel
        rcases Nat.lt_or_ge k 16 with hlt | hge
        · have hil := HFR.out.f.il
          have hbl := HFR.out.f.inp.1
          obtain ⟨v, hv⟩ : ∃ v, iv2[k]? = some v := ⟨_, List.getElem?_eq_getElem (by omega)⟩
          obtain ⟨l, hl⟩ : ∃ l, b.inp[k]? = some l := ⟨_, List.getElem?_eq_getElem (by omega)⟩
          have hS := HFR.out.f.inp.2 k v l hv hl
          have hnil := HFR.out.f.ni k v hv
          obtain ⟨ao, c, rfl⟩ := hS.shape
          have hll : l.length ≤ 1000000 := (HLN.out l (.inl (List.mem_of_getElem? hl))).1
          have HCL := Lib.hid (fun u (hb : Below wr.heap.size wr u) => cloneX (.slice ao l.length c) l u (hS.kept (Kept.ofBelow hb)) hll (fun e => hnil (by rw [hl, e])))
          have HL := Lib.hid hl
          have HV := Lib.hid hv
          have hki : (k : Int) < 16 := by omega
          have hk0 : (0 : Int) ≤ (k : Int) := by omega
          have hlt2 := HFR.out.f.lt
          clear hS hnil hl hv hll
          (repeat (first | (with_reducible first | refine xA ?_ | refine xB ?_ | refine xC ?_ | refine xD ?_ | refine xH ?_ | refine xI rfl ?_ | refine xE ?_ | refine xF ?_ | refine xG ?_) | go_values | go_skip | go_guarded | go_step | go_upon | go_back | ((with_reducible show Oper.upon _ _ _ _ _ _); go_simp) | (dsimp only)))
          refine wp_region_held (S := fun _ => True) (by kernel_rfl) ?_
          have hbd : Below wr.heap.size wr ({ wr with drawn := wr.drawn + 1 } : World) := ⟨rfl, rfl, rfl, Nat.le_refl _, fun _ _ => rfl⟩
          have hcell : ({ wr with drawn := wr.drawn + 1 } : World).cell? ⟨bb, 3 + k, none⟩ = some (.slice ao l.length c) := HFR.out.f.ci HV.out
          generalize ({ wr with drawn := wr.drawn + 1 } : World) = u0 at *
          have HSC : (fun _ : World => True) u0 := trivial
          refine wpAnyH_take (i := 0) (v := .pointer (some ⟨bb, 0, none⟩)) rfl (by kernel_rfl) (by kernel_rfl) (by kernel_rfl) (fun _ _ _ h => h) (Or.inl ⟨rfl, fun w _ => by go_simp⟩) HSC ?_
          simp only [Act.put, List.getElem_toArray, List.getElem_cons_zero, List.getElem_cons_succ, List.setIfInBounds_toArray, List.set_cons_succ, List.set_cons_zero]
          refine wpAnyH_take (i := 1) (v := .int .i64 (k : Nat)) rfl (by kernel_rfl) (by kernel_rfl) (by kernel_rfl) (fun _ _ _ h => h) (Or.inl ⟨rfl, fun w _ => by go_simp⟩) HSC ?_
          simp only [Act.put, List.getElem_toArray, List.getElem_cons_zero, List.getElem_cons_succ, List.setIfInBounds_toArray, List.set_cons_succ, List.set_cons_zero]
          refine wpAnyH_take (i := 2) (v := .pointer (some ⟨bb, 0, none⟩)) rfl (by kernel_rfl) (by kernel_rfl) (by kernel_rfl) (fun _ _ _ h => h) (Or.inl ⟨rfl, fun w _ => by go_simp⟩) HSC ?_
          simp only [Act.put, List.getElem_toArray, List.getElem_cons_zero, List.getElem_cons_succ, List.setIfInBounds_toArray, List.set_cons_succ, List.set_cons_zero]
          refine wpAnyH_take (i := 3) (v := .int .i64 (k : Nat)) rfl (by kernel_rfl) (by kernel_rfl) (by kernel_rfl) (fun _ _ _ h => h) (Or.inl ⟨rfl, fun w _ => by go_simp⟩) HSC ?_
          simp only [Act.put, List.getElem_toArray, List.getElem_cons_zero, List.getElem_cons_succ, List.setIfInBounds_toArray, List.set_cons_succ, List.set_cons_zero]
          refine wpAnyH_take (i := 4) (v := .pointer (some ⟨bb, 0, none⟩)) rfl (by kernel_rfl) (by kernel_rfl) (by kernel_rfl) (fun _ _ _ h => h) (Or.inl ⟨rfl, fun w _ => by go_simp⟩) HSC ?_
          simp only [Act.put, List.getElem_toArray, List.getElem_cons_zero, List.getElem_cons_succ, List.setIfInBounds_toArray, List.set_cons_succ, List.set_cons_zero]
          refine wpAnyH_take (i := 5) (v := .pointer (some ⟨bb, 0, none⟩)) rfl (by kernel_rfl) (by kernel_rfl) (by kernel_rfl) (fun _ _ _ h => h) (Or.inl ⟨rfl, fun w _ => by go_simp⟩) HSC ?_
          simp only [Act.put, List.getElem_toArray, List.getElem_cons_zero, List.getElem_cons_succ, List.setIfInBounds_toArray, List.set_cons_succ, List.set_cons_zero]
          refine wpAnyH_take (i := 6) (v := .pointer (some ⟨bb, 3, none⟩)) rfl (by kernel_rfl) (by kernel_rfl) (by kernel_rfl) (fun _ _ _ h => h) (Or.inl ⟨rfl, fun w _ => by go_simp⟩) HSC ?_
          simp only [Act.put, List.getElem_toArray, List.getElem_cons_zero, List.getElem_cons_succ, List.setIfInBounds_toArray, List.set_cons_succ, List.set_cons_zero]
          refine wpAnyH_take (i := 7) (v := .pointer (some ⟨bb, 3 + k, none⟩)) rfl (by kernel_rfl) (by kernel_rfl) (by kernel_rfl) (fun _ _ _ h => h) (Or.inl ⟨rfl, fun w _ => by go_simp⟩) HSC ?_
          simp only [Act.put, List.getElem_toArray, List.getElem_cons_zero, List.getElem_cons_succ, List.setIfInBounds_toArray, List.set_cons_succ, List.set_cons_zero]
          refine wpAnyH_take (i := 10) (v := .pointer (some ⟨bb, 0, none⟩)) rfl (by kernel_rfl) (by kernel_rfl) (by kernel_rfl) (fun _ _ _ h => h) (Or.inl ⟨rfl, fun w _ => by go_simp⟩) HSC ?_
          simp only [Act.put, List.getElem_toArray, List.getElem_cons_zero, List.getElem_cons_succ, List.setIfInBounds_toArray, List.set_cons_succ, List.set_cons_zero]
          refine wpAnyH_take (i := 11) (v := .pointer (some ⟨bb, 0, none⟩)) rfl (by kernel_rfl) (by kernel_rfl) (by kernel_rfl) (fun _ _ _ h => h) (Or.inl ⟨rfl, fun w _ => by go_simp⟩) HSC ?_
          simp only [Act.put, List.getElem_toArray, List.getElem_cons_zero, List.getElem_cons_succ, List.setIfInBounds_toArray, List.set_cons_succ, List.set_cons_zero]
          refine wpAnyH_take (i := 12) (v := .pointer (some ⟨bb, 3, none⟩)) rfl (by kernel_rfl) (by kernel_rfl) (by kernel_rfl) (fun _ _ _ h => h) (Or.inl ⟨rfl, fun w _ => by go_simp⟩) HSC ?_
          simp only [Act.put, List.getElem_toArray, List.getElem_cons_zero, List.getElem_cons_succ, List.setIfInBounds_toArray, List.set_cons_succ, List.set_cons_zero]
          refine wpAnyH_all (rs := [8]) (by kernel_rfl) (by simp) (fun i hi => ?_)
          obtain rfl : i = 8 := by simpa using hi
          refine wpOp_one rfl ?_
          (repeat (first | (with_reducible first | refine xA ?_ | refine xB ?_ | refine xC ?_ | refine xD ?_ | refine xH ?_ | refine xI rfl ?_ | refine xE ?_ | refine xF ?_ | refine xG ?_) | go_values | go_skip | go_guarded | go_step | go_upon | go_back | ((with_reducible show Oper.upon _ _ _ _ _ _); go_simp) | (dsimp only)))
          refine ⟨trivial, ?_⟩
          refine wpAnyH_all (rs := [9]) (by kernel_rfl) (by simp) (fun i hi => ?_)
          obtain rfl : i = 9 := by simpa using hi
          refine wpOp_one rfl ?_
          (repeat (first | (with_reducible first | refine xA ?_ | refine xB ?_ | refine xC ?_ | refine xD ?_ | refine xH ?_ | refine xI rfl ?_ | refine xE ?_ | refine xF ?_ | refine xG ?_) | go_skip | go_guarded | (go_at_call 57; (with_reducible refine (HCL.out _ hbd).mono ?_); rintro _ u2 ⟨a2, c2, rfl, hn2, hS2, hb2⟩) | go_values | go_skip | go_guarded | go_step | go_upon | go_back | ((with_reducible show Oper.upon _ _ _ _ _ _); go_simp) | (dsimp only)))
          have hSC2 := cell_keep hb2 hcell
          have HS9 : (fun _ : World => True) u2 := trivial
          have HF2 := Lib.hid (HFR.out.below (hbd.trans (hb2.mono hbd.size)))
          have HS2 := Lib.hid (hS2.mono (Y := fun k => k ≠ bb) fun j _ hj => by show j ≠ bb; have := hbd.size; have : u0.heap.size ≤ j := hj; omega)
          have HN2 := Lib.hid hn2
          have hf2 := frozen_of_row u2 bb (3 + k) _ _ HF2.out.f.box
          clear HFR HCL hS2 hn2 hb2 hbd HSC hcell
          refine ⟨trivial, ?_⟩
          refine wpAnyH_take (i := 13) (v := .pointer (some ⟨bb, 3 + k, none⟩)) rfl (by kernel_rfl) (by kernel_rfl) (by kernel_rfl) (fun _ _ _ h => h) (Or.inl ⟨rfl, fun w _ => by go_simp⟩) HS9 ?_
          simp only [Act.put, List.getElem_toArray, List.getElem_cons_zero, List.getElem_cons_succ, List.setIfInBounds_toArray, List.set_cons_succ, List.set_cons_zero]
          refine wpAnyH_all (rs := [14]) (by kernel_rfl) (by simp) (fun i hi => ?_)
          obtain rfl : i = 14 := by simpa using hi
          refine wpOp_one rfl ?_
          (repeat (first | (with_reducible first | refine xA ?_ | refine xB ?_ | refine xC ?_ | refine xD ?_ | refine xH ?_ | refine xI rfl ?_ | refine xE ?_ | refine xF ?_ | refine xG ?_) | go_values | go_skip | go_guarded | go_step | go_upon | go_back | ((with_reducible show Oper.upon _ _ _ _ _ _); go_simp) | (dsimp only)))
          have hF9 := HF2.out.setI hlt HL.out HS2.out HN2.out
          refine ⟨trivial, ?_⟩
          refine wpAnyH_done (by kernel_rfl) ?_ _
          have HF9 := Lib.hid hF9
          clear hF9
          (repeat (first | (with_reducible first | refine xA ?_ | refine xB ?_ | refine xC ?_ | refine xD ?_ | refine xH ?_ | refine xI rfl ?_ | refine xE ?_ | refine xF ?_ | refine xG ?_) | go_values | go_skip | go_guarded | go_step | go_upon | go_back | ((with_reducible show Oper.upon _ _ _ _ _ _); go_simp) | (dsimp only)))
          exact ⟨⟨k + 1, _, by omega, by go_num, HF9⟩, by simp [intOf]; omega⟩
        · have hkn16 : ¬ ((k : Int) < 16) := by omega
          obtain ⟨k16, rfl⟩ : ∃ k16, k16 = k := ⟨_, rfl⟩
          clear hk hge
          (repeat (first | (with_reducible first | refine xA ?_ | refine xB ?_ | refine xC ?_ | refine xD ?_ | refine xH ?_ | refine xI rfl ?_ | refine xE ?_ | refine xF ?_ | refine xG ?_) | go_skip | go_guarded | go_step3 | ((with_reducible show Exit.noGoto _ _ _ _); simp only [Exit.noGoto_normal, Exit.noGoto_exit, Exit.noGoto_ret]) | go_values | go_skip | go_guarded | go_step | go_upon | go_back | ((with_reducible show Oper.upon _ _ _ _ _ _); go_simp) | (dsimp only)))
          go_loopw [113] (fun i wr => ∃ (k : Nat) (rv2 : List Value), k ≤ 8 ∧ i = .int .i64 k ∧ Hid (FR2 w5 wr bb gb b qc cs (.slice ar root.length cr) (.slice (some ⟨b0, off, none⟩) ls.length cap) (.slice (some ⟨qw, 0, none⟩) vs.length cw) root iv2 rv2)) (fun i _ => 8 - (intOf i).toNat)
          case atStart => exact ⟨0, _, Nat.zero_le _, rfl, HFR⟩
          case round =>
            clear HFR
            obtain ⟨k, rv2, hk, rfl, HFR⟩ := hrel
            rcases Nat.lt_or_ge k 8 with hlt | hge
            · have hil := HFR.out.f.rl
              have hbl := HFR.out.f.reg.1
              obtain ⟨v, hv⟩ : ∃ v, rv2[k]? = some v := ⟨_, List.getElem?_eq_getElem (by omega)⟩
              obtain ⟨l, hl⟩ : ∃ l, b.reg[k]? = some l := ⟨_, List.getElem?_eq_getElem (by omega)⟩
              have hS := HFR.out.f.reg.2 k v l hv hl
              have hnil := HFR.out.f.nr k v hv
              obtain ⟨ao, c, rfl⟩ := hS.shape
              have hll : l.length ≤ 1000000 := (HLN.out l (.inr (List.mem_of_getElem? hl))).1
              have HCL := Lib.hid (fun u (hb : Below wr.heap.size wr u) => cloneX (.slice ao l.length c) l u (hS.kept (Kept.ofBelow hb)) hll (fun e => hnil (by rw [hl, e])))
              have HL := Lib.hid hl
              have HV := Lib.hid hv
              have hki : (k : Int) < 8 := by omega
              have hk0 : (0 : Int) ≤ (k : Int) := by omega
              have hlt2 := HFR.out.f.lt
              clear hS hnil hl hv hll
              (repeat (first | (with_reducible first | refine xA ?_ | refine xB ?_ | refine xC ?_ | refine xD ?_ | refine xH ?_ | refine xI rfl ?_ | refine xE ?_ | refine xF ?_ | refine xG ?_) | go_values | go_skip | go_guarded | go_step | go_upon | go_back | ((with_reducible show Oper.upon _ _ _ _ _ _); go_simp) | (dsimp only)))
              refine wp_region_held (S := fun _ => True) (by kernel_rfl) ?_
              have hbd : Below wr.heap.size wr ({ wr with drawn := wr.drawn + 1 } : World) := ⟨rfl, rfl, rfl, Nat.le_refl _, fun _ _ => rfl⟩
              have hcell : ({ wr with drawn := wr.drawn + 1 } : World).cell? ⟨bb, 19 + k, none⟩ = some (.slice ao l.length c) := HFR.out.f.cr HV.out
              generalize ({ wr with drawn := wr.drawn + 1 } : World) = u0 at *
              have HSC : (fun _ : World => True) u0 := trivial
              refine wpAnyH_take (i := 0) (v := .pointer (some ⟨bb, 0, none⟩)) rfl (by kernel_rfl) (by kernel_rfl) (by kernel_rfl) (fun _ _ _ h => h) (Or.inl ⟨rfl, fun w _ => by go_simp⟩) HSC ?_
              simp only [Act.put, List.getElem_toArray, List.getElem_cons_zero, List.getElem_cons_succ, List.setIfInBounds_toArray, List.set_cons_succ, List.set_cons_zero]
              refine wpAnyH_take (i := 1) (v := .int .i64 (k : Nat)) rfl (by kernel_rfl) (by kernel_rfl) (by kernel_rfl) (fun _ _ _ h => h) (Or.inl ⟨rfl, fun w _ => by go_simp⟩) HSC ?_
              simp only [Act.put, List.getElem_toArray, List.getElem_cons_zero, List.getElem_cons_succ, List.setIfInBounds_toArray, List.set_cons_succ, List.set_cons_zero]
              refine wpAnyH_take (i := 2) (v := .pointer (some ⟨bb, 0, none⟩)) rfl (by kernel_rfl) (by kernel_rfl) (by kernel_rfl) (fun _ _ _ h => h) (Or.inl ⟨rfl, fun w _ => by go_simp⟩) HSC ?_
              simp only [Act.put, List.getElem_toArray, List.getElem_cons_zero, List.getElem_cons_succ, List.setIfInBounds_toArray, List.set_cons_succ, List.set_cons_zero]
              refine wpAnyH_take (i := 3) (v := .int .i64 (k : Nat)) rfl (by kernel_rfl) (by kernel_rfl) (by kernel_rfl) (fun _ _ _ h => h) (Or.inl ⟨rfl, fun w _ => by go_simp⟩) HSC ?_
              simp only [Act.put, List.getElem_toArray, List.getElem_cons_zero, List.getElem_cons_succ, List.setIfInBounds_toArray, List.set_cons_succ, List.set_cons_zero]
              refine wpAnyH_take (i := 4) (v := .pointer (some ⟨bb, 0, none⟩)) rfl (by kernel_rfl) (by kernel_rfl) (by kernel_rfl) (fun _ _ _ h => h) (Or.inl ⟨rfl, fun w _ => by go_simp⟩) HSC ?_
              simp only [Act.put, List.getElem_toArray, List.getElem_cons_zero, List.getElem_cons_succ, List.setIfInBounds_toArray, List.set_cons_succ, List.set_cons_zero]
              refine wpAnyH_take (i := 5) (v := .pointer (some ⟨bb, 0, none⟩)) rfl (by kernel_rfl) (by kernel_rfl) (by kernel_rfl) (fun _ _ _ h => h) (Or.inl ⟨rfl, fun w _ => by go_simp⟩) HSC ?_
              simp only [Act.put, List.getElem_toArray, List.getElem_cons_zero, List.getElem_cons_succ, List.setIfInBounds_toArray, List.set_cons_succ, List.set_cons_zero]
              refine wpAnyH_take (i := 6) (v := .pointer (some ⟨bb, 19, none⟩)) rfl (by kernel_rfl) (by kernel_rfl) (by kernel_rfl) (fun _ _ _ h => h) (Or.inl ⟨rfl, fun w _ => by go_simp⟩) HSC ?_
              simp only [Act.put, List.getElem_toArray, List.getElem_cons_zero, List.getElem_cons_succ, List.setIfInBounds_toArray, List.set_cons_succ, List.set_cons_zero]
              refine wpAnyH_take (i := 7) (v := .pointer (some ⟨bb, 19 + k, none⟩)) rfl (by kernel_rfl) (by kernel_rfl) (by kernel_rfl) (fun _ _ _ h => h) (Or.inl ⟨rfl, fun w _ => by go_simp⟩) HSC ?_
              simp only [Act.put, List.getElem_toArray, List.getElem_cons_zero, List.getElem_cons_succ, List.setIfInBounds_toArray, List.set_cons_succ, List.set_cons_zero]
              refine wpAnyH_take (i := 10) (v := .pointer (some ⟨bb, 0, none⟩)) rfl (by kernel_rfl) (by kernel_rfl) (by kernel_rfl) (fun _ _ _ h => h) (Or.inl ⟨rfl, fun w _ => by go_simp⟩) HSC ?_
              simp only [Act.put, List.getElem_toArray, List.getElem_cons_zero, List.getElem_cons_succ, List.setIfInBounds_toArray, List.set_cons_succ, List.set_cons_zero]
              refine wpAnyH_take (i := 11) (v := .pointer (some ⟨bb, 0, none⟩)) rfl (by kernel_rfl) (by kernel_rfl) (by kernel_rfl) (fun _ _ _ h => h) (Or.inl ⟨rfl, fun w _ => by go_simp⟩) HSC ?_
              simp only [Act.put, List.getElem_toArray, List.getElem_cons_zero, List.getElem_cons_succ, List.setIfInBounds_toArray, List.set_cons_succ, List.set_cons_zero]
              refine wpAnyH_take (i := 12) (v := .pointer (some ⟨bb, 19, none⟩)) rfl (by kernel_rfl) (by kernel_rfl) (by kernel_rfl) (fun _ _ _ h => h) (Or.inl ⟨rfl, fun w _ => by go_simp⟩) HSC ?_
              simp only [Act.put, List.getElem_toArray, List.getElem_cons_zero, List.getElem_cons_succ, List.setIfInBounds_toArray, List.set_cons_succ, List.set_cons_zero]
              refine wpAnyH_all (rs := [8]) (by kernel_rfl) (by simp) (fun i hi => ?_)
              obtain rfl : i = 8 := by simpa using hi
              refine wpOp_one rfl ?_
              (repeat (first | (with_reducible first | refine xA ?_ | refine xB ?_ | refine xC ?_ | refine xD ?_ | refine xH ?_ | refine xI rfl ?_ | refine xE ?_ | refine xF ?_ | refine xG ?_) | go_values | go_skip | go_guarded | go_step | go_upon | go_back | ((with_reducible show Oper.upon _ _ _ _ _ _); go_simp) | (dsimp only)))
              refine ⟨trivial, ?_⟩
              refine wpAnyH_all (rs := [9]) (by kernel_rfl) (by simp) (fun i hi => ?_)
              obtain rfl : i = 9 := by simpa using hi
              refine wpOp_one rfl ?_
              (repeat (first | (with_reducible first | refine xA ?_ | refine xB ?_ | refine xC ?_ | refine xD ?_ | refine xH ?_ | refine xI rfl ?_ | refine xE ?_ | refine xF ?_ | refine xG ?_) | go_skip | go_guarded | (go_at_call 57; (with_reducible refine (HCL.out _ hbd).mono ?_); rintro _ u2 ⟨a2, c2, rfl, hn2, hS2, hb2⟩) | go_values | go_skip | go_guarded | go_step | go_upon | go_back | ((with_reducible show Oper.upon _ _ _ _ _ _); go_simp) | (dsimp only)))
              have hSC2 := cell_keep hb2 hcell
              have HS9 : (fun _ : World => True) u2 := trivial
              have HF2 := Lib.hid (HFR.out.below (hbd.trans (hb2.mono hbd.size)))
              have HS2 := Lib.hid (hS2.mono (Y := fun k => k ≠ bb) fun j _ hj => by show j ≠ bb; have := hbd.size; have : u0.heap.size ≤ j := hj; omega)
              have HN2 := Lib.hid hn2
              have hf2 := frozen_of_row u2 bb (19 + k) _ _ HF2.out.f.box
              clear HFR HCL hS2 hn2 hb2 hbd HSC hcell
              refine ⟨trivial, ?_⟩
              refine wpAnyH_take (i := 13) (v := .pointer (some ⟨bb, 19 + k, none⟩)) rfl (by kernel_rfl) (by kernel_rfl) (by kernel_rfl) (fun _ _ _ h => h) (Or.inl ⟨rfl, fun w _ => by go_simp⟩) HS9 ?_
              simp only [Act.put, List.getElem_toArray, List.getElem_cons_zero, List.getElem_cons_succ, List.setIfInBounds_toArray, List.set_cons_succ, List.set_cons_zero]
              refine wpAnyH_all (rs := [14]) (by kernel_rfl) (by simp) (fun i hi => ?_)
              obtain rfl : i = 14 := by simpa using hi
              refine wpOp_one rfl ?_
              (repeat (first | (with_reducible first | refine xA ?_ | refine xB ?_ | refine xC ?_ | refine xD ?_ | refine xH ?_ | refine xI rfl ?_ | refine xE ?_ | refine xF ?_ | refine xG ?_) | go_values | go_skip | go_guarded | go_step | go_upon | go_back | ((with_reducible show Oper.upon _ _ _ _ _ _); go_simp) | (dsimp only)))
              have hF9 := HF2.out.setR hlt HL.out HS2.out HN2.out
              refine ⟨trivial, ?_⟩
              refine wpAnyH_done (by kernel_rfl) ?_ _
              have HF9 := Lib.hid hF9
              clear hF9
              (repeat (first | (with_reducible first | refine xA ?_ | refine xB ?_ | refine xC ?_ | refine xD ?_ | refine xH ?_ | refine xI rfl ?_ | refine xE ?_ | refine xF ?_ | refine xG ?_) | go_values | go_skip | go_guarded | go_step | go_upon | go_back | ((with_reducible show Oper.upon _ _ _ _ _ _); go_simp) | (dsimp only)))
              exact ⟨⟨k + 1, _, by omega, by go_num, HF9⟩, by simp [intOf]; omega⟩
            · have hkn8 : ¬ ((k : Int) < 8) := by omega
              obtain ⟨k8, rfl⟩ : ∃ k8, k8 = k := ⟨_, rfl⟩
              clear hk hge
              have hbox := HFR.out.f.box
              have hil := HFR.out.f.il
              have hrl := HFR.out.f.rl
              have hfz := HFR.out.k.at HF.out hlt5
              have hone := fcells_one (c0 := .slice (some ⟨qc, 0, none⟩) b.g.cl.length b.g.cl.length) (c1 := .int .i64 b.g.n) (c2 := .slice ar root.length cr) rfl rfl rfl (slsx_one HFR.out.f.inp) (slsx_one HFR.out.f.reg)
              have Hbox := Lib.hid hbox
              have Hfz := Lib.hid hfz
              have Hone := Lib.hid hone
              clear hbox hfz hone
              (repeat (first | (with_reducible first | refine xA ?_ | refine xB ?_ | refine xC ?_ | refine xD ?_ | refine xH ?_ | refine xI rfl ?_ | refine xE ?_ | refine xF ?_ | refine xG ?_) | go_skip | go_guarded | ((with_reducible refine wl_id ?_); refine wl_ldform rfl _ rfl bb rfl _ _ (0, 0) Hbox.out (bc_size hil hrl) (bc_take hil hrl) ?_; (try simp only [Act.put, List.setIfInBounds_toArray, List.set_cons_succ, List.set_cons_zero])) | ((with_reducible refine wl_id ?_); refine wl_strow rfl 63 _ _ rfl w.heap.size _ rfl rfl 63 fzero.toArray Hfz.out (by rw [List.size_toArray, fcells_len hil hrl]; exact sizeTF) (by rw [List.size_toArray, List.size_toArray, fcells_len hil hrl, fzero_len]) Hone.out ?_; intro w9 hh9 hg9; (try simp only [Act.put, List.setIfInBounds_toArray, List.set_cons_succ, List.set_cons_zero])) | go_step3 | ((with_reducible show Exit.noGoto _ _ _ _); simp only [Exit.noGoto_normal, Exit.noGoto_exit, Exit.noGoto_ret]) | go_values | go_skip | go_guarded | go_step | go_upon | go_back | ((with_reducible show Oper.upon _ _ _ _ _ _); go_simp) | (dsimp only)))
              have hne9 : w.heap.size ≠ bb := by have := HFR.out.ub; omega
              have hk9 : Kept (fun k => k ≠ w.heap.size) wr w9 := ⟨hg9.os, hg9.tape, hg9.output, hg9.size, fun i hi hx => hg9.block i hi (fun e => hx (by injection e))⟩
              have hqw : qc ≠ w.heap.size := by have := HFR.out.ub; omega
              refine of_post (fcells_len hil hrl) rfl rfl rfl hh9 ⟨?_, ?_⟩
              · rw [HBK.out, HRT.out]
                exact ⟨qc, cs, ar, cr, iv2, rv2, rfl, HFR.out.o.kept hk9 hqw, ((slsx_off HFR.out.cls HNC.out Hfz.out).kept (hk9.mono fun _ _ h => h.2)).any, ((slx_off HFR.out.rt HNR.out Hfz.out).kept (hk9.mono fun _ _ h => h.2)).any, hil, hrl,
                  ((slsx_off HFR.out.f.inp (fun c hc => (HLN.out c (.inl hc)).2) Hfz.out).kept (hk9.mono fun _ _ h => h.2)).any, ((slsx_off HFR.out.f.reg (fun c hc => (HLN.out c (.inr hc)).2) Hfz.out).kept (hk9.mono fun _ _ h => h.2)).any, HFR.out.f.ni, HFR.out.f.nr, HCM.out⟩
              · exact below_grown (hb4.trans ((HFR.out.k.toBelow (Nat.le_refl _) fun _ h => h).mono hb4.size)) hg9 (fun k e => by injection e with e; omega)

end Go.Proofs.Ytmaogkgjiplckaa

set_option linter.unusedSimpArgs false
set_option linter.unusedVariables false
namespace Go.Proofs.Ytmaogkgjiplckaa
open Go.RowKit
theorem nd_at {w : World} {b o k : Nat} {ls : List Nd} {d : Nd} (h : RowAt 6 Nd.cells w b o ls) (hi : ls[k]? = some d) : w.cell? ⟨b, o + k * 6, none⟩ = some (.int .i64 d.op) ∧ w.cell? ⟨b, o + k * 6 + 1, none⟩ = some (.int .i64 d.w) ∧ w.cell? ⟨b, o + k * 6 + 2, none⟩ = some (.int .u64 d.n) := by
  have h0 := h k d hi 0 _ rfl
  have h1 := h k d hi 1 _ rfl
  have h2 := h k d hi 2 _ rfl
  rw [Nat.mul_comm] at h0 h1 h2
  rw [← Nat.add_assoc] at h1 h2
  exact ⟨h0, h1, h2⟩
def hasB (op : Int) (n : Nat) (d : Nd) : Bool := d.op == op && d.n == (n : Int)
set_option maxRecDepth 100000 in
set_option maxHeartbeats 1000000 in
theorem has_any (op : Int) (n : Nat) (v : Value) (ls : List Nd) (w : World) (h : SlIs 6 Nd.cells w v ls) (hll : ls.length ≤ 1000000) (hn : n ≤ 1000) (r : Bool) (hr : Hid (ls.any (hasB op n) = r)) :
    Calls Try.prog 32 #[v, .int .i64 op, .int .i64 n] w fun e w' => e = .returned (.bool r) ∧ w' = w := by
  have hnI : (n : Int) ≤ 1000 := by omega
  have hn0 : (0 : Int) ≤ (n : Int) := by omega
  have hlI : (ls.length : Int) ≤ 1000000 := by omega
  clear hll
  rcases h.cases with ⟨ao, cap, rfl, rfl⟩ | ⟨b, off, cap, rfl, hne, HR⟩
  · have hr0 : r = false := by rw [← hr.out]; rfl
    subst hr0
    clear h hr
    go_enter Try.func32, Try.ntmps32
    (repeat (first | (with_reducible first | refine xA ?_ | refine xB ?_ | refine xC ?_ | refine xD ?_ | refine xH ?_ | refine xI rfl ?_ | refine xE ?_ | refine xF ?_ | refine xG ?_) | go_skip | go_guarded | (with_reducible refine wp_loop_rounds 2 ?_) | rw [rounds_succ] | go_values | go_skip | go_guarded | go_step | go_upon | go_back | ((with_reducible show Oper.upon _ _ _ _ _ _); go_simp) | (dsimp only)))
    go_ret
    exact ⟨rfl, rfl⟩
  clear h hne
  go_enter Try.func32, Try.ntmps32
  (repeat (first | (with_reducible first | refine xA ?_ | refine xB ?_ | refine xC ?_ | refine xD ?_ | refine xH ?_ | refine xI rfl ?_ | refine xE ?_ | refine xF ?_ | refine xG ?_) | go_values | go_skip | go_guarded | go_step | go_upon | go_back | ((with_reducible show Oper.upon _ _ _ _ _ _); go_simp) | (dsimp only)))
  go_loop [7] (fun i => ∃ k : Nat, k ≤ ls.length ∧ i = .int .i64 k ∧ Hid (∀ j x, j < k → ls[j]? = some x → hasB op n x = false)) (fun i => ls.length - (intOf i).toNat)
  case atStart => exact ⟨0, Nat.zero_le _, rfl, Lib.hid (fun j x h => by omega)⟩
  case round =>
    obtain ⟨k, hk, rfl, hgood⟩ := hrel
    rcases Nat.lt_or_ge k ls.length with hlt | hge
    · obtain ⟨d, hd⟩ : ∃ d, ls[k]? = some d := ⟨_, List.getElem?_eq_getElem hlt⟩
      obtain ⟨c0, c1, c2⟩ := nd_at HR hd
      have Hd := Lib.hid hd
      clear hd
      have hnext : Hid (hasB op n d = false) → ∀ j x, j < k + 1 → ls[j]? = some x → hasB op n x = false := fun h0 j y hj hy => by
        rcases Nat.lt_or_ge j k with h | h
        · exact hgood.out j y h hy
        · have : j = k := by omega
          subst this
          rw [Hd.out] at hy
          cases hy
          exact h0.out
      have HNX := Lib.hid hnext
      clear hnext
      by_cases h1 : d.op = op
      · have f1 : (d.op == op) = true := by simpa using h1
        by_cases h2 : d.n = (n : Int)
        · have f2 : (d.n == (n : Int)) = true := by simpa using h2
          have hH := Lib.hid (show hasB op n d = true by unfold hasB; rw [f1, f2]; rfl)
          clear h1 h2
          (repeat (first | (with_reducible first | refine xA ?_ | refine xB ?_ | refine xC ?_ | refine xD ?_ | refine xH ?_ | refine xI rfl ?_ | refine xE ?_ | refine xF ?_ | refine xG ?_) | go_values | go_skip | go_guarded | go_step | go_upon | go_back | ((with_reducible show Oper.upon _ _ _ _ _ _); go_simp) | (dsimp only)))
          go_ret
          refine ⟨ret_bool ?_, rfl⟩
          rw [← hr.out]
          symm
          rw [List.any_eq_true]
          exact ⟨d, List.mem_of_getElem? Hd.out, hH.out⟩
        · have f2 : (d.n == (n : Int)) = false := by simpa using h2
          have hH := Lib.hid (show hasB op n d = false by unfold hasB; rw [f1, f2]; rfl)
          clear h1 h2
          (repeat (first | (with_reducible first | refine xA ?_ | refine xB ?_ | refine xC ?_ | refine xD ?_ | refine xH ?_ | refine xI rfl ?_ | refine xE ?_ | refine xF ?_ | refine xG ?_) | go_values | go_skip | go_guarded | go_step | go_upon | go_back | ((with_reducible show Oper.upon _ _ _ _ _ _); go_simp) | (dsimp only)))
          exact ⟨⟨k + 1, by omega, by go_num, Lib.hid (HNX.out hH)⟩, by simp [intOf]; omega⟩
      · have f1 : (d.op == op) = false := by simpa using h1
        have hH := Lib.hid (show hasB op n d = false by unfold hasB; rw [f1]; rfl)
        clear h1
        (repeat (first | (with_reducible first | refine xA ?_ | refine xB ?_ | refine xC ?_ | refine xD ?_ | refine xH ?_ | refine xI rfl ?_ | refine xE ?_ | refine xF ?_ | refine xG ?_) | go_values | go_skip | go_guarded | go_step | go_upon | go_back | ((with_reducible show Oper.upon _ _ _ _ _ _); go_simp) | (dsimp only)))
        exact ⟨⟨k + 1, by omega, by go_num, Lib.hid (HNX.out hH)⟩, by simp [intOf]; omega⟩
    · obtain rfl : k = ls.length := by omega
      (repeat (first | (with_reducible first | refine xA ?_ | refine xB ?_ | refine xC ?_ | refine xD ?_ | refine xH ?_ | refine xI rfl ?_ | refine xE ?_ | refine xF ?_ | refine xG ?_) | go_values | go_skip | go_guarded | go_step | go_upon | go_back | ((with_reducible show Oper.upon _ _ _ _ _ _); go_simp) | (dsimp only)))
      go_ret
      refine ⟨ret_bool ?_, rfl⟩
      rw [← hr.out]
      symm
      rw [List.any_eq_false]
      intro x hx
      obtain ⟨j, hj⟩ := List.mem_iff_getElem?.1 hx
      rw [hgood.out j x (List.getElem?_eq_some_iff.1 hj).1 hj]
      simp

end Go.Proofs.Ytmaogkgjiplckaa

set_option linter.unusedSimpArgs false
set_option linter.unusedVariables false
namespace Go.Proofs.Ytmaogkgjiplckaa
open Go.RowKit
def heavyB (d : Nd) : Bool := decide (10 ≤ d.op) && decide (d.op ≤ 12) && d.w == 64
theorem heavy_iff {d : Nd} : heavyB d = true ↔ heavyD d := by
  unfold heavyB heavyD
  simp only [Bool.and_eq_true, decide_eq_true_eq, beq_iff_eq, and_assoc]
def lightB (ls : List Nd) : Bool := decide (ls.length ≤ 60) && decide (ls.countP heavyB ≤ 2)
theorem countP_take {p : Nd → Bool} {ls : List Nd} {k : Nat} {d : Nd} (h : ls[k]? = some d) : (ls.take (k + 1)).countP p = (ls.take k).countP p + (if p d then 1 else 0) := by
  rw [List.take_add_one, h, List.countP_append]
  simp [List.countP_cons]
set_option maxRecDepth 100000 in
set_option maxHeartbeats 2000000 in
theorem light_any (v : Value) (ls : List Nd) (w : World) (h : SlIs 6 Nd.cells w v ls) (r : Bool) (hr : Hid (lightB ls = r)) :
    Calls Try.prog 30 #[v] w fun e w' => e = .returned (.bool r) ∧ w' = w := by
  obtain ⟨ao, cap, rfl, hcap, -, hrow⟩ := h
  by_cases h60 : (ls.length : Int) > 60
  · have hr0 : r = false := by rw [← hr.out]; unfold lightB; rw [decide_eq_false (by omega)]; rfl
    subst hr0
    clear hr hrow
    go_enter Try.func30, Try.ntmps30
    (repeat (first | (with_reducible first | refine xA ?_ | refine xB ?_ | refine xC ?_ | refine xD ?_ | refine xH ?_ | refine xI rfl ?_ | refine xE ?_ | refine xF ?_ | refine xG ?_) | go_values | go_skip | go_guarded | go_step | go_upon | go_back | ((with_reducible show Oper.upon _ _ _ _ _ _); go_simp) | (dsimp only)))
    go_ret
    exact ⟨rfl, rfl⟩
  have hlI : (ls.length : Int) ≤ 60 := by omega
  have HROW := Lib.hid hrow
  clear hrow hcap
  go_enter Try.func30, Try.ntmps30
  (repeat (first | (with_reducible first | refine xA ?_ | refine xB ?_ | refine xC ?_ | refine xD ?_ | refine xH ?_ | refine xI rfl ?_ | refine xE ?_ | refine xF ?_ | refine xG ?_) | go_values | go_skip | go_guarded | go_step | go_upon | go_back | ((with_reducible show Oper.upon _ _ _ _ _ _); go_simp) | (dsimp only)))
  go_loop [3, 4] (fun c i => ∃ k : Nat, k ≤ ls.length ∧ c = .int .i64 ((ls.take k).countP heavyB : Nat) ∧ i = .int .i64 k) (fun _ i => ls.length - (intOf i).toNat)
  case atStart => exact ⟨0, Nat.zero_le _, rfl, rfl⟩
  case round =>
    obtain ⟨k, hk, rfl, rfl⟩ := hrel
    have hcb : (((ls.take k).countP heavyB : Nat) : Int) ≤ 60 := by
      have := List.countP_le_length (p := heavyB) (l := ls.take k)
      rw [List.length_take] at this
      omega
    rcases Nat.lt_or_ge k ls.length with hlt | hge
    · obtain ⟨d, hd⟩ : ∃ d, ls[k]? = some d := ⟨_, List.getElem?_eq_getElem hlt⟩
      obtain ⟨b, off, rfl, HR⟩ := HROW.out (by intro e; rw [e] at hlt; simp at hlt)
      obtain ⟨c0, c1, c2⟩ := nd_at HR hd
      have Hd := Lib.hid hd
      clear hd
      obtain ⟨C, hC⟩ : ∃ C : Nat, (ls.take k).countP heavyB = C := ⟨_, rfl⟩
      rw [hC] at hcb ⊢
      have HC := Lib.hid hC
      clear hC HR
      by_cases h1 : d.op ≥ 10
      · by_cases h2 : d.op ≤ 12
        · by_cases h3 : d.w = 64
          · have f3 : (d.w == 64) = true := by simpa using h3
            have hH := Lib.hid (show heavyB d = true by unfold heavyB; rw [decide_eq_true h1, decide_eq_true h2, f3]; rfl)
            clear h3
            (repeat (first | (with_reducible first | refine xA ?_ | refine xB ?_ | refine xC ?_ | refine xD ?_ | refine xH ?_ | refine xI rfl ?_ | refine xE ?_ | refine xF ?_ | refine xG ?_) | go_values | go_skip | go_guarded | go_step | go_upon | go_back | ((with_reducible show Oper.upon _ _ _ _ _ _); go_simp) | (dsimp only)))
            exact ⟨⟨k + 1, by omega, by rw [countP_take Hd.out, hH.out, HC.out]; go_num, by go_num⟩, by simp [intOf]; omega⟩
          · have f3 : (d.w == 64) = false := by simpa using h3
            have hH := Lib.hid (show heavyB d = false by unfold heavyB; rw [f3]; simp)
            clear h3
            (repeat (first | (with_reducible first | refine xA ?_ | refine xB ?_ | refine xC ?_ | refine xD ?_ | refine xH ?_ | refine xI rfl ?_ | refine xE ?_ | refine xF ?_ | refine xG ?_) | go_values | go_skip | go_guarded | go_step | go_upon | go_back | ((with_reducible show Oper.upon _ _ _ _ _ _); go_simp) | (dsimp only)))
            exact ⟨⟨k + 1, by omega, by rw [countP_take Hd.out, hH.out, HC.out]; rfl, by go_num⟩, by simp [intOf]; omega⟩
        · have hH := Lib.hid (show heavyB d = false by unfold heavyB; rw [decide_eq_false h2]; simp)
          (repeat (first | (with_reducible first | refine xA ?_ | refine xB ?_ | refine xC ?_ | refine xD ?_ | refine xH ?_ | refine xI rfl ?_ | refine xE ?_ | refine xF ?_ | refine xG ?_) | go_values | go_skip | go_guarded | go_step | go_upon | go_back | ((with_reducible show Oper.upon _ _ _ _ _ _); go_simp) | (dsimp only)))
          exact ⟨⟨k + 1, by omega, by rw [countP_take Hd.out, hH.out, HC.out]; rfl, by go_num⟩, by simp [intOf]; omega⟩
      · have hH := Lib.hid (show heavyB d = false by unfold heavyB; rw [decide_eq_false (show ¬ 10 ≤ d.op by omega)]; rfl)
        (repeat (first | (with_reducible first | refine xA ?_ | refine xB ?_ | refine xC ?_ | refine xD ?_ | refine xH ?_ | refine xI rfl ?_ | refine xE ?_ | refine xF ?_ | refine xG ?_) | go_values | go_skip | go_guarded | go_step | go_upon | go_back | ((with_reducible show Oper.upon _ _ _ _ _ _); go_simp) | (dsimp only)))
        exact ⟨⟨k + 1, by omega, by rw [countP_take Hd.out, hH.out, HC.out]; rfl, by go_num⟩, by simp [intOf]; omega⟩
    · obtain rfl : k = ls.length := by omega
      (repeat (first | (with_reducible first | refine xA ?_ | refine xB ?_ | refine xC ?_ | refine xD ?_ | refine xH ?_ | refine xI rfl ?_ | refine xE ?_ | refine xF ?_ | refine xG ?_) | go_values | go_skip | go_guarded | go_step | go_upon | go_back | ((with_reducible show Oper.upon _ _ _ _ _ _); go_simp) | (dsimp only)))
      go_ret
      refine ⟨ret_bool ?_, rfl⟩
      rw [← hr.out]
      unfold lightB
      rw [decide_eq_true (show ls.length ≤ 60 by omega), Bool.true_and]
      exact decide_eq_decide.2 (by omega)
/-- a light term makes few variables -/
theorem light_cost : ∀ (ls : List Nd), costL ls ≤ 13000 * ls.length + 27000 * ls.countP heavyB := by
  intro ls
  induction ls with
  | nil => simp [costL]
  | cons d ls ih =>
    unfold costL at ih ⊢
    rw [List.map_cons, List.sum_cons, List.length_cons, List.countP_cons]
    by_cases h : heavyD d
    · have e : costD d = 40000 := by unfold costD; rw [if_pos h]
      rw [e, if_pos (heavy_iff.2 h)]; omega
    · have e : costD d = 13000 := by unfold costD; rw [if_neg h]
      rw [e, if_neg (fun e => h (heavy_iff.1 e))]; omega
theorem costL_take (ls : List Nd) (k : Nat) : costL (ls.take k) ≤ costL ls := by
  unfold costL
  conv => rhs; rw [← List.take_append_drop k ls, List.map_append, List.sum_append]
  omega
theorem light_n {ls : List Nd} (hT : TF ls) (hl : lightB ls = true) : ∀ k, k ≤ ls.length → (bK ls k).g.n + 40000 ≤ 1048576 := by
  intro k hk
  unfold lightB at hl
  rw [Bool.and_eq_true, decide_eq_true_eq, decide_eq_true_eq] at hl
  have h1 := blast_n hT k hk
  have h2 := costL_take ls k
  have h3 := light_cost ls
  omega

end Go.Proofs.Ytmaogkgjiplckaa

set_option linter.unusedSimpArgs false
set_option linter.unusedVariables false
namespace Go.Proofs.Ytmaogkgjiplckaa
open Go.RowKit
theorem say_get : ∀ (l : List Int) (x k : Nat) (v : Int), l[k]? = some v → (sayL l x)[k]? = some (if x / 2 ^ k % 2 = 1 then v else -v) := by
  intro l
  induction l with
  | nil => intro x k v h; simp at h
  | cons a l ih =>
    intro x k v h
    rcases k with _ | k
    · simp only [List.getElem?_cons_zero, Option.some.injEq] at h
      subst h
      rw [sayL, List.getElem?_cons_zero]; simp
    · rw [List.getElem?_cons_succ] at h
      rw [sayL, List.getElem?_cons_succ, ih _ _ _ h, Nat.pow_succ, Nat.mul_comm, Nat.div_div_eq_div_mul]
theorem say_take {l : List Int} {x k : Nat} {v : Int} (h : l[k]? = some v) : (sayL l x).take (k + 1) = (sayL l x).take k ++ [if x / 2 ^ k % 2 = 1 then v else -v] := by
  rw [List.take_add_one, say_get l x k v h]; rfl
set_option maxRecDepth 100000 in
set_option maxHeartbeats 2000000 in
theorem say_law {Z : Nat → Prop} (v : Value) (l : List Int) (x : Nat) (w : World) (h : SlX Z w v l) (hll : l.length ≤ 100000) (hx : x < 18446744073709551616) (hv : ∀ a ∈ l, -1048576 ≤ a ∧ a ≤ 1048576) :
    Calls Try.prog 58 #[v, .int .u64 x] w fun e w' => ∃ v', e = .returned v' ∧ w'.ownsRow w.heap.size 3 1 v' l.length ((sayL l x).map (Value.int .i64)) ∧ Below w.heap.size w w' := by
  obtain ⟨ao, cap, rfl, -, -, hrow⟩ := h
  have HROW := Lib.hid hrow
  have Hv := Lib.hid hv
  have hlI : (l.length : Int) ≤ 100000 := by omega
  have Hx := Lib.hid hx
  clear hrow hv hx hll
  go_enter Try.func58, Try.ntmps58
  (repeat (first | (with_reducible first | refine xA ?_ | refine xB ?_ | refine xC ?_ | refine xD ?_ | refine xH ?_ | refine xI rfl ?_ | refine xE ?_ | refine xF ?_ | refine xG ?_) | go_values | go_skip | go_guarded | go_step | go_upon | go_back | ((with_reducible show Oper.upon _ _ _ _ _ _); go_simp) | (dsimp only)))
  go_loopw [1, 5, 6] (fun xv vr i wr => ∃ k : Nat, k ≤ l.length ∧ xv = .int .u64 ((x / 2 ^ k : Nat) : Int) ∧ i = .int .i64 k ∧ Hid (wr.ownsRow w.heap.size 3 1 vr k (((sayL l x).take k).map (Value.int .i64))) ∧ Below w.heap.size w wr) (fun _ _ i _ => l.length - (intOf i).toNat)
  case atStart => exact ⟨0, Nat.zero_le _, by simp, rfl, Lib.hid (by simpa using World.ownsRow_nil w _ _ _), Below.refl _ _⟩
  case round =>
    obtain ⟨k, hk, rfl, rfl, HO, HB⟩ := hrel
    rcases Nat.lt_or_ge k l.length with hlt | hge
    · obtain ⟨a, ha⟩ : ∃ a, l[k]? = some a := ⟨_, List.getElem?_eq_getElem hlt⟩
      obtain ⟨b, o, rfl, -, hbl, HR⟩ := HROW.out (by intro e; rw [e] at hlt; simp at hlt)
      have hab := Hv.out a (List.mem_of_getElem? ha)
      have hca := cell_keep HB (HR k a ha)
      have hst := say_take (x := x) ha
      have hdiv : x / 2 ^ k / 2 = x / 2 ^ (k + 1) := by rw [Nat.pow_succ, Nat.div_div_eq_div_mul]
      obtain ⟨X, hX⟩ : ∃ X, x / 2 ^ k = X := ⟨_, rfl⟩
      have hXb : X < 18446744073709551616 := by rw [← hX]; exact Nat.lt_of_le_of_lt (Nat.div_le_self _ _) Hx.out
      rw [hX] at hst hdiv ⊢
      obtain ⟨av, cv, rfl⟩ := ownsRow_shape HO.out
      have hab1 := hab.1
      have hab2 := hab.2
      clear hab
      have hXI : (X : Int) < 18446744073709551616 := by omega
      have hX0 : (0 : Int) ≤ (X : Int) := by omega
      have HDV := Lib.hid hdiv
      clear HR ha hX hdiv hXb
      by_cases h1 : X % 2 = 1
      · rw [if_pos h1] at hst
        have HST := Lib.hid hst
        have f1 : (((X : Int) % 2) == 1) = true := by simp; omega
        clear hst h1
        (repeat (first | (with_reducible first | refine xA ?_ | refine xB ?_ | refine xC ?_ | refine xD ?_ | refine xH ?_ | refine xI rfl ?_ | refine xE ?_ | refine xF ?_ | refine xG ?_) | go_skip | go_guarded | ((with_reducible refine wl_id ?_); refine wl_push rfl _ _ rfl w.heap.size (.slice av k cv) k ((sayL l x).take k) rfl (HO.out.alloc _) wr.heap.size a rfl (cell_new wr _ _) (by omega) (Nat.le_trans HB.size (by simp)) ?_; intro v9 w9 hO9 hg9 hl9; have HO9 := Lib.hid hO9; have HB9 := Lib.hid (below_grown (Below.alloc HB HB.size _) hg9 (fun q e => (HO.out.lt q e).1)); clear hO9 hg9 hl9; (try simp only [Act.put, List.setIfInBounds_toArray, List.set_cons_succ, List.set_cons_zero])) | go_values | go_skip | go_guarded | go_step | go_upon | go_back | ((with_reducible show Oper.upon _ _ _ _ _ _); go_simp) | (dsimp only)))
        refine ⟨⟨k + 1, by omega, by rw [← HDV.out]; go_num, by go_num, Lib.hid (by rw [HST.out]; exact HO9.out), HB9.out⟩, by simp [intOf]; omega⟩
      · rw [if_neg h1] at hst
        have HST := Lib.hid hst
        have f1 : (((X : Int) % 2) == 1) = false := by simp; omega
        clear hst h1
        (repeat (first | (with_reducible first | refine xA ?_ | refine xB ?_ | refine xC ?_ | refine xD ?_ | refine xH ?_ | refine xI rfl ?_ | refine xE ?_ | refine xF ?_ | refine xG ?_) | go_skip | go_guarded | ((with_reducible refine wl_id ?_); refine wl_push rfl _ _ rfl w.heap.size (.slice av k cv) k ((sayL l x).take k) rfl (HO.out.alloc _) wr.heap.size (-a) rfl (cell_new wr _ _) (by omega) (Nat.le_trans HB.size (by simp)) ?_; intro v9 w9 hO9 hg9 hl9; have HO9 := Lib.hid hO9; have HB9 := Lib.hid (below_grown (Below.alloc HB HB.size _) hg9 (fun q e => (HO.out.lt q e).1)); clear hO9 hg9 hl9; (try simp only [Act.put, List.setIfInBounds_toArray, List.set_cons_succ, List.set_cons_zero])) | go_values | go_skip | go_guarded | go_step | go_upon | go_back | ((with_reducible show Oper.upon _ _ _ _ _ _); go_simp) | (dsimp only)))
        refine ⟨⟨k + 1, by omega, by rw [← HDV.out]; go_num, by go_num, Lib.hid (by rw [HST.out]; exact HO9.out), HB9.out⟩, by simp [intOf]; omega⟩
    · obtain rfl : k = l.length := by omega
      have h9 := HO.out
      rw [List.take_of_length_le (by rw [sayL_len]; exact Nat.le_refl _)] at h9
      have H9 := Lib.hid h9
      clear h9
      (repeat (first | (with_reducible first | refine xA ?_ | refine xB ?_ | refine xC ?_ | refine xD ?_ | refine xH ?_ | refine xI rfl ?_ | refine xE ?_ | refine xF ?_ | refine xG ?_) | go_values | go_skip | go_guarded | go_step | go_upon | go_back | ((with_reducible show Oper.upon _ _ _ _ _ _); go_simp) | (dsimp only)))
      go_ret
      exact ⟨_, rfl, H9.out, HB⟩

end Go.Proofs.Ytmaogkgjiplckaa

set_option linter.unusedSimpArgs false
set_option linter.unusedVariables false
namespace Go.Proofs.Ytmaogkgjiplckaa
open Go.RowKit
theorem flat_set_perm {l : List (List Int)} {i : Nat} {v : List Int} (hi : i < l.length) (h0 : l.getD i [] = []) : (l.set i v).flatten.Perm (l.flatten ++ v) := by
  induction l generalizing i with
  | nil => simp at hi
  | cons a l ih =>
    rcases i with _ | i
    · have e : a = [] := by simpa using h0
      subst e
      rw [List.set_cons_zero, List.flatten_cons, List.flatten_cons, List.nil_append]
      exact List.perm_append_comm
    · rw [List.set_cons_succ, List.flatten_cons, List.flatten_cons, List.append_assoc]
      exact (ih (by simpa using hi) (by simpa using h0)).append_left a
structure BD (b : BS) : Prop where
  nd : (b.inp.flatten ++ b.reg.flatten).Nodup
  rng : ∀ v ∈ b.inp.flatten ++ b.reg.flatten, 1 ≤ v ∧ v ≤ (b.g.n : Int)
theorem freeL_nd (n k : Nat) : (freeL n k).Nodup := by
  unfold freeL
  exact List.Pairwise.map _ (fun a b (h : a ≠ b) => by show ((n + 1 + a : Nat) : Int) ≠ ((n + 1 + b : Nat) : Int); omega) List.nodup_range
theorem freeL_rng {n k : Nat} : ∀ v ∈ freeL n k, (n : Int) + 1 ≤ v ∧ v ≤ ((n + k : Nat) : Int) := by
  intro v hv
  unfold freeL at hv
  obtain ⟨i, hi, rfl⟩ := List.mem_map.1 hv
  rw [List.mem_range] at hi
  omega
theorem bd_more {b : BS} (h : BD b) {k : Nat} {fl : List Int} (hp : fl.Perm ((b.inp.flatten ++ b.reg.flatten) ++ freeL b.g.n k)) : fl.Nodup ∧ ∀ v ∈ fl, 1 ≤ v ∧ v ≤ ((b.g.n + k : Nat) : Int) := by
  refine ⟨hp.nodup_iff.2 (List.nodup_append.2 ⟨h.nd, freeL_nd _ _, ?_⟩), fun v hv => ?_⟩
  · intro x hx y hy e
    have := (h.rng x hx).2
    have := (freeL_rng y hy).1
    omega
  · rcases List.mem_append.1 (hp.mem_iff.1 hv) with hx | hx
    · have := h.rng v hx; omega
    · have := freeL_rng v hx; omega
theorem perm_mid {a b c : List Int} : (a ++ c ++ b).Perm (a ++ b ++ c) := by
  rw [List.append_assoc, List.append_assoc]
  exact List.perm_append_comm.append_left a
theorem bword_rest {b : BS} {d : Nd} (h1 : d.op ≠ 1) (h2 : d.op ≠ 2) : (bword b d).1.inp = b.inp ∧ (bword b d).1.reg = b.reg := by
  unfold bword
  by_cases h0 : d.op = 0
  · rw [if_pos h0]; exact ⟨rfl, rfl⟩
  rw [if_neg h0, if_neg h1, if_neg h2]
  by_cases h6 : d.op = 6
  · rw [if_pos h6]; exact ⟨rfl, rfl⟩
  rw [if_neg h6]
  by_cases h7 : d.op = 7
  · rw [if_pos h7]; exact ⟨rfl, rfl⟩
  rw [if_neg h7]
  by_cases h22 : d.op = 22
  · rw [if_pos h22]; exact ⟨rfl, rfl⟩
  · rw [if_neg h22]; exact ⟨rfl, rfl⟩
theorem bd_word {b : BS} (h : BD b) (hil : b.inp.length = 16) (hrl : b.reg.length = 8) (d : Nd) (hg : b.g.n ≤ (bword b d).1.g.n) (hn1 : d.op = 1 → 0 ≤ d.n ∧ d.n < 16) (hn2 : d.op = 2 → 0 ≤ d.n ∧ d.n < 8) : BD (.push (bword b d)) := by
  have same : (bword b d).1.inp = b.inp → (bword b d).1.reg = b.reg → BD (.push (bword b d)) := fun e1 e2 => by
    refine ⟨?_, ?_⟩
    · show ((bword b d).1.inp.flatten ++ (bword b d).1.reg.flatten).Nodup
      rw [e1, e2]; exact h.nd
    · show ∀ v ∈ (bword b d).1.inp.flatten ++ (bword b d).1.reg.flatten, 1 ≤ v ∧ v ≤ ((bword b d).1.g.n : Int)
      rw [e1, e2]
      intro v hv
      have := h.rng v hv
      omega
  by_cases h1 : d.op = 1
  · have hb := hn1 h1
    by_cases h0 : b.inp.getD d.n.toNat [] = []
    · have e : bword b d = (⟨addV b.g 8, b.ws, b.inp.set d.n.toNat (freeL b.g.n 8), b.reg⟩, freeL b.g.n 8) := by unfold bword; rw [if_neg (by omega), if_pos h1, if_pos h0]
      rw [e]
      obtain ⟨p1, p2⟩ := bd_more h (k := 8) (fl := (b.inp.set d.n.toNat (freeL b.g.n 8)).flatten ++ b.reg.flatten) (((flat_set_perm (by rw [hil]; omega) h0).append_right _).trans perm_mid)
      exact ⟨p1, p2⟩
    · exact same (by unfold bword; rw [if_neg (by omega), if_pos h1, if_neg h0]) (by unfold bword; rw [if_neg (by omega), if_pos h1, if_neg h0])
  by_cases h2 : d.op = 2
  · have hb := hn2 h2
    by_cases h0 : b.reg.getD d.n.toNat [] = []
    · have e : bword b d = (⟨addV b.g 64, b.ws, b.inp, b.reg.set d.n.toNat (freeL b.g.n 64)⟩, freeL b.g.n 64) := by unfold bword; rw [if_neg (by omega), if_neg (by omega), if_pos h2, if_pos h0]
      rw [e]
      obtain ⟨p1, p2⟩ := bd_more h (k := 64) (fl := b.inp.flatten ++ (b.reg.set d.n.toNat (freeL b.g.n 64)).flatten) (by
        rw [List.append_assoc]
        exact (flat_set_perm (by rw [hrl]; omega) h0).append_left _)
      exact ⟨p1, p2⟩
    · exact same (by unfold bword; rw [if_neg (by omega), if_neg (by omega), if_pos h2, if_neg h0]) (by unfold bword; rw [if_neg (by omega), if_neg (by omega), if_pos h2, if_neg h0])
  · exact same (bword_rest h1 h2).1 (bword_rest h1 h2).2
theorem leaf_has {b : BS} (d : Nd) (hil : b.inp.length = 16) (hrl : b.reg.length = 8) (hn1 : d.op = 1 → 0 ≤ d.n ∧ d.n < 16) (hn2 : d.op = 2 → 0 ≤ d.n ∧ d.n < 8) :
    (∀ i, i < 16 → (((bword b d).1.inp.getD i [] = []) ↔ (b.inp.getD i [] = [] ∧ hasB 1 i d = false))) ∧ ∀ i, i < 8 → (((bword b d).1.reg.getD i [] = []) ↔ (b.reg.getD i [] = [] ∧ hasB 2 i d = false)) := by
  have f8 : freeL b.g.n 8 ≠ [] := fun e => by have := freeL_len b.g.n 8; rw [e] at this; cases this
  have f64 : freeL b.g.n 64 ≠ [] := fun e => by have := freeL_len b.g.n 64; rw [e] at this; cases this
  have hb : ∀ (op : Int) (i : Nat), hasB op i d = false ↔ ¬ (d.op = op ∧ d.n = i) := fun op i => by
    unfold hasB
    rw [Bool.and_eq_false_iff, beq_eq_false_iff_ne, beq_eq_false_iff_ne]
    omega
  have same : (bword b d).1.inp = b.inp → (bword b d).1.reg = b.reg → (d.op = 1 → b.inp.getD d.n.toNat [] ≠ []) → (d.op = 2 → b.reg.getD d.n.toNat [] ≠ []) → _ := fun e1 e2 k1 k2 => (show
    (∀ i, i < 16 → (((bword b d).1.inp.getD i [] = []) ↔ (b.inp.getD i [] = [] ∧ hasB 1 i d = false))) ∧ ∀ i, i < 8 → (((bword b d).1.reg.getD i [] = []) ↔ (b.reg.getD i [] = [] ∧ hasB 2 i d = false)) by
      rw [e1, e2]
      refine ⟨fun i hi => ⟨fun h => ⟨h, (hb 1 i).2 fun e => k1 e.1 (by rw [e.2, Int.toNat_natCast]; exact h)⟩, fun h => h.1⟩, fun i hi => ⟨fun h => ⟨h, (hb 2 i).2 fun e => k2 e.1 (by rw [e.2, Int.toNat_natCast]; exact h)⟩, fun h => h.1⟩⟩)
  by_cases h1 : d.op = 1
  · have hbd := hn1 h1
    by_cases h0 : b.inp.getD d.n.toNat [] = []
    · have e : bword b d = (⟨addV b.g 8, b.ws, b.inp.set d.n.toNat (freeL b.g.n 8), b.reg⟩, freeL b.g.n 8) := by unfold bword; rw [if_neg (by omega), if_pos h1, if_pos h0]
      rw [e]
      refine ⟨fun i hi => ?_, fun i hi => ⟨fun h => ⟨h, (hb 2 i).2 (by omega)⟩, fun h => h.1⟩⟩
      show (b.inp.set d.n.toNat (freeL b.g.n 8)).getD i [] = [] ↔ _
      by_cases ei : d.n.toNat = i
      · subst ei
        rw [getD_set_self _ (by rw [hil]; omega)]
        exact ⟨fun h => absurd h f8, fun h => absurd ⟨h1, by omega⟩ ((hb 1 _).1 h.2)⟩
      · rw [getD_set_ne _ ei]
        exact ⟨fun h => ⟨h, (hb 1 i).2 (by omega)⟩, fun h => h.1⟩
    · exact same (by unfold bword; rw [if_neg (by omega), if_pos h1, if_neg h0]) (by unfold bword; rw [if_neg (by omega), if_pos h1, if_neg h0]) (fun _ => h0) (by omega)
  by_cases h2 : d.op = 2
  · have hbd := hn2 h2
    by_cases h0 : b.reg.getD d.n.toNat [] = []
    · have e : bword b d = (⟨addV b.g 64, b.ws, b.inp, b.reg.set d.n.toNat (freeL b.g.n 64)⟩, freeL b.g.n 64) := by unfold bword; rw [if_neg (by omega), if_neg (by omega), if_pos h2, if_pos h0]
      rw [e]
      refine ⟨fun i hi => ⟨fun h => ⟨h, (hb 1 i).2 (by omega)⟩, fun h => h.1⟩, fun i hi => ?_⟩
      show (b.reg.set d.n.toNat (freeL b.g.n 64)).getD i [] = [] ↔ _
      by_cases ei : d.n.toNat = i
      · subst ei
        rw [getD_set_self _ (by rw [hrl]; omega)]
        exact ⟨fun h => absurd h f64, fun h => absurd ⟨h2, by omega⟩ ((hb 2 _).1 h.2)⟩
      · rw [getD_set_ne _ ei]
        exact ⟨fun h => ⟨h, (hb 2 i).2 (by omega)⟩, fun h => h.1⟩
    · exact same (by unfold bword; rw [if_neg (by omega), if_neg (by omega), if_pos h2, if_neg h0]) (by unfold bword; rw [if_neg (by omega), if_neg (by omega), if_pos h2, if_neg h0]) (by omega) (fun _ => h0)
  · exact same (bword_rest h1 h2).1 (bword_rest h1 h2).2 (fun e => absurd e h1) (fun e => absurd e h2)
structure BLv (ls : List Nd) (k : Nat) (b : BS) : Prop where
  d : BD b
  hi : ∀ i, i < 16 → ((b.inp.getD i [] = []) ↔ (ls.take k).any (hasB 1 i) = false)
  hr : ∀ i, i < 8 → ((b.reg.getD i [] = []) ↔ (ls.take k).any (hasB 2 i) = false)
theorem leaves_ok {ls : List Nd} (hT : TF ls) : ∀ k, k ≤ ls.length → BLv ls k (bK ls k) := by
  intro k
  induction k with
  | zero =>
    intro _
    refine ⟨⟨show ((List.replicate 16 ([] : List Int)).flatten ++ (List.replicate 8 ([] : List Int)).flatten).Nodup by decide, fun v hv => by simp [bK, bs0] at hv⟩, fun i hi => ?_, fun i hi => ?_⟩
    · have e : (bK ls 0).inp.getD i [] = [] := by
        show (List.replicate 16 ([] : List Int)).getD i [] = []
        rw [List.getD_eq_getElem?_getD, List.getElem?_replicate, if_pos hi]; rfl
      rw [e]; simp
    · have e : (bK ls 0).reg.getD i [] = [] := by
        show (List.replicate 8 ([] : List Int)).getD i [] = []
        rw [List.getD_eq_getElem?_getD, List.getElem?_replicate, if_pos hi]; rfl
      rw [e]; simp
  | succ k ih =>
    intro hk
    have h := ih (by omega)
    have hd := List.getElem?_eq_getElem (show k < ls.length by omega)
    obtain ⟨s, hs⟩ := blast_ok (I := fun _ => 0) (R := fun _ => 0) hT (fun _ => by decide) (fun _ => by decide) k (by omega)
    obtain ⟨s', hst⟩ := step_ok hT hs hd (fun _ => by decide) (fun _ => by decide)
    have hn1 : ls[k].op = 1 → 0 ≤ ls[k].n ∧ ls[k].n < 16 := fun e => by
      cases hT k _ hd <;> first | omega | exact ⟨by assumption, by assumption⟩
    have hn2 : ls[k].op = 2 → 0 ≤ ls[k].n ∧ ls[k].n < 8 := fun e => by
      cases hT k _ hd <;> first | omega | exact ⟨by assumption, by assumption⟩
    have e : bK ls (k + 1) = .push (bword (bK ls k) ls[k]) := by rw [bK, hd]
    obtain ⟨l1, l2⟩ := leaf_has ls[k] hs.il hs.rl hn1 hn2
    rw [e]
    refine ⟨bd_word h.d hs.il hs.rl _ hst.st.le hn1 hn2, fun i hi => ?_, fun i hi => ?_⟩
    · show ((bword (bK ls k) ls[k]).1.inp.getD i [] = []) ↔ _
      rw [l1 i hi, h.hi i hi, List.take_add_one, hd, List.any_append, Bool.or_eq_false_iff]
      simp
    · show ((bword (bK ls k) ls[k]).1.reg.getD i [] = []) ↔ _
      rw [l2 i hi, h.hr i hi, List.take_add_one, hd, List.any_append, Bool.or_eq_false_iff]
      simp

end Go.Proofs.Ytmaogkgjiplckaa

set_option linter.unusedSimpArgs false
set_option linter.unusedVariables false
namespace Go.Proofs.Ytmaogkgjiplckaa
open Go.RowKit
theorem spread_b {Y Z : Nat → Prop} {g : G} {fr : List Int} {s : Nat → Bool} (q : Nat) (w1 : World) (hI : GI g fr s) (hn : g.n ≤ 1048576) (hm : g.cl.length ≤ 4194304) {vs : List Value} (hO : OwnW w1 q g.cl.length vs) (hS : SlsX Z w1 vs g.cl) {vf : Value} (hF : SlX Y w1 vf fr) (hfl : fr.length ≤ 1000000) :
    Calls Try.prog 34 #[.slice (some ⟨q, 0, none⟩) g.cl.length g.cl.length, vf] w1 fun e w' => ∃ a c, e = .returned (.tuple #[.slice a g.n c, .bool true]) ∧ SlX (fun _ => True) w' (.slice a g.n c) (toldL g.n s) ∧ Below w1.heap.size w1 w' := by
  refine (Spread_any (Y := fun _ => True) w1 q g.cl.length vs g.cl vf fr hO.rows hO.lt (hS.mono fun _ _ _ => trivial) rfl (hF.mono fun _ _ _ => trivial) (fun c hc x hx => isL_ok (hI.rng c hc x hx) hn) (fun x hx => isL_ok (hI.frm x hx).1 hn) (by omega) (fun c hc => by have := hI.len c hc; omega) hfl hI.der1).mono ?_
  rintro e w' (⟨hcf, _⟩ | ⟨v, out, is, rfl, hO2, hi, hcons, hnod, hp, hs, _, hb⟩)
  · exact absurd hcf (no_conflict hI)
  · have ht := told_of hI hi hcons hnod hp hs
    subst ht
    rw [toldL_len] at hO2
    have hsl := told_sl hO2
    obtain ⟨a, c, rfl⟩ := ownsRow_shape hO2
    exact ⟨a, c, rfl, hsl, hb⟩
def lsA : List Nd := [⟨1, 8, 0, 0, 0, 0⟩, ⟨0, 8, 65, 0, 0, 0⟩, ⟨19, 1, 0, 0, 1, 0⟩]
theorem lsA_tf : TF lsA := (tf_of (ls := lsA) (by decide) (by decide) (fun d hd => arr_no.1 (by
  simp only [lsA, List.mem_cons, List.not_mem_nil, or_false] at hd
  rcases hd with rfl | rfl | rfl <;> rfl)) (by
  intro d hd
  simp only [lsA, List.mem_cons, List.not_mem_nil, or_false] at hd
  rcases hd with rfl | rfl | rfl <;> (unfold NdWf; decide))).1
theorem mem_fr {I R : Nat → Nat} {b : BS} (x : Int) : x ∈ frB I R b ↔ (∃ i, i < 16 ∧ x ∈ sayL (b.inp.getD i []) (I i)) ∨ ∃ i, i < 8 ∧ x ∈ sayL (b.reg.getD i []) (R i) := by
  unfold frB
  simp only [List.mem_append, List.mem_flatMap, List.mem_range]
/-- what the example comes to -/
theorem ex_plain : ∃ (b : BS) (z : Int) (l : List Int) (s : Nat → Bool), bK lsA 3 = b ∧ b.at 2 = [z] ∧ b.inp.getD 0 [] = l ∧ l.length = 8 ∧ (∀ a ∈ l, -1048576 ≤ a ∧ a ≤ 1048576) ∧ GI b.g (sayL l 65) s ∧ isL b.g.n z ∧ lit s z = true ∧ b.g.n ≤ 1048576 := by
  obtain ⟨s, hs⟩ := blast_ok (I := fun _ => 65) (R := fun _ => 0) lsA_tf (fun _ => by decide) (fun _ => by decide) 3 (by decide)
  have hlv := leaves_ok lsA_tf 3 (by decide)
  have hn := blast_n lsA_tf 3 (by decide)
  have hc : costL (lsA.take 3) = 39000 := by decide
  rw [hc] at hn
  have W := hs.ws 2 (by decide)
  have hw : (wAt lsA ((2 : Nat) : Int)).toNat = 1 := by decide
  have hv : (vK (fun _ => 65) (fun _ => 0) lsA 3).getD 2 0 = 1 := by decide
  rw [hw, hv] at W
  obtain ⟨z, hz⟩ : ∃ z, (bK lsA 3).at ((2 : Nat) : Int) = [z] := List.length_eq_one_iff.1 W.len
  rw [hz] at W
  have hnz := W.num
  rw [num_one] at hnz
  have hzl := W.isl z (List.mem_singleton.2 rfl)
  have h0 : (bK lsA 3).inp.getD 0 [] ≠ [] := fun e => by
    have := (hlv.hi 0 (by decide)).1 e
    revert this; decide
  have W0 := (hs.inp 0 (by decide)).resolve_left h0
  refine ⟨bK lsA 3, z, _, s, rfl, hz, rfl, W0.len, fun a ha => rng_of (W0.isl a ha) (by omega), hs.gi.congr fun x => ?_, hzl, ?_, by omega⟩
  · rw [mem_fr]
    constructor
    · intro hx; exact .inl ⟨0, by decide, hx⟩
    · rintro (⟨i, hi, hx⟩ | ⟨i, hi, hx⟩)
      · by_cases e : i = 0
        · subst e; exact hx
        · have hne : (lsA.take 3).any (hasB 1 i) = false := by
            have : hasB 1 i ⟨1, 8, 0, 0, 0, 0⟩ = false := by unfold hasB; simp; omega
            show (hasB 1 i ⟨1, 8, 0, 0, 0, 0⟩ || (hasB 1 i ⟨0, 8, 65, 0, 0, 0⟩ || (hasB 1 i ⟨19, 1, 0, 0, 1, 0⟩ || false))) = false
            rw [this]; rfl
          rw [(hlv.hi i hi).2 hne] at hx
          simp [sayL] at hx
      · have hne : (lsA.take 3).any (hasB 2 i) = false := rfl
        rw [(hlv.hr i hi).2 hne] at hx
        simp [sayL] at hx
  · cases h : lit s z
    · rw [h] at hnz; cases hnz
    · rfl
theorem rowA (w : World) (t : TypeId) : RowAt 6 Nd.cells (w.alloc (.cells #[.int .i64 1, .int .i64 8, .int .u64 0, .int .i64 0, .int .i64 0, .int .i64 0, .int .i64 0, .int .i64 8, .int .u64 65, .int .i64 0, .int .i64 0, .int .i64 0, .int .i64 19, .int .i64 1, .int .u64 0, .int .i64 0, .int .i64 1, .int .i64 0] t)) w.heap.size 0 lsA := by
  intro i e hi j c hj
  have key : ∀ (m : Nat), (w.alloc (.cells #[.int .i64 1, .int .i64 8, .int .u64 0, .int .i64 0, .int .i64 0, .int .i64 0, .int .i64 0, .int .i64 8, .int .u64 65, .int .i64 0, .int .i64 0, .int .i64 0, .int .i64 19, .int .i64 1, .int .u64 0, .int .i64 0, .int .i64 1, .int .i64 0] t)).cell? ⟨w.heap.size, m, none⟩ = (lsA.flatMap Nd.cells)[m]? := fun m => by
    rw [cell_of_row _ _ m _ _ _ (heap_alloc_new w _), List.getElem?_toArray]
    rfl
  rw [Nat.zero_add, key]
  match i, hi with
  | 0, hi =>
    obtain rfl : _ = e := by simpa [lsA] using hi
    have hj6 : j < 6 := (List.getElem?_eq_some_iff.1 hj).1
    match j, hj6, hj with
    | 0, _, hj => exact hj
    | 1, _, hj => exact hj
    | 2, _, hj => exact hj
    | 3, _, hj => exact hj
    | 4, _, hj => exact hj
    | 5, _, hj => exact hj
  | 1, hi =>
    obtain rfl : _ = e := by simpa [lsA] using hi
    have hj6 : j < 6 := (List.getElem?_eq_some_iff.1 hj).1
    match j, hj6, hj with
    | 0, _, hj => exact hj
    | 1, _, hj => exact hj
    | 2, _, hj => exact hj
    | 3, _, hj => exact hj
    | 4, _, hj => exact hj
    | 5, _, hj => exact hj
  | 2, hi =>
    obtain rfl : _ = e := by simpa [lsA] using hi
    have hj6 : j < 6 := (List.getElem?_eq_some_iff.1 hj).1
    match j, hj6, hj with
    | 0, _, hj => exact hj
    | 1, _, hj => exact hj
    | 2, _, hj => exact hj
    | 3, _, hj => exact hj
    | 4, _, hj => exact hj
    | 5, _, hj => exact hj
  | i + 3, hi => simp [lsA] at hi
theorem fc_inp {c0 c1 c2 : Value} {iv rv : List Value} {i : Nat} {v : Value} (h : iv[i]? = some v) : (fcells c0 c1 c2 iv rv)[3 + i]? = some v := by
  have hl := (List.getElem?_eq_some_iff.1 h).1
  unfold fcells
  rw [List.getElem?_append_right (by show 3 ≤ _; omega), show 3 + i - [c0, c1, c2].length = i by simp, List.getElem?_append_left hl]
  exact h
theorem fc_reg {c0 c1 c2 : Value} {iv rv : List Value} (hi : iv.length = 16) {i : Nat} {v : Value} (h : rv[i]? = some v) : (fcells c0 c1 c2 iv rv)[19 + i]? = some v := by
  unfold fcells
  rw [List.getElem?_append_right (by show 3 ≤ _; omega), show 19 + i - [c0, c1, c2].length = 16 + i by simp; omega, List.getElem?_append_right (by omega), hi, show 16 + i - 16 = i by omega]
  exact h
set_option maxRecDepth 100000 in
set_option maxHeartbeats 4000000 in
theorem awake16_any (w : World) : Calls Try.prog 29 #[] w fun e w' => e = .returned (.bool true) ∧ Below w.heap.size w w' := by
  obtain ⟨b, z, l, s, hb, hz, hl, hll, hlb, hGI, hzl, hzt, hn⟩ := ex_plain
  have HOF : Hid (∀ u : World, Calls Try.prog 31 #[.slice (some ⟨u.heap.size, 0, none⟩) 3 3] (u.alloc (.cells #[.int .i64 1, .int .i64 8, .int .u64 0, .int .i64 0, .int .i64 0, .int .i64 0, .int .i64 0, .int .i64 8, .int .u64 65, .int .i64 0, .int .i64 0, .int .i64 0, .int .i64 19, .int .i64 1, .int .u64 0, .int .i64 0, .int .i64 1, .int .i64 0] 94)) fun e w' => OfRes b [z] e w' ∧ Below (u.heap.size + 1) (u.alloc (.cells #[.int .i64 1, .int .i64 8, .int .u64 0, .int .i64 0, .int .i64 0, .int .i64 0, .int .i64 0, .int .i64 8, .int .u64 65, .int .i64 0, .int .i64 0, .int .i64 0, .int .i64 19, .int .i64 1, .int .u64 0, .int .i64 0, .int .i64 1, .int .i64 0] 94)) w') := Lib.hid (fun u => by
    have h := of_ok lsA _ _ ⟨_, 3, rfl, Nat.le_refl _, by simp, fun _ => ⟨_, _, rfl, rowA u 94⟩⟩ (by
      intro d hd
      simp only [lsA, List.mem_cons, List.not_mem_nil, or_false] at hd
      rcases hd with rfl | rfl | rfl <;> (unfold NdWf; decide)) (by decide) (by decide) lsA_tf (by decide) (by
      intro d hd
      simp only [lsA, List.mem_cons, List.not_mem_nil, or_false] at hd
      rcases hd with rfl | rfl | rfl <;> decide) (by decide) (fun k hk => light_n lsA_tf (by decide) k hk)
    have e3 : bK lsA lsA.length = b := hb
    have e4 : (bK lsA lsA.length).at ((lsA.length - 1 : Nat) : Int) = [z] := by rw [e3]; exact hz
    rw [e4, e3] at h
    have hsz : (u.alloc (.cells #[.int .i64 1, .int .i64 8, .int .u64 0, .int .i64 0, .int .i64 0, .int .i64 0, .int .i64 0, .int .i64 8, .int .u64 65, .int .i64 0, .int .i64 0, .int .i64 0, .int .i64 19, .int .i64 1, .int .u64 0, .int .i64 0, .int .i64 1, .int .i64 0] 94)).heap.size = u.heap.size + 1 := by simp
    rw [hsz] at h
    exact h)
  have hil0 : b.inp.length = 16 := by
    obtain ⟨s0, hs0⟩ := blast_ok (I := fun _ => 0) (R := fun _ => 0) lsA_tf (fun _ => by decide) (fun _ => by decide) 3 (by decide)
    rw [hb] at hs0
    exact hs0.il
  have HL0 := Lib.hid (show b.inp[0]? = some l by rw [← hl, List.getD_eq_getElem?_getD, List.getElem?_eq_getElem (by omega)]; rfl)
  have HLL := Lib.hid hll
  have HLB := Lib.hid hlb
  have HGI := Lib.hid hGI
  have HZL := Lib.hid hzl
  have HZT := Lib.hid hzt
  have HN := Lib.hid hn
  clear hb hz hl hll hlb hGI hzl hzt hn hil0
  go_enter Try.func29, Try.ntmps29
  (repeat (first | (with_reducible first | refine xA ?_ | refine xB ?_ | refine xC ?_ | refine xD ?_ | refine xH ?_ | refine xI rfl ?_ | refine xE ?_ | refine xF ?_ | refine xG ?_) | go_skip | go_guarded | (go_at_call 31; (with_reducible refine (HOF.out _).mono ?_); rintro _ w2 ⟨⟨q, cs, ar, cr, iv, rv, rfl, hO, hC, hR, hil, hrl, hI, hRg, hni, hnr, hcm⟩, hb2⟩) | ((with_reducible refine wl_id ?_); refine wl_strow rfl 63 _ _ rfl w2.heap.size _ rfl rfl 63 fzero.toArray (heap_alloc_new w2 _) (by rw [List.size_toArray, fcells_len hil hrl]; exact sizeTF) (by rw [List.size_toArray, List.size_toArray, fcells_len hil hrl, fzero_len]) (fcells_one rfl rfl rfl (slsx_one hI) (slsx_one hRg)) ?_; intro w4 hh4 hg4; have hb4 := below_grown (Below.alloc (Below.refl w2.heap.size w2) (Nat.le_refl _) _) hg4 (fun k e => by injection e with e; omega); have HQ := Lib.hid ((hO.kept (Kept.ofBelow (X := fun _ => True) hb4) trivial)); have HC := Lib.hid (hC.kept (Kept.ofBelow hb4)); have HRT := Lib.hid (hR.kept (Kept.ofBelow hb4)); have HCM := Lib.hid hcm; have hc0 : w4.cell? ⟨w2.heap.size, 0, none⟩ = some (.slice (some ⟨q, 0, none⟩) b.g.cl.length b.g.cl.length) := (cell_of_row w4 w2.heap.size 0 _ _ _ hh4).trans rfl; have hc2 : w4.cell? ⟨w2.heap.size, 2, none⟩ = some (.slice ar 1 cr) := (cell_of_row w4 w2.heap.size 2 _ _ _ hh4).trans rfl; (obtain ⟨v0, hv0⟩ : ∃ v0, iv[0]? = some v0 := ⟨_, List.getElem?_eq_getElem (by omega)⟩); have hsl0 := (hI.2 0 v0 l hv0 HL0.out).kept (Kept.ofBelow hb4); (obtain ⟨a0, c0, rfl⟩ := slx_shape hsl0 HLL.out); have HSL0 := Lib.hid hsl0; have hc3 := (cell_of_row w4 w2.heap.size 3 _ _ _ hh4).trans ((List.getElem?_toArray ..).trans (fc_inp hv0)); replace hb2 := (Below.alloc (Below.refl w.heap.size w) (Nat.le_refl _) _).trans (hb2.mono (Nat.le_succ _)); replace hb4 := hb2.trans (hb4.mono hb2.size); clear hsl0 hv0 hh4 hg4 hO hC hR hil hrl hI hRg hni hnr hcm; (try simp only [Act.put, List.setIfInBounds_toArray, List.set_cons_succ, List.set_cons_zero])) | go_values | go_skip | go_guarded | go_step | go_upon | go_back | ((with_reducible show Oper.upon _ _ _ _ _ _); go_simp) | (dsimp only)))
  obtain ⟨br, orr, rfl, -, hbr, -, hRz⟩ := HRT.out.row Nat.zero_lt_one
  have hcz := hRz 0 z rfl
  rw [Nat.add_zero] at hcz
  have hbq : w2.heap.size < w4.heap.size := World.block_lt_of_cell? w4 _ hc0
  have hsz4 := hb2.size
  clear hRz HRT hbr hb2
  generalize w2.heap.size = q1 at *
  refine wp_region_held (S := fun u => u.cell? ⟨q1, 0, none⟩ = some (.slice (some ⟨q, 0, none⟩) b.g.cl.length b.g.cl.length) ∧ u.cell? ⟨q1, 3, none⟩ = some (.slice a0 8 c0)) (by kernel_rfl) ?_
  have hbd : Below w4.heap.size w4 ({ w4 with drawn := w4.drawn + 1 } : World) := ⟨rfl, rfl, rfl, Nat.le_refl _, fun _ _ => rfl⟩
  have HSC := And.intro (cell_keep hbd hc0) (cell_keep hbd hc3)
  have HW4 := Lib.hid hbd.size
  generalize ({ w4 with drawn := w4.drawn + 1 } : World) = u0 at *
  refine wpAnyH_take (i := 0) (v := .pointer (some ⟨q1, 0, none⟩)) rfl (by kernel_rfl) (by kernel_rfl) (by kernel_rfl) (fun _ _ _ h => h) (Or.inl ⟨rfl, fun w _ => by go_simp⟩) HSC ?_; simp only [Act.put, List.getElem_toArray, List.getElem_cons_zero, List.getElem_cons_succ, List.setIfInBounds_toArray, List.set_cons_succ, List.set_cons_zero]
  refine wpAnyH_take (i := 1) (v := .slice (some ⟨q, 0, none⟩) b.g.cl.length b.g.cl.length) rfl (by kernel_rfl) (by kernel_rfl) (by kernel_rfl) (fun _ _ _ h => h) (Or.inl ⟨rfl, fun w hw => by have h := hw.1; go_simp⟩) HSC ?_
  simp only [Act.put, List.getElem_toArray, List.getElem_cons_zero, List.getElem_cons_succ, List.setIfInBounds_toArray, List.set_cons_succ, List.set_cons_zero]
  refine wpAnyH_take (i := 2) (v := .pointer (some ⟨q1, 3, none⟩)) rfl (by kernel_rfl) (by kernel_rfl) (by kernel_rfl) (fun _ _ _ h => h) (Or.inl ⟨rfl, fun w _ => by go_simp⟩) HSC ?_; simp only [Act.put, List.getElem_toArray, List.getElem_cons_zero, List.getElem_cons_succ, List.setIfInBounds_toArray, List.set_cons_succ, List.set_cons_zero]
  refine wpAnyH_take (i := 3) (v := .pointer (some ⟨q1, 3, none⟩)) rfl (by kernel_rfl) (by kernel_rfl) (by kernel_rfl) (fun _ _ _ h => h) (Or.inl ⟨rfl, fun w _ => by go_simp⟩) HSC ?_; simp only [Act.put, List.getElem_toArray, List.getElem_cons_zero, List.getElem_cons_succ, List.setIfInBounds_toArray, List.set_cons_succ, List.set_cons_zero]
  refine wpAnyH_take (i := 4) (v := .slice a0 8 c0) rfl (by kernel_rfl) (by kernel_rfl) (by kernel_rfl) (fun _ _ _ h => h) (Or.inl ⟨rfl, fun w hw => by have h := hw.2; go_simp⟩) HSC ?_
  simp only [Act.put, List.getElem_toArray, List.getElem_cons_zero, List.getElem_cons_succ, List.setIfInBounds_toArray, List.set_cons_succ, List.set_cons_zero]
  refine wpAnyH_all (rs := [5]) (by kernel_rfl) (by simp) (fun i hi => ?_)
  obtain rfl : i = 5 := by simpa using hi
  refine wpOp_one rfl ?_
  have HSAY : Hid (Calls Try.prog 58 #[.slice a0 8 c0, .int .u64 65] u0 fun e w' => ∃ v', e = .returned v' ∧ w'.ownsRow u0.heap.size 3 1 v' l.length ((sayL l 65).map (Value.int .i64)) ∧ Below u0.heap.size u0 w') := Lib.hid (say_law _ l 65 u0 (HSL0.out.kept (Kept.ofBelow hbd)) (by rw [HLL.out]; decide) (by decide) HLB.out)
  (repeat (first | (with_reducible first | refine xA ?_ | refine xB ?_ | refine xC ?_ | refine xD ?_ | refine xH ?_ | refine xI rfl ?_ | refine xE ?_ | refine xF ?_ | refine xG ?_) | go_skip | go_guarded | (go_at_call 58; (with_reducible refine HSAY.out.mono ?_); rintro _ u1 ⟨vs, rfl, hO1, hb1⟩) | go_values | go_skip | go_guarded | go_step | go_upon | go_back | ((with_reducible show Oper.upon _ _ _ _ _ _); go_simp) | (dsimp only)))
  have hbe := hbd.trans (hb1.mono hbd.size)
  have HS1 := And.intro (cell_keep hb1 HSC.1) (cell_keep hb1 HSC.2)
  refine ⟨HS1, ?_⟩
  refine wpAnyH_all (rs := [6]) (by kernel_rfl) (by simp) (fun i hi => ?_)
  obtain rfl : i = 6 := by simpa using hi
  refine wpOp_one rfl ?_
  have HSP := Lib.hid (spread_b q u1 HGI.out HN.out HCM.out (HQ.out.kept (Kept.ofBelow (X := fun _ => True) hbe) trivial) (HC.out.kept (Kept.ofBelow hbe)) (own_sl (X := fun _ => True) hO1 fun _ _ => trivial) (by rw [sayL_len, HLL.out]; decide))
  (repeat (first | (with_reducible first | refine xA ?_ | refine xB ?_ | refine xC ?_ | refine xD ?_ | refine xH ?_ | refine xI rfl ?_ | refine xE ?_ | refine xF ?_ | refine xG ?_) | go_skip | go_guarded | (go_at_call 34; (with_reducible refine HSP.out.mono ?_); rintro _ u2 ⟨at', ct, rfl, hTD, hb2⟩) | go_values | go_skip | go_guarded | go_step | go_upon | go_back | ((with_reducible show Oper.upon _ _ _ _ _ _); go_simp) | (dsimp only)))
  have HS2 := And.intro (cell_keep hb2 HS1.1) (cell_keep hb2 HS1.2)
  have hbf := hbe.trans (hb2.mono hbe.size)
  refine ⟨HS2, ?_⟩
  refine wpAnyH_take (i := 7) (v := .tuple #[.slice at' b.g.n ct, .bool true]) rfl (by kernel_rfl) (by kernel_rfl) (by kernel_rfl) (fun _ _ _ h => h) (Or.inl ⟨rfl, fun w _ => by go_simp⟩) HS2 ?_
  simp only [Act.put, List.getElem_toArray, List.getElem_cons_zero, List.getElem_cons_succ, List.setIfInBounds_toArray, List.set_cons_succ, List.set_cons_zero]
  refine wpAnyH_take (i := 8) (v := .slice at' b.g.n ct) rfl (by kernel_rfl) (by kernel_rfl) (by kernel_rfl) (fun _ _ _ h => h) (Or.inl ⟨rfl, fun w _ => by go_simp⟩) HS2 ?_
  simp only [Act.put, List.getElem_toArray, List.getElem_cons_zero, List.getElem_cons_succ, List.setIfInBounds_toArray, List.set_cons_succ, List.set_cons_zero]
  refine wpAnyH_take (i := 9) (v := .bool true) rfl (by kernel_rfl) (by kernel_rfl) (by kernel_rfl) (fun _ _ _ h => h) (Or.inl ⟨rfl, fun w _ => by go_simp⟩) HS2 ?_
  simp only [Act.put, List.getElem_toArray, List.getElem_cons_zero, List.getElem_cons_succ, List.setIfInBounds_toArray, List.set_cons_succ, List.set_cons_zero]
  refine wpAnyH_take (i := 10) (v := .slice at' b.g.n ct) rfl (by kernel_rfl) (by kernel_rfl) (by kernel_rfl) (fun _ _ _ h => h) (Or.inl ⟨rfl, fun w _ => by go_simp⟩) HS2 ?_
  simp only [Act.put, List.getElem_toArray, List.getElem_cons_zero, List.getElem_cons_succ, List.setIfInBounds_toArray, List.set_cons_succ, List.set_cons_zero]
  refine wpAnyH_take (i := 11) (v := .bool true) rfl (by kernel_rfl) (by kernel_rfl) (by kernel_rfl) (fun _ _ _ h => h) (Or.inl ⟨rfl, fun w _ => by go_simp⟩) HS2 ?_
  simp only [Act.put, List.getElem_toArray, List.getElem_cons_zero, List.getElem_cons_succ, List.setIfInBounds_toArray, List.set_cons_succ, List.set_cons_zero]
  refine wpAnyH_done (by kernel_rfl) ?_ _
  have hc2' := cell_keep hbf hc2
  have hcz' := cell_keep hbf hcz
  have hb9 := hb4.trans (hbf.mono hb4.size)
  have HTD := Lib.hid hTD
  clear HS2 HS1 HSC hbf hbe hbd hb1 hb2 hTD hO1 HSP HSAY hc0 hc2 hc3 hcz hb4
  (repeat (first | (with_reducible first | refine xA ?_ | refine xB ?_ | refine xC ?_ | refine xD ?_ | refine xH ?_ | refine xI rfl ?_ | refine xE ?_ | refine xF ?_ | refine xG ?_) | go_skip | go_guarded | (go_at_call 23; (with_reducible refine (Is_any u2 _ b.g.n s HTD.out z HZL.out HN.out true HZT).mono ?_); rintro _ u3 ⟨rfl, rfl⟩) | go_values | go_skip | go_guarded | go_step | go_upon | go_back | ((with_reducible show Oper.upon _ _ _ _ _ _); go_simp) | (dsimp only)))
  go_ret
  exact ⟨rfl, hb9⟩

end Go.Proofs.Ytmaogkgjiplckaa

set_option linter.unusedSimpArgs false
set_option linter.unusedVariables false
namespace Go.Proofs.Ytmaogkgjiplckaa
open Go.RowKit
set_option maxRecDepth 100000 in
set_option maxHeartbeats 2000000 in
theorem leaves_dark (ls : List Nd) (v : Value) (w : World) (h : SlIs 6 Nd.cells w v ls) (hl : lightB ls = false) :
    Calls Try.prog 8 #[v] w fun e w' => e = .returned (.bool true) ∧ Below w.heap.size w w' := by
  have HLG : Hid (∀ u : World, Below w.heap.size w u → Calls Try.prog 30 #[v] u fun e w' => e = .returned (.bool false) ∧ w' = u) := Lib.hid (fun u hb => light_any v ls u (h.below hb) false (Lib.hid hl))
  clear h hl
  go_enter Try.func8, Try.ntmps8
  (repeat (first | (with_reducible first | refine xA ?_ | refine xB ?_ | refine xC ?_ | refine xD ?_ | refine xH ?_ | refine xI rfl ?_ | refine xE ?_ | refine xF ?_ | refine xG ?_) | go_skip | go_guarded | (go_at_call 29; (with_reducible refine (awake16_any _).mono ?_); rintro _ w0 ⟨rfl, hb0⟩) | (go_at_call 30; (with_reducible refine (HLG.out _ hb0).mono ?_); rintro _ w1 ⟨rfl, rfl⟩) | go_values | go_skip | go_guarded | go_step | go_upon | go_back | ((with_reducible show Oper.upon _ _ _ _ _ _); go_simp) | (dsimp only)))
  go_ret
  exact ⟨rfl, hb0⟩
set_option maxRecDepth 100000 in
set_option maxHeartbeats 2000000 in
theorem leaves_err (ls : List Nd) (v : Value) (w : World) (h : SlIs 6 Nd.cells w v ls) (hl : lightB ls = true) (E : Int) (hE : (E != 0) = true) (hOF : ∀ u : World, Below w.heap.size w u → Calls Try.prog 31 #[v] u fun e w' => e = .returned (.tuple #[.agg fzero.toArray, .int .i64 E]) ∧ Below u.heap.size u w') :
    Calls Try.prog 8 #[v] w fun e w' => e = .returned (.bool true) ∧ Below w.heap.size w w' := by
  have HLG : Hid (∀ u : World, Below w.heap.size w u → Calls Try.prog 30 #[v] u fun e w' => e = .returned (.bool true) ∧ w' = u) := Lib.hid (fun u hb => light_any v ls u (h.below hb) true (Lib.hid hl))
  have HOF := Lib.hid hOF
  clear h hl hOF
  go_enter Try.func8, Try.ntmps8
  (repeat (first | (with_reducible first | refine xA ?_ | refine xB ?_ | refine xC ?_ | refine xD ?_ | refine xH ?_ | refine xI rfl ?_ | refine xE ?_ | refine xF ?_ | refine xG ?_) | go_skip | go_guarded | (go_at_call 29; (with_reducible refine (awake16_any _).mono ?_); rintro _ w0 ⟨rfl, hb0⟩) | (go_at_call 30; (with_reducible refine (HLG.out _ hb0).mono ?_); rintro _ w1 ⟨rfl, rfl⟩) | (go_at_call 31; (with_reducible refine (HOF.out _ hb0).mono ?_); rintro _ w2 ⟨rfl, hb2⟩) | ((with_reducible refine wl_id ?_); refine wl_strow rfl 63 _ _ rfl w2.heap.size fzero.toArray rfl rfl 63 fzero.toArray (heap_alloc_new w2 _) (by rw [List.size_toArray, fzero_len]; exact sizeTF) rfl fzero_one ?_; intro w4 hh4 hg4; have hb4 := below_grown (Below.alloc (Below.refl w2.heap.size w2) (Nat.le_refl _) _) hg4 (fun k e => by injection e with e; omega); have hb9 := (hb0.trans (hb2.mono hb0.size)).trans (hb4.mono (Nat.le_trans hb0.size hb2.size)); clear hh4 hg4; (try simp only [Act.put, List.setIfInBounds_toArray, List.set_cons_succ, List.set_cons_zero])) | go_values | go_skip | go_guarded | go_step | go_upon | go_back | ((with_reducible show Oper.upon _ _ _ _ _ _); go_simp) | (dsimp only)))
  go_ret
  exact ⟨rfl, hb9⟩

end Go.Proofs.Ytmaogkgjiplckaa

set_option linter.unusedSimpArgs false
set_option linter.unusedVariables false
namespace Go.Proofs.Ytmaogkgjiplckaa
open Go.RowKit
theorem flat_next {P : List Int} {xs : List (List Int)} {k j : Nat} {l : List Int} {x : Int} (hl : xs[k]? = some l) (hx : l[j]? = some x) (hn : (P ++ xs.flatten).Nodup) : x ∉ P ++ (xs.take k).flatten ++ l.take j := by
  have hk := (List.getElem?_eq_some_iff.1 hl).1
  have e1 : xs = xs.take k ++ l :: xs.drop (k + 1) := by
    have := List.take_append_drop k xs
    rw [List.drop_eq_getElem_cons hk, (List.getElem?_eq_some_iff.1 hl).2] at this
    exact this.symm
  have hj := (List.getElem?_eq_some_iff.1 hx).1
  have e2 : l = l.take j ++ x :: l.drop (j + 1) := by
    have := List.take_append_drop j l
    rw [List.drop_eq_getElem_cons hj, (List.getElem?_eq_some_iff.1 hx).2] at this
    exact this.symm
  have e3 : P ++ xs.flatten = (P ++ (xs.take k).flatten ++ l.take j) ++ (x :: (l.drop (j + 1) ++ (xs.drop (k + 1)).flatten)) := by
    conv => lhs; rw [e1, List.flatten_append, List.flatten_cons, e2]
    simp [List.append_assoc]
  rw [e3] at hn
  intro hm
  exact (List.nodup_append.1 hn).2.2 x hm x (List.mem_cons_self ..) rfl
theorem flat_take {xs : List (List Int)} {k : Nat} {l : List Int} (hl : xs[k]? = some l) : (xs.take (k + 1)).flatten = (xs.take k).flatten ++ l := by
  rw [List.take_add_one, hl]; simp
theorem mem_flat {xs : List (List Int)} {k j : Nat} {l : List Int} {x : Int} (hl : xs[k]? = some l) (hx : l[j]? = some x) : x ∈ xs.flatten := List.mem_flatten.2 ⟨l, List.mem_of_getElem? hl, List.mem_of_getElem? hx⟩
theorem oneM_none {l : List Int} {x : Int} (h : x ∉ l) : (getM (oneM l) x).getD (.int .i64 0) = .int .i64 0 := by
  have := oneM_get l x
  rw [decide_eq_false h] at this
  cases e : getM (oneM l) x with
  | none => rfl
  | some v => rw [e] at this; cases this
def leftSz (w : World) (r b : Nat) : Nat :=
  match w.heap[r]?, w.heap[b]? with
  | some (.mapIter _ _ seen _), some (.map es _) => (leftOf es seen).size
  | _, _ => 0
theorem IterV.sz {κ : Type} {enc : κ → Value} {ok : κ → Prop} {w : World} {r b : Nat} {m : List (κ × Value)} {L : List κ} (h : IterV enc ok w r b m L) : leftSz w r b = L.length := by
  obtain ⟨es, clock, since, seen, c0, h1, h2, h3, h4, h5, h6, h7, h8, h9, h10, h11⟩ := h
  have := congrArg List.length h11
  simp only [List.length_map, Array.length_toList] at this
  simp only [leftSz, h1, h7, this]
theorem oneM_val {l : List Int} {x : Int} {v : Value} (h : (x, v) ∈ oneM l) : v = .int .i64 1 := by
  unfold oneM at h
  simp at h
  obtain ⟨_, _, _, h⟩ := h
  exact h.symm
set_option maxRecDepth 100000 in
set_option maxHeartbeats 8000000 in
theorem leaves_main (ls : List Nd) (v : Value) (w : World) (h : SlIs 6 Nd.cells w v ls) (hl : lightB ls = true) (hll : ls.length ≤ 60) (b : BS) (root : List Int) (hbd : BD b) (hbn : b.g.n ≤ 1048576) (h16 : b.inp.length = 16) (h8 : b.reg.length = 8)
    (hi : ∀ i l, b.inp[i]? = some l → (l = [] ∧ ls.any (hasB 1 i) = false) ∨ (l.length = 8 ∧ ls.any (hasB 1 i) = true)) (hr : ∀ i l, b.reg[i]? = some l → (l = [] ∧ ls.any (hasB 2 i) = false) ∨ (l.length = 64 ∧ ls.any (hasB 2 i) = true))
    (hOF : ∀ u : World, Below w.heap.size w u → Calls Try.prog 31 #[v] u fun e w' => OfRes b root e w' ∧ Below u.heap.size u w') :
    Calls Try.prog 8 #[v] w fun e w' => e = .returned (.bool true) ∧ Below w.heap.size w w' := by
  have hmm := @run_makeMap Try.prog
  have HLG : Hid (∀ u : World, Below w.heap.size w u → Calls Try.prog 30 #[v] u fun e w' => e = .returned (.bool true) ∧ w' = u) := Lib.hid (fun u hb => light_any v ls u (h.below hb) true (Lib.hid hl))
  have HAS : Hid (∀ (op : Int) (n : Nat) (r : Bool) (u : World), Below w.heap.size w u → n ≤ 1000 → ls.any (hasB op n) = r → Calls Try.prog 32 #[v, .int .i64 op, .int .i64 n] u fun e w' => e = .returned (.bool r) ∧ w' = u) := Lib.hid (fun op n r u hb hn hr => has_any op n v ls u (h.below hb) (by omega) hn r (Lib.hid hr))
  have HOF := Lib.hid hOF
  have HIN := Lib.hid hi
  have HRN := Lib.hid hr
  have HBD := Lib.hid hbd
  have HBN := Lib.hid hbn
  have H16 := Lib.hid h16
  have H8 := Lib.hid h8
  clear h hl hOF hi hr hbd hbn h16 h8 hll
  go_enter Try.func8, Try.ntmps8
  (repeat (first | (with_reducible first | refine xA ?_ | refine xB ?_ | refine xC ?_ | refine xD ?_ | refine xH ?_ | refine xI rfl ?_ | refine xE ?_ | refine xF ?_ | refine xG ?_) | go_skip | go_guarded | (go_at_call 29; (with_reducible refine (awake16_any _).mono ?_); rintro _ w0 ⟨rfl, hb0⟩) | (go_at_call 30; (with_reducible refine (HLG.out _ hb0).mono ?_); rintro _ w1 ⟨rfl, rfl⟩) | (go_at_call 31; (with_reducible refine (HOF.out _ hb0).mono ?_); rintro _ w2 ⟨⟨q, cs, ar, cr, iv, rv, rfl, hO, hC, hR, hil, hrl, hI, hRg, hni, hnr, hcm⟩, hb2⟩; clear hO hC hR hcm) | ((with_reducible refine wl_id ?_); refine wl_strow rfl 63 _ _ rfl w2.heap.size _ rfl rfl 63 fzero.toArray (heap_alloc_new w2 _) (by rw [List.size_toArray, fcells_len hil hrl]; exact sizeTF) (by rw [List.size_toArray, List.size_toArray, fcells_len hil hrl, fzero_len]) (fcells_one rfl rfl rfl (slsx_one hI) (slsx_one hRg)) ?_; intro w4 hh4 hg4; have hb4 := below_grown (Below.alloc (Below.refl w2.heap.size w2) (Nat.le_refl _) _) hg4 (fun k e => by injection e with e; omega); have HI := Lib.hid (hI.kept (Kept.ofBelow hb4)); have HRG := Lib.hid (hRg.kept (Kept.ofBelow hb4)); have HH := Lib.hid hh4; have HNI := Lib.hid hni; have HNR := Lib.hid hnr; have hb9 := (hb0.trans (hb2.mono hb0.size)).trans (hb4.mono (Nat.le_trans hb0.size hb2.size)); clear hh4 hg4 hI hRg hni hnr hb4; (try simp only [Act.put, List.setIfInBounds_toArray, List.set_cons_succ, List.set_cons_zero])) | go_values | go_skip | go_guarded | go_step | go_upon | go_back | ((with_reducible show Oper.upon _ _ _ _ _ _); go_simp) | (dsimp only)))
  have hq1 : w2.heap.size < w4.heap.size := lt_of_block HH.out
  generalize w2.heap.size = q1 at *
  refine wp_abs (fun u => Below w4.heap.size w4 u ∧ MapV encI okI u w4.heap.size (oneM ([] ++ (b.inp.take 0).flatten))) ⟨by (repeat (first | with_reducible exact Below.refl _ _ | assumption | with_reducible refine below_drewN ?_ _ | with_reducible refine Below.drew ?_ | with_reducible refine Below.setRow ?_ ?_ _ | with_reducible refine Below.alloc ?_ ?_ _ | with_reducible refine Below.setCell ?_ ?_ _ | with_reducible exact Nat.le_refl _ | (focus (simp; done)) | (focus (simp; omega)) | omega)), by simpa [oneM] using MapV.made w4⟩ ?_
  rintro w7 ⟨HBinp, hm0⟩
  have HM0 := Lib.hid hm0
  clear hm0
  have HIT := Lib.hid hb9.size
  go_loopw [6] (fun i wr => ∃ k : Nat, k ≤ 16 ∧ i = .int .i64 k ∧ Hid (MapV encI okI wr w4.heap.size (oneM ([] ++ (b.inp.take k).flatten))) ∧ Below w4.heap.size w4 wr) (fun i _ => 16 - (intOf i).toNat)
  case atStart => exact ⟨0, Nat.zero_le _, rfl, HM0, HBinp⟩
  case round =>
    obtain ⟨k, hk, rfl, HM, HB⟩ := hrel
    rcases Nat.lt_or_ge k 16 with hlt | hge
    · have hlen : iv.length = 16 := by assumption
      have hbl : b.inp.length = 16 := H16.out
      obtain ⟨v1, hv⟩ : ∃ v1, iv[k]? = some v1 := ⟨_, List.getElem?_eq_getElem (by omega)⟩
      obtain ⟨l, hl⟩ : ∃ l, b.inp[k]? = some l := ⟨_, List.getElem?_eq_getElem (by omega)⟩
      have hS := HI.out.2 k v1 l hv hl
      have hc4 := ((cell_of_row w4 q1 (3 + k) _ _ _ HH.out).trans ((List.getElem?_toArray ..).trans (fc_inp hv)))
      have hc := cell_keep HB hc4
      have hbw : Below w.heap.size w wr := hb9.trans (HB.mono hb9.size)
      have hki : (k : Int) < 16 := by omega
      have hk0 : (0 : Int) ≤ (k : Int) := by omega
      have HL := Lib.hid hl
      rcases HIN.out k l hl with ⟨hl0, hh⟩ | ⟨hl8, hh⟩
      · have hv0 := HNI.out k v1 hv (by rw [hl, hl0])
        subst hv0
        subst hl0
        have HHas := Lib.hid (fun n : Nat => HAS.out 1 k false (wr.drewN n) (below_drewN hbw n) (by omega) hh)
        clear hS hv hl hh
        (repeat (first | (with_reducible first | refine xA ?_ | refine xB ?_ | refine xC ?_ | refine xD ?_ | refine xH ?_ | refine xI rfl ?_ | refine xE ?_ | refine xF ?_ | refine xG ?_) | go_values | go_skip | go_guarded | go_step | go_upon | go_back | ((with_reducible show Oper.upon _ _ _ _ _ _); go_simp) | (dsimp only)))
        go_quiet (first | (go_at_call 32; (with_reducible refine Calls.quiet_of_same (HHas.out _))))
        have hbd : Below wr.heap.size wr (wr.drewN nq) := below_drewN (Below.refl _ _) _
        have hcd := cell_keep hbd hc
        (repeat (first | (with_reducible first | refine xA ?_ | refine xB ?_ | refine xC ?_ | refine xD ?_ | refine xH ?_ | refine xI rfl ?_ | refine xE ?_ | refine xF ?_ | refine xG ?_) | go_skip | go_guarded | (with_reducible refine wp_loop_rounds 2 ?_) | rw [rounds_succ] | go_values | go_skip | go_guarded | go_step | go_upon | go_back | ((with_reducible show Oper.upon _ _ _ _ _ _); go_simp) | (dsimp only)))
        exact ⟨⟨k + 1, by omega, by go_num, Lib.hid (by rw [flat_take HL.out, List.append_nil]; exact HM.out.kept (Kept.ofBelow (X := fun _ => True) hbd) trivial), HB.trans (hbd.mono HB.size)⟩, by simp [intOf]; omega⟩
      · obtain ⟨a1, c1, rfl⟩ := slx_shape hS hl8
        have HHas := Lib.hid (fun n : Nat => HAS.out 1 k true (wr.drewN n) (below_drewN hbw n) (by omega) hh)
        have HS := Lib.hid hS
        have HL8 := Lib.hid hl8
        clear hS hv hl hh hl8
        (repeat (first | (with_reducible first | refine xA ?_ | refine xB ?_ | refine xC ?_ | refine xD ?_ | refine xH ?_ | refine xI rfl ?_ | refine xE ?_ | refine xF ?_ | refine xG ?_) | go_values | go_skip | go_guarded | go_step | go_upon | go_back | ((with_reducible show Oper.upon _ _ _ _ _ _); go_simp) | (dsimp only)))
        go_quiet (first | (go_at_call 32; (with_reducible refine Calls.quiet_of_same (HHas.out _))))
        have hbd : Below wr.heap.size wr (wr.drewN nq) := below_drewN (Below.refl _ _) _
        have hcd := cell_keep hbd hc
        have HMd := Lib.hid (HM.out.kept (Kept.ofBelow (X := fun _ => True) hbd) trivial)
        have HBd := HB.trans (hbd.mono HB.size)
        clear HM HB hbd hc
        obtain ⟨w8, e8⟩ : ∃ w8, w8 = wr.drewN nq := ⟨_, rfl⟩
        rw [← e8] at hcd HMd HBd ⊢
        have hbw8 : Below w.heap.size w w8 := hb9.trans (HBd.mono hb9.size)
        clear e8 HHas hbw
        obtain ⟨bx, ox, rfl, -, hbx, -, hRx⟩ := HS.out.row (by rw [HL8.out]; decide)
        have HRX := Lib.hid hRx
        have HINF : Hid (∀ (k j : Nat) (l : List Int) (x : Int), b.inp[k]? = some l → l[j]? = some x → x ∈ b.inp.flatten ++ b.reg.flatten) := Lib.hid (fun k j l x h1 h2 => List.mem_append.2 (.inl (mem_flat h1 h2)))
        have HND : Hid (([] ++ b.inp.flatten).Nodup) := Lib.hid (by have := (List.nodup_append.1 HBD.out.nd).1; simpa using this)
        clear hRx hbx
        (repeat (first | (with_reducible first | refine xA ?_ | refine xB ?_ | refine xC ?_ | refine xD ?_ | refine xH ?_ | refine xI rfl ?_ | refine xE ?_ | refine xF ?_ | refine xG ?_) | go_values | go_skip | go_guarded | go_step | go_upon | go_back | ((with_reducible show Oper.upon _ _ _ _ _ _); go_simp) | (dsimp only)))
        go_loopw [7] (fun i wr => ∃ j : Nat, j ≤ 8 ∧ i = .int .i64 j ∧ Hid (MapV encI okI wr w4.heap.size (oneM (([] ++ (b.inp.take k).flatten) ++ l.take j))) ∧ Below w4.heap.size w4 wr) (fun i _ => 8 - (intOf i).toNat)
        case atStart => exact ⟨0, Nat.zero_le _, rfl, Lib.hid (by simpa using HMd.out), HBd⟩
        case round =>
          clear HMd HBd
          obtain ⟨j, hj, rfl, HMr, HBr⟩ := hrel
          have hcr := cell_keep HBr hc4
          rcases Nat.lt_or_ge j 8 with hjl | hjg
          · obtain ⟨x, hx⟩ : ∃ x, l[j]? = some x := ⟨_, List.getElem?_eq_getElem (by have := HL8.out; omega)⟩
            have hcx := cell_keep HBr (HRX.out j x hx)
            have hxn := HBD.out.rng x (HINF.out k j l x HL.out hx)
            have hxN := HBN.out
            have hok : okI x := by unfold okI; omega
            have HNO := Lib.hid (oneM_none (flat_next HL.out hx HND.out))
            have HNP := Lib.hid (flat_next HL.out hx HND.out)
            have hst := list_upto hx
            have HST := Lib.hid hst
            have hji : (j : Int) < 8 := by omega
            have hj0 : (0 : Int) ≤ (j : Int) := by omega
            have HOK := Lib.hid hok
            clear hx hxn hxN hst hok
            (repeat (first | (with_reducible first | refine xA ?_ | refine xB ?_ | refine xC ?_ | refine xD ?_ | refine xH ?_ | refine xI rfl ?_ | refine xE ?_ | refine xF ?_ | refine xG ?_) | go_skip | go_guarded | ((with_reducible refine wl_id ?_); refine wl_lookup rfl _ _ 39 false rfl 3 3 keyI Try.underlying39 (.int .i64 0) (zero3 _) w4.heap.size _ rfl HMr.out x rfl HOK.out ?_; (simp only [Bool.false_eq_true, if_false]; (rw [HNO.out])); (try simp only [Act.put, List.setIfInBounds_toArray, List.set_cons_succ, List.set_cons_zero])) | ((with_reducible refine wl_id ?_); refine wl_mapUpdate rfl _ _ _ 39 rfl _ _ keyI Try.underlying39 w4.heap.size _ rfl HMr.out x rfl HOK.out (.int .i64 1) rfl ?_; intro u3 hM3 hg3; (try simp only [Act.put, List.setIfInBounds_toArray, List.set_cons_succ, List.set_cons_zero])) | go_values | go_skip | go_guarded | go_step | go_upon | go_back | ((with_reducible show Oper.upon _ _ _ _ _ _); go_simp) | (dsimp only)))
            exact ⟨⟨j + 1, by omega, by go_num, Lib.hid (by rw [HST.out, ← List.append_assoc, ← oneM_put _ HNP.out]; exact hM3), below_grown HBr hg3 (fun q e => by injection e with e; omega)⟩, by simp [intOf]; omega⟩
          · have hjn : ¬ ((j : Int) < 8) := by omega
            have HME := Lib.hid (show MapV encI okI wr w4.heap.size (oneM ([] ++ (b.inp.take (k + 1)).flatten)) by
              have h := HMr.out
              have et : l.take j = l := List.take_of_length_le (by rw [HL8.out]; omega)
              rw [et, List.append_assoc, ← flat_take HL.out] at h
              exact h)
            clear hjg
            (repeat (first | (with_reducible first | refine xA ?_ | refine xB ?_ | refine xC ?_ | refine xD ?_ | refine xH ?_ | refine xI rfl ?_ | refine xE ?_ | refine xF ?_ | refine xG ?_) | go_values | go_skip | go_guarded | go_step | go_upon | go_back | ((with_reducible show Oper.upon _ _ _ _ _ _); go_simp) | (dsimp only)))
            exact ⟨⟨k + 1, by omega, by go_num, HME, HBr⟩, by simp [intOf]; omega⟩
    · have hkn : ¬ ((k : Int) < 16) := by omega
      have hm0 : MapV encI okI wr w4.heap.size (oneM (b.inp.flatten ++ (b.reg.take 0).flatten)) := by
        have h := HM.out
        have et : b.inp.take k = b.inp := List.take_of_length_le (by rw [H16.out]; omega)
        rw [et] at h
        simpa using h
      have HM0 := Lib.hid hm0
      have HBreg := HB
      obtain ⟨k16, rfl⟩ : ∃ k16, k16 = k := ⟨_, rfl⟩
      clear hge hk HM HB hm0
      (repeat (first | (with_reducible first | refine xA ?_ | refine xB ?_ | refine xC ?_ | refine xD ?_ | refine xH ?_ | refine xI rfl ?_ | refine xE ?_ | refine xF ?_ | refine xG ?_) | go_values | go_skip | go_guarded | go_step | go_upon | go_back | ((with_reducible show Oper.upon _ _ _ _ _ _); go_simp) | (dsimp only)))
      go_loopw [8] (fun i wr => ∃ k : Nat, k ≤ 8 ∧ i = .int .i64 k ∧ Hid (MapV encI okI wr w4.heap.size (oneM (b.inp.flatten ++ (b.reg.take k).flatten))) ∧ Below w4.heap.size w4 wr) (fun i _ => 8 - (intOf i).toNat)
      case atStart => exact ⟨0, Nat.zero_le _, rfl, HM0, HBreg⟩
      case round =>
        obtain ⟨k, hk, rfl, HM, HB⟩ := hrel
        rcases Nat.lt_or_ge k 8 with hlt | hge
        · have hlen : rv.length = 8 := by assumption
          have hbl : b.reg.length = 8 := H8.out
          obtain ⟨v1, hv⟩ : ∃ v1, rv[k]? = some v1 := ⟨_, List.getElem?_eq_getElem (by omega)⟩
          obtain ⟨l, hl⟩ : ∃ l, b.reg[k]? = some l := ⟨_, List.getElem?_eq_getElem (by omega)⟩
          have hS := HRG.out.2 k v1 l hv hl
          have hc4 := ((cell_of_row w4 q1 (19 + k) _ _ _ HH.out).trans ((List.getElem?_toArray ..).trans (fc_reg hil hv)))
          have hc := cell_keep HB hc4
          have hbw : Below w.heap.size w wr := hb9.trans (HB.mono hb9.size)
          have hki : (k : Int) < 8 := by omega
          have hk0 : (0 : Int) ≤ (k : Int) := by omega
          have HL := Lib.hid hl
          rcases HRN.out k l hl with ⟨hl0, hh⟩ | ⟨hl8, hh⟩
          · have hv0 := HNR.out k v1 hv (by rw [hl, hl0])
            subst hv0
            subst hl0
            have HHas := Lib.hid (fun n : Nat => HAS.out 2 k false (wr.drewN n) (below_drewN hbw n) (by omega) hh)
            clear hS hv hl hh
            (repeat (first | (with_reducible first | refine xA ?_ | refine xB ?_ | refine xC ?_ | refine xD ?_ | refine xH ?_ | refine xI rfl ?_ | refine xE ?_ | refine xF ?_ | refine xG ?_) | go_values | go_skip | go_guarded | go_step | go_upon | go_back | ((with_reducible show Oper.upon _ _ _ _ _ _); go_simp) | (dsimp only)))
            go_quiet (first | (go_at_call 32; (with_reducible refine Calls.quiet_of_same (HHas.out _))))
            have hbd : Below wr.heap.size wr (wr.drewN nq) := below_drewN (Below.refl _ _) _
            have hcd := cell_keep hbd hc
            (repeat (first | (with_reducible first | refine xA ?_ | refine xB ?_ | refine xC ?_ | refine xD ?_ | refine xH ?_ | refine xI rfl ?_ | refine xE ?_ | refine xF ?_ | refine xG ?_) | go_skip | go_guarded | (with_reducible refine wp_loop_rounds 2 ?_) | rw [rounds_succ] | go_values | go_skip | go_guarded | go_step | go_upon | go_back | ((with_reducible show Oper.upon _ _ _ _ _ _); go_simp) | (dsimp only)))
            exact ⟨⟨k + 1, by omega, by go_num, Lib.hid (by rw [flat_take HL.out, List.append_nil]; exact HM.out.kept (Kept.ofBelow (X := fun _ => True) hbd) trivial), HB.trans (hbd.mono HB.size)⟩, by simp [intOf]; omega⟩
          · obtain ⟨a1, c1, rfl⟩ := slx_shape hS hl8
            have HHas := Lib.hid (fun n : Nat => HAS.out 2 k true (wr.drewN n) (below_drewN hbw n) (by omega) hh)
            have HS := Lib.hid hS
            have HL8 := Lib.hid hl8
            clear hS hv hl hh hl8
            (repeat (first | (with_reducible first | refine xA ?_ | refine xB ?_ | refine xC ?_ | refine xD ?_ | refine xH ?_ | refine xI rfl ?_ | refine xE ?_ | refine xF ?_ | refine xG ?_) | go_values | go_skip | go_guarded | go_step | go_upon | go_back | ((with_reducible show Oper.upon _ _ _ _ _ _); go_simp) | (dsimp only)))
            go_quiet (first | (go_at_call 32; (with_reducible refine Calls.quiet_of_same (HHas.out _))))
            have hbd : Below wr.heap.size wr (wr.drewN nq) := below_drewN (Below.refl _ _) _
            have hcd := cell_keep hbd hc
            have HMd := Lib.hid (HM.out.kept (Kept.ofBelow (X := fun _ => True) hbd) trivial)
            have HBd := HB.trans (hbd.mono HB.size)
            clear HM HB hbd hc
            obtain ⟨w8, e8⟩ : ∃ w8, w8 = wr.drewN nq := ⟨_, rfl⟩
            rw [← e8] at hcd HMd HBd ⊢
            have hbw8 : Below w.heap.size w w8 := hb9.trans (HBd.mono hb9.size)
            clear e8 HHas hbw
            obtain ⟨bx, ox, rfl, -, hbx, -, hRx⟩ := HS.out.row (by rw [HL8.out]; decide)
            have HRX := Lib.hid hRx
            have HINF : Hid (∀ (k j : Nat) (l : List Int) (x : Int), b.reg[k]? = some l → l[j]? = some x → x ∈ b.inp.flatten ++ b.reg.flatten) := Lib.hid (fun k j l x h1 h2 => List.mem_append.2 (.inr (mem_flat h1 h2)))
            have HND : Hid ((b.inp.flatten ++ b.reg.flatten).Nodup) := Lib.hid (by exact HBD.out.nd)
            clear hRx hbx
            (repeat (first | (with_reducible first | refine xA ?_ | refine xB ?_ | refine xC ?_ | refine xD ?_ | refine xH ?_ | refine xI rfl ?_ | refine xE ?_ | refine xF ?_ | refine xG ?_) | go_values | go_skip | go_guarded | go_step | go_upon | go_back | ((with_reducible show Oper.upon _ _ _ _ _ _); go_simp) | (dsimp only)))
            go_loopw [9] (fun i wr => ∃ j : Nat, j ≤ 64 ∧ i = .int .i64 j ∧ Hid (MapV encI okI wr w4.heap.size (oneM ((b.inp.flatten ++ (b.reg.take k).flatten) ++ l.take j))) ∧ Below w4.heap.size w4 wr) (fun i _ => 64 - (intOf i).toNat)
            case atStart => exact ⟨0, Nat.zero_le _, rfl, Lib.hid (by simpa using HMd.out), HBd⟩
            case round =>
              clear HMd HBd
              obtain ⟨j, hj, rfl, HMr, HBr⟩ := hrel
              have hcr := cell_keep HBr hc4
              rcases Nat.lt_or_ge j 64 with hjl | hjg
              · obtain ⟨x, hx⟩ : ∃ x, l[j]? = some x := ⟨_, List.getElem?_eq_getElem (by have := HL8.out; omega)⟩
                have hcx := cell_keep HBr (HRX.out j x hx)
                have hxn := HBD.out.rng x (HINF.out k j l x HL.out hx)
                have hxN := HBN.out
                have hok : okI x := by unfold okI; omega
                have HNO := Lib.hid (oneM_none (flat_next HL.out hx HND.out))
                have HNP := Lib.hid (flat_next HL.out hx HND.out)
                have hst := list_upto hx
                have HST := Lib.hid hst
                have hji : (j : Int) < 64 := by omega
                have hj0 : (0 : Int) ≤ (j : Int) := by omega
                have HOK := Lib.hid hok
                clear hx hxn hxN hst hok
                (repeat (first | (with_reducible first | refine xA ?_ | refine xB ?_ | refine xC ?_ | refine xD ?_ | refine xH ?_ | refine xI rfl ?_ | refine xE ?_ | refine xF ?_ | refine xG ?_) | go_skip | go_guarded | ((with_reducible refine wl_id ?_); refine wl_lookup rfl _ _ 39 false rfl 3 3 keyI Try.underlying39 (.int .i64 0) (zero3 _) w4.heap.size _ rfl HMr.out x rfl HOK.out ?_; (simp only [Bool.false_eq_true, if_false]; (rw [HNO.out])); (try simp only [Act.put, List.setIfInBounds_toArray, List.set_cons_succ, List.set_cons_zero])) | ((with_reducible refine wl_id ?_); refine wl_mapUpdate rfl _ _ _ 39 rfl _ _ keyI Try.underlying39 w4.heap.size _ rfl HMr.out x rfl HOK.out (.int .i64 1) rfl ?_; intro u3 hM3 hg3; (try simp only [Act.put, List.setIfInBounds_toArray, List.set_cons_succ, List.set_cons_zero])) | go_values | go_skip | go_guarded | go_step | go_upon | go_back | ((with_reducible show Oper.upon _ _ _ _ _ _); go_simp) | (dsimp only)))
                exact ⟨⟨j + 1, by omega, by go_num, Lib.hid (by rw [HST.out, ← List.append_assoc, ← oneM_put _ HNP.out]; exact hM3), below_grown HBr hg3 (fun q e => by injection e with e; omega)⟩, by simp [intOf]; omega⟩
              · have hjn : ¬ ((j : Int) < 64) := by omega
                have HME := Lib.hid (show MapV encI okI wr w4.heap.size (oneM (b.inp.flatten ++ (b.reg.take (k + 1)).flatten)) by
                  have h := HMr.out
                  have et : l.take j = l := List.take_of_length_le (by rw [HL8.out]; omega)
                  rw [et, List.append_assoc, ← flat_take HL.out] at h
                  exact h)
                clear hjg
                (repeat (first | (with_reducible first | refine xA ?_ | refine xB ?_ | refine xC ?_ | refine xD ?_ | refine xH ?_ | refine xI rfl ?_ | refine xE ?_ | refine xF ?_ | refine xG ?_) | go_values | go_skip | go_guarded | go_step | go_upon | go_back | ((with_reducible show Oper.upon _ _ _ _ _ _); go_simp) | (dsimp only)))
                exact ⟨⟨k + 1, by omega, by go_num, HME, HBr⟩, by simp [intOf]; omega⟩
        · have hkn8 : ¬ ((k : Int) < 8) := by omega
          have hm1 : MapV encI okI wr w4.heap.size (oneM (b.inp.flatten ++ b.reg.flatten)) := by
            have h := HM.out
            have et : b.reg.take k = b.reg := List.take_of_length_le (by rw [H8.out]; omega)
            rw [et] at h
            exact h
          have HM1 := Lib.hid hm1
          clear hm1 HM
          have HCN := Lib.hid ((cell_of_row w4 q1 1 _ _ _ HH.out).trans rfl : w4.cell? ⟨q1, 1, none⟩ = some (.int .i64 b.g.n))
          (repeat (first | (with_reducible first | refine xA ?_ | refine xB ?_ | refine xC ?_ | refine xD ?_ | refine xH ?_ | refine xI rfl ?_ | refine xE ?_ | refine xF ?_ | refine xG ?_) | go_skip | go_guarded | ((with_reducible refine wl_id ?_); refine wl_range rfl _ 39 rfl 3 3 Try.underlying39 w4.heap.size _ rfl HM1.out ?_; intro w5 hI5 hb5; (rw [oneM_keys] at hI5); (try simp only [Act.put, List.setIfInBounds_toArray, List.set_cons_succ, List.set_cons_zero])) | go_values | go_skip | go_guarded | go_step | go_upon | go_back | ((with_reducible show Oper.upon _ _ _ _ _ _); go_simp) | (dsimp only)))
          have hir : wr.heap.size < w5.heap.size := hI5.lt.1
          have hms : w4.heap.size < wr.heap.size := HM1.out.lt
          have HB5 := HB.trans (hb5.mono HB.size)
          have HIT2 := Lib.hid HB.size
          generalize wr.heap.size = it at *
          have hn0 : (b.g.n : Int) ≤ 1048576 := by have := HBN.out; omega
          go_loopw [10] (fun i u => ∃ L : List Int, Hid (IterV encI okI u it w4.heap.size (oneM (b.inp.flatten ++ b.reg.flatten)) L) ∧ Hid (∀ x ∈ L, x ∈ b.inp.flatten ++ b.reg.flatten) ∧ Below w4.heap.size w4 u) (fun _ u => leftSz u it w4.heap.size)
          case atStart => exact ⟨_, Lib.hid hI5, Lib.hid (fun x h => h), HB5⟩
          case round =>
            clear hI5 HB5 hb5
            obtain ⟨L, HI, HL, HB⟩ := hrel
            rcases L with _ | ⟨x0, L⟩
            · (repeat (first | (with_reducible first | refine xA ?_ | refine xB ?_ | refine xC ?_ | refine xD ?_ | refine xH ?_ | refine xI rfl ?_ | refine xE ?_ | refine xF ?_ | refine xG ?_) | go_skip | go_guarded | ((with_reducible refine wl_id ?_); refine wl_next rfl _ rfl (fun x y h => keyI.inj x y h) it w4.heap.size _ [] rfl HI.out (fun _ => ?_) (fun x xv w7 hxL => by cases hxL); (try simp only [Act.put, List.setIfInBounds_toArray, List.set_cons_succ, List.set_cons_zero])) | go_values | go_skip | go_guarded | go_step | go_upon | go_back | ((with_reducible show Oper.upon _ _ _ _ _ _); go_simp) | (dsimp only)))
              go_ret
              exact ⟨rfl, hb9.trans (HB.mono HIT.out)⟩
            · have HSZ := Lib.hid HI.out.sz
              (repeat (first | (with_reducible first | refine xA ?_ | refine xB ?_ | refine xC ?_ | refine xD ?_ | refine xH ?_ | refine xI rfl ?_ | refine xE ?_ | refine xF ?_ | refine xG ?_) | go_skip | go_guarded | ((with_reducible refine wl_id ?_); refine wl_next rfl _ rfl (fun x y h => keyI.inj x y h) it w4.heap.size _ (x0 :: L) rfl HI.out (fun e => by cases e) ?_; intro x xv w7 hxL hxm hI2 hg2 hent; (obtain rfl : xv = .int .i64 1 := oneM_val hxm); have hxr := HBD.out.rng x (HL.out x hxL); have hx1 : ¬ x < 1 := (by omega); have hx2 : ¬ (b.g.n : Int) < x := (by omega); have hcr := cell_keep (below_grown HB hg2 (fun q e => by injection e with e; have := HIT2.out; omega)) HCN.out; have HI2 := Lib.hid hI2; have HXL := Lib.hid hxL; have HB2 := Lib.hid (below_grown HB hg2 (fun q e => by injection e with e; have := HIT2.out; omega)); clear hxm hI2 hg2 hxL hxr; (simp only [encI] at hent ⊢); (try simp only [Act.put, List.setIfInBounds_toArray, List.set_cons_succ, List.set_cons_zero])) | ((with_reducible refine wl_id ?_); refine wl_entry rfl _ rfl it rfl _ hent ?_; (try simp only [Act.put, List.setIfInBounds_toArray, List.set_cons_succ, List.set_cons_zero])) | go_values | go_skip | go_guarded | go_step | go_upon | go_back | ((with_reducible show Oper.upon _ _ _ _ _ _); go_simp) | (dsimp only)))
              refine ⟨⟨_, HI2, Lib.hid (fun y hy => HL.out y (List.mem_filter.1 hy).1), HB2.out⟩, ?_⟩
              rw [HI2.out.sz, HSZ.out]
              exact List.length_filter_lt_length_iff_exists.2 ⟨x, HXL.out, by simp⟩

end Go.Proofs.Ytmaogkgjiplckaa

set_option linter.unusedSimpArgs false
set_option linter.unusedVariables false
namespace Go.Proofs.Ytmaogkgjiplckaa
open Go.RowKit
open Go.ChangeShapes Go.WideShapes Go.Deep Go.Joins
set_option maxRecDepth 100000
theorem ops_of {ls : List Nd} (h : tchk ls = (0, 0)) (hm : ls.length ≤ 65536) : ∀ d ∈ ls, 0 ≤ d.op ∧ d.op ≤ 24 := by
  intro d hd
  unfold tchk at h
  split at h
  · injection h with h1 _; cases h1
  obtain ⟨j, hj⟩ := List.mem_iff_getElem?.1 hd
  have hjl : j < ls.length := (List.getElem?_eq_some_iff.1 hj).1
  have hr := chk_ok 0 (by omega) hm (by simpa using h) j d (by omega) hj
  by_cases h0 : 0 ≤ d.op ∧ d.op ≤ 24
  · exact h0
  · exfalso
    unfold rightE at hr
    rw [if_pos (by omega)] at hr
    cases hr
theorem tchk_2 : ∀ (k : Nat) (ls : List Nd), (chk (ls.take k) (ls.drop k)).1 = 0 → (chk (ls.take k) (ls.drop k)).2 = 0 := by
  intro k ls
  generalize hn : ls.length - k = n
  induction n generalizing k with
  | zero =>
    intro _
    rw [List.drop_of_length_le (by omega)]
    rfl
  | succ n ih =>
    intro h
    rw [chk_step (List.getElem?_eq_getElem (show k < ls.length by omega))] at h ⊢
    split at h
    · cases h
    · rename_i hk
      rw [if_neg hk]
      split at h
      · rename_i hne; exact absurd h hne
      · rename_i hne; rw [if_neg hne]; exact ih (k + 1) (by omega) h
theorem tchk_00 {ls : List Nd} (h : (tchk ls).1 = 0) : tchk ls = (0, 0) := by
  have e : (tchk ls).2 = 0 := by
    unfold tchk at h ⊢
    split at h
    · cases h
    · rename_i hne
      rw [if_neg hne]
      exact tchk_2 0 ls h
  exact Prod.ext h e
theorem leaves_walk (ls : List Nd) (v : Value) (w : World) (h : SlIs 6 Nd.cells w v ls) (hwf : ∀ d ∈ ls, NdWf d) :
    Calls Try.prog 8 #[v] w fun e w' => e = .returned (.bool true) ∧ Below w.heap.size w w' := by
  cases hl : lightB ls with
  | false => exact leaves_dark ls v w h hl
  | true =>
    have hll : ls.length ≤ 60 := by
      unfold lightB at hl
      rw [Bool.and_eq_true, decide_eq_true_eq] at hl
      exact hl.1
    by_cases hE : (tchk ls).1 = 0
    · have h00 := tchk_00 hE
      have ho := ops_of h00 (by omega)
      cases ha : ls.any arrB with
      | true => exact leaves_err ls v w h hl 8 rfl fun u hb => of_arr ls v u (h.below hb) hwf hE (by omega) ho ha
      | false =>
        obtain ⟨hT, hne⟩ := tf_of h00 (by omega) (fun d hd => arr_no.1 (by
          have := List.any_eq_false.1 ha d hd
          simpa using this)) hwf
        obtain ⟨s, hs⟩ := blast_ok (I := fun _ => 0) (R := fun _ => 0) hT (fun _ => by decide) (fun _ => by decide) ls.length (Nat.le_refl _)
        have hlv := leaves_ok hT ls.length (Nat.le_refl _)
        have hn := light_n hT hl
        refine leaves_main ls v w h hl hll (bK ls ls.length) ((bK ls ls.length).at ((ls.length - 1 : Nat) : Int)) hlv.d (by have := hn ls.length (Nat.le_refl _); omega) hs.il hs.rl ?_ ?_ (fun u hb => of_ok ls v u (h.below hb) hwf hE (by omega) hT hne ho ha hn)
        · intro i l hi
          have hi16 : i < 16 := by have := (List.getElem?_eq_some_iff.1 hi).1; have := hs.il; omega
          have e : (bK ls ls.length).inp.getD i [] = l := by rw [List.getD_eq_getElem?_getD, hi]; rfl
          have h1 := hlv.hi i hi16
          have h2 := hs.inp i hi16
          rw [e] at h1 h2
          rw [List.take_length] at h1
          rcases h2 with rfl | h2
          · exact .inl ⟨rfl, h1.1 rfl⟩
          · right
            have hlen := h2.len
            refine ⟨hlen, ?_⟩
            cases hc : ls.any (hasB 1 i) with
            | true => rfl
            | false => have := h1.2 hc; subst this; cases hlen
        · intro i l hi
          have hi16 : i < 8 := by have := (List.getElem?_eq_some_iff.1 hi).1; have := hs.rl; omega
          have e : (bK ls ls.length).reg.getD i [] = l := by rw [List.getD_eq_getElem?_getD, hi]; rfl
          have h1 := hlv.hr i hi16
          have h2 := hs.reg i hi16
          rw [e] at h1 h2
          rw [List.take_length] at h1
          rcases h2 with rfl | h2
          · exact .inl ⟨rfl, h1.1 rfl⟩
          · right
            have hlen := h2.len
            refine ⟨hlen, ?_⟩
            cases hc : ls.any (hasB 2 i) with
            | true => rfl
            | false => have := h1.2 hc; subst this; cases hlen
    · exact leaves_err ls v w h hl (tchk ls).1 (by simpa using hE) fun u hb => of_bad ls v u (h.below hb) hwf _ (Lib.hid rfl) (by simpa using hE)

end Go.Proofs.Ytmaogkgjiplckaa

