import Derived.Test.YtmaogkgjiplckaaGreatQR7
import Derived.Test.YtmaogkgjiplckaaGreatQR5
set_option linter.unusedVariables false
set_option linter.unusedSimpArgs false
namespace Go.Proofs.YtmaogkgjiplckaaGreat
open Go.RowKit
def OfRes (b : BS) (root : List Int) (e : Ending) (w' : World) : Prop :=
  ∃ (q : Nat) (cs : List Value) (ar : Option Addr) (cr : Nat) (iv rv : List Value), e = .returned (.tuple #[.agg (fcells (.slice (some ⟨q, 0, none⟩) b.g.cl.length b.g.cl.length) (.int .i64 b.g.n) (.slice ar root.length cr) iv rv).toArray, .int .i64 0]) ∧
    OwnW w' q b.g.cl.length cs ∧ SlsX (fun _ => True) w' cs b.g.cl ∧ SlX (fun _ => True) w' (.slice ar root.length cr) root ∧ iv.length = 16 ∧ rv.length = 8 ∧ SlsX (fun _ => True) w' iv b.inp ∧ SlsX (fun _ => True) w' rv b.reg ∧
    (∀ (i : Nat) (v : Value), iv[i]? = some v → b.inp[i]? = some [] → v = .slice none 0 0) ∧ (∀ (i : Nat) (v : Value), rv[i]? = some v → b.reg[i]? = some [] → v = .slice none 0 0) ∧ b.g.cl.length ≤ 4194304
structure FR2 (u w : World) (bb gb : Nat) (b : BS) (q : Nat) (cs : List Value) (vr lv wv : Value) (root : List Int) (iv rv : List Value) : Prop where
  f : FRep w bb gb b (.slice (some ⟨q, 0, none⟩) b.g.cl.length b.g.cl.length) (.int .i64 b.g.n) vr lv wv iv rv
  o : OwnW w q b.g.cl.length cs
  qb : q ≠ bb
  cls : SlsX (fun k => k ≠ bb) w cs b.g.cl
  rt : SlX (fun k => k ≠ bb) w vr root
  k : Kept (fun j => j < u.heap.size) u w
  ub : u.heap.size ≤ bb
section
variable {u w w' : World} {bb gb : Nat} {b : BS} {q : Nat} {cs : List Value} {vr lv wv : Value} {root : List Int} {iv rv : List Value}
theorem FR2.below (h : FR2 u w bb gb b q cs vr lv wv root iv rv) (hb : Below w.heap.size w w') : FR2 u w' bb gb b q cs vr lv wv root iv rv :=
  ⟨h.f.below hb, h.o.kept (Kept.ofBelow (X := fun _ => True) hb) trivial, h.qb, h.cls.kept (Kept.ofBelow hb), h.rt.kept (Kept.ofBelow hb), h.k.trans (Kept.ofBelow hb), h.ub⟩
theorem FR2.setI (h : FR2 u w bb gb b q cs vr lv wv root iv rv) {i : Nat} (hi : i < 16) {v : Value} {l : List Int} (hl : b.inp[i]? = some l) (hv : SlX (fun k => k ≠ bb) w v l) (hn : l = [] → v = .slice none 0 0) : FR2 u (w.setCell ⟨bb, 3 + i, none⟩ v) bb gb b q cs vr lv wv root (iv.set i v) rv :=
  ⟨h.f.setI hi hl hv hn, h.o.kept set_kept h.qb, h.qb, h.cls.kept set_kept, h.rt.kept set_kept, h.k.trans (set_kept.mono fun j _ hj => by show j ≠ bb; have := h.ub; have : j < u.heap.size := hj; omega), h.ub⟩
theorem FR2.setR (h : FR2 u w bb gb b q cs vr lv wv root iv rv) {i : Nat} (hi : i < 8) {v : Value} {l : List Int} (hl : b.reg[i]? = some l) (hv : SlX (fun k => k ≠ bb) w v l) (hn : l = [] → v = .slice none 0 0) : FR2 u (w.setCell ⟨bb, 19 + i, none⟩ v) bb gb b q cs vr lv wv root iv (rv.set i v) :=
  ⟨h.f.setR hi hl hv hn, h.o.kept set_kept h.qb, h.qb, h.cls.kept set_kept, h.rt.kept set_kept, h.k.trans (set_kept.mono fun j _ hj => by show j ≠ bb; have := h.ub; have : j < u.heap.size := hj; omega), h.ub⟩
end
section
variable {ops : Array Oper} {rest : List Oper} {o : Oper} {a : Act} {w : World} {Q : Exit → Act → World → Prop}
theorem wl_ldform {l : List Value} (hgd : o.guard = none) (x : Operand) (ho : o.op = .load 35 x) (g : Nat) (hx : a.eval x = .pointer (some ⟨g, 0, none⟩)) (t : TypeId) (cs : Array Value) (fr : Nat × Nat) (hg : w.heap[g]? = some (.cells cs t fr)) (hs : 27 ≤ cs.size) (hl : cs.toList.take 27 = l)
    (h : wpList Tryz.prog ops Q rest (a.put o.dst (.agg l.toArray)) w) : wpList Tryz.prog ops Q (o :: rest) a w :=
  wpList_plain hgd fun _ hK => by
    subst hl
    unfold Oper.wp execOp
    simp only [ho, hx, Sem.run_bind, load_form w g t cs fr hg hs, Result.andThen_ok]
    exact hK _ _ h
end
theorem slsx_one {Z : Nat → Prop} {w : World} {xs : List Value} {cl : List (List Int)} (h : SlsX Z w xs cl) : ∀ v ∈ xs, v.oneCell' = true := fun v hv => by
  obtain ⟨i, hi⟩ := List.mem_iff_getElem?.1 hv
  have hl := (List.getElem?_eq_some_iff.1 hi).1
  obtain ⟨ao, c, e⟩ := (h.2 i v _ hi (List.getElem?_eq_getElem (by rw [← h.1]; exact hl))).shape
  rw [e]; rfl
theorem bc_size {c0 c1 c2 lv wv : Value} {iv rv : List Value} {gb : Nat} (hi : iv.length = 16) (hr : rv.length = 8) : 27 ≤ (bcells c0 c1 c2 iv rv lv wv gb).toArray.size := by
  rw [List.size_toArray]
  unfold bcells
  simp [hi, hr]
theorem SlsX.any {Z : Nat → Prop} {w : World} {xs : List Value} {cl : List (List Int)} (h : SlsX Z w xs cl) : SlsX (fun _ => True) w xs cl := h.mono fun _ _ _ => trivial
theorem slx_off {Z : Nat → Prop} {w : World} {r0 : Nat} {v : Value} {l : List Int} (h : SlX Z w v l) (hz : ∀ x ∈ l, x ≠ 0) (hf : w.heap[r0]? = some (.cells fzero.toArray 35 (0, 0))) : SlX (fun k => Z k ∧ k ≠ r0) w v l := by
  obtain ⟨ao, cap, e, hc, h0, hr⟩ := h
  refine ⟨ao, cap, e, hc, h0, fun hne => ?_⟩
  obtain ⟨b, o, e2, hZ, hlt, hR⟩ := hr hne
  refine ⟨b, o, e2, ⟨hZ, ?_⟩, hlt, hR⟩
  rintro rfl
  obtain ⟨x, l', rfl⟩ : ∃ x l', l = x :: l' := by cases l with
    | nil => exact absurd rfl hne
    | cons x l' => exact ⟨x, l', rfl⟩
  have hc0 := hR 0 x rfl
  rw [cell_of_row w b _ _ _ _ hf, List.getElem?_toArray] at hc0
  have hx := hz x (List.mem_cons_self ..)
  have hall : ∀ (i : Nat) (y : Int), fzero[i]? = some (.int .i64 y) → y = 0 := by
    intro i y hi
    have hi27 : i < 27 := by have := (List.getElem?_eq_some_iff.1 hi).1; rw [fzero_len] at this; exact this
    have key : ∀ i : Fin 27, fzero[i.1]? = some (.slice none 0 0) ∨ fzero[i.1]? = some (.int .i64 0) := by
      intro i
      match i with
      | ⟨0, _⟩ => exact .inl rfl
      | ⟨1, _⟩ => exact .inr rfl
      | ⟨i + 2, hi⟩ =>
        left
        have hrep : fzero = [.slice none 0 0, .int .i64 0] ++ List.replicate 25 (.slice none 0 0) := rfl
        rw [hrep, List.getElem?_append_right (by simp), List.getElem?_replicate]
        simp; omega
    rcases key ⟨i, hi27⟩ with h | h
    · simp only at h; rw [h] at hi; cases hi
    · simp only at h; rw [h] at hi; injection hi with hi; injection hi with _ hi; exact hi.symm
  exact hx (hall _ _ hc0)
theorem slsx_off {Z : Nat → Prop} {w : World} {r0 : Nat} {xs : List Value} {cl : List (List Int)} (h : SlsX Z w xs cl) (hz : ∀ c ∈ cl, ∀ x ∈ c, x ≠ 0) (hf : w.heap[r0]? = some (.cells fzero.toArray 35 (0, 0))) : SlsX (fun k => Z k ∧ k ≠ r0) w xs cl :=
  ⟨h.1, fun i x l hx hl => slx_off (h.2 i x l hx hl) (hz l (List.mem_of_getElem? hl)) hf⟩
theorem SlX.any {Z : Nat → Prop} {w : World} {v : Value} {l : List Int} (h : SlX Z w v l) : SlX (fun _ => True) w v l := h.mono fun _ _ _ => trivial
theorem bK_leaf {ls : List Nd} (hT : TF ls) : ∀ l, l ∈ (bK ls ls.length).inp ∨ l ∈ (bK ls ls.length).reg → l.length ≤ 1000000 ∧ ∀ x ∈ l, x ≠ 0 := by
  obtain ⟨s, hs⟩ := blast_ok (I := fun _ => 0) (R := fun _ => 0) hT (fun _ => by decide) (fun _ => by decide) ls.length (Nat.le_refl _)
  rintro l (h | h)
  · obtain ⟨i, hi⟩ := List.mem_iff_getElem?.1 h
    have h16 := hs.inp i (by have := (List.getElem?_eq_some_iff.1 hi).1; have := hs.il; omega)
    have e : (bK ls ls.length).inp.getD i [] = l := by rw [List.getD_eq_getElem?_getD, hi]; rfl
    rw [e] at h16
    rcases h16 with rfl | h16
    · simp
    · exact ⟨by have := h16.len; omega, fun x hx => (h16.isl x hx).1⟩
  · obtain ⟨i, hi⟩ := List.mem_iff_getElem?.1 h
    have h16 := hs.reg i (by have := (List.getElem?_eq_some_iff.1 hi).1; have := hs.rl; omega)
    have e : (bK ls ls.length).reg.getD i [] = l := by rw [List.getD_eq_getElem?_getD, hi]; rfl
    rw [e] at h16
    rcases h16 with rfl | h16
    · simp
    · exact ⟨by have := h16.len; omega, fun x hx => (h16.isl x hx).1⟩
set_option maxRecDepth 100000 in
set_option maxHeartbeats 8000000 in
theorem of_ok (ls : List Nd) (v : Value) (w : World) (h : SlIs 6 Nd.cells w v ls) (hwf : ∀ d ∈ ls, NdWf d) (hE : (tchk ls).1 = 0) (hll : ls.length ≤ 1000000) (hT : TF ls) (hne : ls ≠ []) (ho : ∀ d ∈ ls, 0 ≤ d.op ∧ d.op ≤ 24) (ha : ls.any arrB = false) (hn : ∀ k, k ≤ ls.length → (bK ls k).g.n + 40000 ≤ 1048576) :
    Calls Tryz.prog 8 #[v] w fun e w' => OfRes (bK ls ls.length) ((bK ls ls.length).at ((ls.length - 1 : Nat) : Int)) e w' ∧ Below w.heap.size w w' := by
  have hmf : ∀ (fn : Fn) (first cap : Array Value) (w : World), (Instr.makeFunc fn first cap).run Tryz.prog w = .ok (.func fn first cap) w := fun _ _ _ _ => rfl
  obtain ⟨b0, off, cap, rfl, -, HR0⟩ := h.cases.resolve_left (by rintro ⟨_, _, _, e⟩; exact hne e)
  have hcap : ls.length ≤ cap := by
    obtain ⟨_, _, e, hc, _⟩ := h
    injection e with e1 e2 e3
    omega
  have HC : Hid (∀ u : World, Below w.heap.size w u → Calls Tryz.prog 20 #[.slice (some ⟨b0, off, none⟩) ls.length cap] u fun e w' => e = .returned (.tuple #[.int .i64 0, .int .i64 (tchk ls).2]) ∧ Below u.heap.size u w') := Lib.hid (fun u hb => by
    have := check_any ls _ u (h.below hb) hwf
    rw [hE] at this
    exact this)
  have HCT : Hid (∀ u : World, Below w.heap.size w u → ∀ q, WaysAt u q → Calls Tryz.prog 22 #[.slice (some ⟨b0, off, none⟩) ls.length cap, .func (Fn.func 23) #[] #[.pointer (some ⟨q, 0, none⟩)]] u fun e w' => e = .returned (.bool false) ∧ Below u.heap.size u w') := Lib.hid (fun u hb q hq => containsn_any q _ ls u (h.below hb) hll hq ho false (Lib.hid ha))
  generalize (tchk ls).2 = E2 at HC
  clear h hE ho ha
  go_enter Tryz.func8, Tryz.ntmps8
  (iterate 12 (first | (with_reducible first | refine xA ?_ | refine xB ?_ | refine xC ?_ | refine xD ?_ | refine xH ?_ | refine xI rfl ?_ | refine xE ?_ | refine xF ?_ | refine xG ?_) | go_values | go_skip | go_guarded | go_step | go_upon | go_back | ((with_reducible show Oper.upon _ _ _ _ _ _); go_simp) | (dsimp only)))
  refine wp_abs (fun u => Below w.heap.size w u ∧ u.heap[w.heap.size]? = some (.cells fzero.toArray 35 (0, 0))) ⟨by (repeat (first | with_reducible exact Below.refl _ _ | assumption | with_reducible refine below_drewN ?_ _ | with_reducible refine Below.drew ?_ | with_reducible refine Below.setRow ?_ ?_ _ | with_reducible refine Below.alloc ?_ ?_ _ | with_reducible refine Below.setCell ?_ ?_ _ | with_reducible exact Nat.le_refl _ | (focus (simp; done)) | (focus (simp; omega)) | omega)), heap_alloc_new w (.cells fzero.toArray 35)⟩ ?_
  rintro w1 ⟨hb1, hf1⟩
  have HF := Lib.hid hf1
  clear hf1
  (repeat (first | (with_reducible first | refine xA ?_ | refine xB ?_ | refine xC ?_ | refine xD ?_ | refine xH ?_ | refine xI rfl ?_ | refine xE ?_ | refine xF ?_ | refine xG ?_) | go_skip | go_guarded | (go_at_call 20; (with_reducible refine (HC.out _ hb1).mono ?_); rintro _ w2 ⟨rfl, hb⟩; replace HF := Lib.hid ((Kept.ofBelow (X := fun _ => True) hb).at HF.out trivial); replace hb1 := hb1.trans (hb.mono hb1.size); clear hb) | (go_at_call 21; (with_reducible refine (ways_any _).mono ?_); rintro _ w3 ⟨rfl, hb⟩; replace HF := Lib.hid ((Kept.ofBelow (X := fun _ => True) hb).at HF.out trivial); replace hb1 := hb1.trans (hb.mono hb1.size); have hlt3 := lt_of_block HF.out; clear hb) | (go_at_call 22; (with_reducible refine (HCT.out _ hb4 _ HWY.out).mono ?_); rintro _ w5 ⟨rfl, hb⟩; replace HF := Lib.hid ((Kept.ofBelow (X := fun _ => True) hb).at HF.out trivial); replace HWY := Lib.hid (HWY.out.below hb); replace hb4 := hb4.trans (hb.mono hb4.size); clear hb) | ((with_reducible refine wl_id ?_); refine wl_strow rfl 63 _ _ rfl w3.heap.size (waysV 22).toArray rfl rfl 63 #[Value.nilFunc, Value.nilFunc, Value.nilFunc, Value.nilFunc, Value.nilFunc, Value.nilFunc, Value.nilFunc, Value.nilFunc, Value.nilFunc, Value.nilFunc, Value.nilFunc, Value.nilFunc, Value.nilFunc, Value.nilFunc, Value.nilFunc, Value.nilFunc, Value.nilFunc, Value.nilFunc, Value.nilFunc, Value.nilFunc, Value.nilFunc, Value.nilFunc, Value.nilFunc, Value.nilFunc, Value.nilFunc] (heap_alloc_new w3 _) (by rw [List.size_toArray, waysV_len]; exact sizeTW) (waysV_len 22).symm (waysV_one 22) ?_; intro w4 hh4 hg4; have HWY := Lib.hid (ways_at hh4); have hb4 := below_grown (Below.alloc hb1 hb1.size _) hg4 (fun k e => by injection e with e; have := hb1.size; omega); replace HF := Lib.hid (keep_at hg4 ((heap_alloc_old w3 _ hlt3).trans HF.out) (fun e => by injection e with e; omega)); have hq6 := lt_of_block hh4; clear hh4 hg4; (try simp only [Act.put, qz4, qz5, qz6])) | (go_at_call 24; (with_reducible refine (New_any (X := fun k => k < w5.heap.size) w5 (fun k h => h)).mono ?_); rintro _ w6 ⟨gb, rfl, hG6, hb6⟩) | ((with_reducible refine wl_id ?_); refine wl_bld (cells := (bcells (.slice none 0 0) (.int .i64 0) (.slice none 0 0) (nilV 16) (nilV 8) (.slice (some ⟨b0, off, none⟩) ls.length cap) (.slice none 0 0) gb).toArray) rfl 71 _ rfl (by kernel_rfl) ?_; (try simp only [Act.put, qz4, qz5, qz6])) | go_step3 | ((with_reducible show Exit.noGoto _ _ _ _); simp only [Exit.noGoto_normal, Exit.noGoto_exit, Exit.noGoto_ret]) | go_values | go_skip | go_guarded | go_step | go_upon | go_back | ((with_reducible show Oper.upon _ _ _ _ _ _); go_simp) | (dsimp only)))
  have hq5 : w3.heap.size < w5.heap.size := World.block_lt_of_cell? w5 _ (HWY.out 0 (by decide))
  have hbb := hb6.size
  refine wp_abs (fun u => OfR ls 0 w5 w6.heap.size gb w5.heap.size (.slice (some ⟨b0, off, none⟩) ls.length cap) u) (ofr_start ls hG6 hb6) ?_
  clear hG6 hb6 hb1 hlt3 hq6
  intro w7 hR7
  have HR7 := Lib.hid hR7
  clear hR7
  generalize w6.heap.size = bb at *
  generalize w3.heap.size = q6 at *
  go_loopw [8, 34] (fun e8 i wr => ∃ k : Nat, k ≤ ls.length ∧ e8 = .int .i64 0 ∧ i = .int .i64 k ∧ Hid (OfR ls k w5 bb gb w5.heap.size (.slice (some ⟨b0, off, none⟩) ls.length cap) wr)) (fun _ i _ => ls.length - (intOf i).toNat)
  case atStart => exact ⟨0, Nat.zero_le _, rfl, rfl, HR7⟩
  case round =>
    clear HR7
    obtain ⟨k, hk, rfl, rfl, HR⟩ := hrel
    obtain ⟨X, iv, rv, vs, wv, hB, hXB, hBb, hbase, hK⟩ := HR.out
    clear HR
    obtain ⟨aw, cw, rfl⟩ := ownsRow_shape hB.row
    have hbw : Below w.heap.size w wr := hb4.trans ((hK.toBelow (Nat.le_refl _) fun _ h => h).mono hb4.size)
    rcases Nat.lt_or_ge k ls.length with hlt | hge
    · obtain ⟨d, hd⟩ : ∃ d, ls[k]? = some d := ⟨_, List.getElem?_eq_getElem hlt⟩
      have hi := Lib.hid hd
      obtain ⟨s, hs⟩ := blast_ok (I := fun _ => 0) (R := fun _ => 0) hT (fun _ => by decide) (fun _ => by decide) k hk
      obtain ⟨s', hst⟩ := step_ok hT hs hd (fun _ => by decide) (fun _ => by decide)
      obtain ⟨j, f, hj, hj25, hwj, hent, HF2⟩ := way_any hT hs hd (hwf d (List.mem_of_getElem? hd)) (hn k hk)
      have hwl := hst.wd.len
      have hdw := (hT k d hd).wd fun a ha => hT.wd a (by omega)
      have hbk : bK ls (k + 1) = .push (bword (bK ls k) d) := by rw [bK, hd]
      have hrw := hst.ws
      obtain ⟨r, hr⟩ : ∃ r, bword (bK ls k) d = r := ⟨_, rfl⟩
      rw [hr] at hwl hbk hrw HF2
      obtain ⟨N, hN⟩ : ∃ N, r.2.length = N := ⟨_, rfl⟩
      have hN1 : 1 ≤ N := by omega
      have fN : ((N : Int) == 0) = false := by simp; omega
      have HF3 := Lib.hid HF2
      have HENT := Lib.hid hent
      have HBK := Lib.hid hbk
      have HRW := Lib.hid hrw
      have HN := Lib.hid hN
      have HJ := Lib.hid hj
      have HWJ := Lib.hid hwj
      clear hent hs hst hd hwl hdw hr HF2 hbk hrw hN hj hwj
      have HRn := HR0.below hbw
      (repeat (first | (with_reducible first | refine xA ?_ | refine xB ?_ | refine xC ?_ | refine xD ?_ | refine xH ?_ | refine xI rfl ?_ | refine xE ?_ | refine xF ?_ | refine xG ?_) | go_skip | go_guarded | ((with_reducible refine wl_id ?_); refine wl_ldNdA HRn (by (repeat (first | with_reducible exact Below.refl _ _ | assumption | with_reducible refine below_drewN ?_ _ | with_reducible refine Below.drew ?_ | with_reducible refine Below.setRow ?_ ?_ _ | with_reducible refine Below.alloc ?_ ?_ _ | with_reducible refine Below.setCell ?_ ?_ _ | with_reducible exact Nat.le_refl _ | (focus (simp; done)) | (focus (simp; omega)) | omega))) k _ hi rfl _ rfl rfl ?_; simp only [Act.put, qz4, qz5, qz6]; (try dsimp only)) | go_values | go_skip | go_guarded | go_step | go_upon | go_back | ((with_reducible show Oper.upon _ _ _ _ _ _); go_simp) | (dsimp only)))
      refine wp_abs (fun u => Below wr.heap.size wr u ∧ RowAt 6 Nd.cells u wr.heap.size 0 [d]) ⟨by (repeat (first | with_reducible exact Below.refl _ _ | assumption | with_reducible refine below_drewN ?_ _ | with_reducible refine Below.drew ?_ | with_reducible refine Below.setRow ?_ ?_ _ | with_reducible refine Below.alloc ?_ ?_ _ | with_reducible refine Below.setCell ?_ ?_ _ | with_reducible exact Nat.le_refl _ | (focus (simp; done)) | (focus (simp; omega)) | omega)), row6 (by simp [go_sem]) (by simp [go_sem]) (by simp [go_sem]) (by simp [go_sem]) (by simp [go_sem]) (by simp [go_sem])⟩ ?_
      rintro u1 ⟨hbn, hRN⟩
      have hXq : X q6 := hXB q6 hq5
      have hqb : q6 ≠ bb := by omega
      have hcq := HWY.out j hj25
      rw [HWJ.out] at hcq
      have hcq1 := cell_keep hbn (hK.cell hcq hq5)
      refine wp_region_held (S := fun u => RowAt 6 Nd.cells u wr.heap.size 0 [d] ∧ u.cell? ⟨q6, j, none⟩ = some (.func (Fn.func f) #[] #[])) (by kernel_rfl) ?_
      replace hRN : RowAt 6 Nd.cells ({ u1 with drawn := u1.drawn + 1 } : World) wr.heap.size 0 [d] := hRN
      replace hcq1 : ({ u1 with drawn := u1.drawn + 1 } : World).cell? ⟨q6, j, none⟩ = some (.func (Fn.func f) #[] #[]) := hcq1
      replace hbn : Below wr.heap.size wr ({ u1 with drawn := u1.drawn + 1 } : World) := hbn.trans ⟨rfl, rfl, rfl, Nat.le_refl _, fun _ _ => rfl⟩
      generalize ({ u1 with drawn := u1.drawn + 1 } : World) = u0 at *
      have HSC := And.intro hRN hcq1
      have hlt0 := row_lt hRN
      clear hRN hcq1 hcq
      have hji : (j : Int) < 25 := by omega
      have hj0 : (0 : Int) ≤ (j : Int) := by omega
      obtain ⟨hO, hzq⟩ := hB.owned hbn (q := wr.heap.size) (Nat.le_refl _) hlt0
      have HCALL := Lib.hid (HF3.out _ _ _ _ _ _ _ _ _ u0 (Nat.le_trans hbase hbn.size) hO)
      refine wpAnyH_take (i := 0) (v := .pointer (some ⟨wr.heap.size, 0, none⟩)) rfl (by kernel_rfl) (by kernel_rfl) (by kernel_rfl) (fun _ _ _ h => h) (Or.inl ⟨rfl, fun w _ => by go_simp⟩) HSC ?_; simp only [Act.put, qz1, qz2, qz3, qz4, qz5, qz6]
      refine wpAnyH_take (i := 1) (v := .int .i64 (j : Nat)) rfl (by kernel_rfl) (by kernel_rfl) (by kernel_rfl) (fun _ _ _ h => h) (Or.inl ⟨rfl, fun w hw => by have n0 := (nd_cells hw.1).1; rw [HJ.out] at n0; go_simp⟩) HSC ?_
      simp only [Act.put, qz1, qz2, qz3, qz4, qz5, qz6]
      refine wpAnyH_take (i := 2) (v := .pointer (some ⟨q6, j, none⟩)) rfl (by kernel_rfl) (by kernel_rfl) (by kernel_rfl) (fun _ _ _ h => h) (Or.inl ⟨rfl, fun w _ => by go_simp⟩) HSC ?_; simp only [Act.put, qz1, qz2, qz3, qz4, qz5, qz6]
      refine wpAnyH_take (i := 3) (v := .func (Fn.func f) #[] #[]) rfl (by kernel_rfl) (by kernel_rfl) (by kernel_rfl) (fun _ _ _ h => h) (Or.inl ⟨rfl, fun w hw => by have h := hw.2; go_simp⟩) HSC ?_
      simp only [Act.put, qz1, qz2, qz3, qz4, qz5, qz6]
      refine wpAnyH_take (i := 4) (v := .pointer (some ⟨bb, 0, none⟩)) rfl (by kernel_rfl) (by kernel_rfl) (by kernel_rfl) (fun _ _ _ h => h) (Or.inl ⟨rfl, fun w _ => by go_simp⟩) HSC ?_; simp only [Act.put, qz1, qz2, qz3, qz4, qz5, qz6]
      refine wpAnyH_take (i := 5) (v := .agg #[.int .i64 d.op, .int .i64 d.w, .int .u64 d.n, .int .i64 d.k0, .int .i64 d.k1, .int .i64 d.k2]) rfl (by kernel_rfl) (by kernel_rfl) (by kernel_rfl) (fun _ _ _ h => h) (Or.inl ⟨rfl, fun w hw => by obtain ⟨n0, n1, n2, n3, n4, n5⟩ := nd_cells hw.1; go_simp⟩) HSC ?_
      simp only [Act.put, qz1, qz2, qz3, qz4, qz5, qz6]
      refine wpAnyH_all (rs := [6]) (by kernel_rfl) (by simp) (fun i hi => ?_)
      obtain rfl : i = 6 := by simpa using hi
      refine wpOp_one rfl ?_
      have hent : ∀ (args : Array Value) (w : World), (callFunc f args).run Tryz.prog w = .ok (.enter f args) w := HENT.out
      (repeat (first | (with_reducible first | refine xA ?_ | refine xB ?_ | refine xC ?_ | refine xD ?_ | refine xH ?_ | refine xI rfl ?_ | refine xE ?_ | refine xF ?_ | refine xG ?_) | go_skip | go_guarded | ((with_reducible refine HCALL.out.mono ?_); rintro _ w2 ⟨v1, Y, iv2, rv2, rfl, hXY, hB2, hS2, hK2⟩; (obtain ⟨a1, c1, rfl⟩ := slx_shape hS2 HN.out)) | go_values | go_skip | go_guarded | go_step | go_upon | go_back | ((with_reducible show Oper.upon _ _ _ _ _ _); go_simp) | (dsimp only)))
      have hne2 : wr.heap.size ≠ bb := fun e => hzq.2.1 e
      have hS3 := And.intro (row_kept HSC.1 hK2 ⟨.inr rfl, hne2⟩) (hK2.cell HSC.2 ⟨.inl hXq, hqb⟩)
      refine ⟨hS3, ?_⟩
      refine wpAnyH_all (rs := [7]) (by kernel_rfl) (by simp) (fun i hi => ?_)
      obtain rfl : i = 7 := by simpa using hi
      refine wpOp_one rfl ?_
      (repeat (first | (with_reducible first | refine xA ?_ | refine xB ?_ | refine xC ?_ | refine xD ?_ | refine xH ?_ | refine xI rfl ?_ | refine xE ?_ | refine xF ?_ | refine xG ?_) | go_values | go_skip | go_guarded | go_step | go_upon | go_back | ((with_reducible show Oper.upon _ _ _ _ _ _); go_simp) | (dsimp only)))
      refine ⟨hS3, ?_⟩
      refine wpAnyH_done (by kernel_rfl) ?_ _
      have hsz2 : w5.heap.size ≤ w2.heap.size := Nat.le_trans hbase (Nat.le_trans hbn.size hK2.size)
      have hK3 : Kept (fun j => j < w5.heap.size) w5 w2 := (hK.trans (Kept.below hbn fun j hj hx => Nat.lt_of_lt_of_le hx hbase)).trans (hK2.mono fun j hj hx => ⟨.inl (hXB j hx), by show j ≠ bb; have : j < w5.heap.size := hx; omega⟩)
      have hXY2 : ∀ j, j < w5.heap.size → Y j := fun j hj => hXY j (.inl (hXB j hj))
      have hvk : vs.length = k := by rw [hB2.words.1, HRW.out]; exact bK_ws hT k hk
      have hvm : vs.length ≤ 1000000 := by omega
      have hcw := hB2.cw
      clear hS3 HSC hK2 hXY hO hzq hlt0 hB hbn hK hXB hbase hXq hji hj0 hent
      have HB2 := Lib.hid hB2
      have HS2 := Lib.hid hS2
      have HK3 := Lib.hid hK3
      have HXY2 := Lib.hid hXY2
      have HVK := Lib.hid hvk
      clear hB2 hS2 hK3 hXY2 hvk HCALL
      (repeat (first | (with_reducible first | refine xA ?_ | refine xB ?_ | refine xC ?_ | refine xD ?_ | refine xH ?_ | refine xI rfl ?_ | refine xE ?_ | refine xF ?_ | refine xG ?_) | go_skip | go_guarded | ((with_reducible refine wl_id ?_); refine wl_pushS rfl _ _ rfl w5.heap.size (.slice aw vs.length cw) vs.length vs rfl (HB2.out.row.alloc _) w2.heap.size a1 N c1 rfl (cell_new w2 _ _) hvm (Nat.le_trans hsz2 (by simp)) ?_; intro wv9 w9 hO9 hg9 hl9; (obtain ⟨aw9, cw9, rfl⟩ := ownsRow_shape hO9); have hbx9 := keep_at hg9 (HB2.out.below (Below.alloc (Below.refl _ _) (Nat.le_refl _) _)).box (fun e => (HB2.out.xw bb e.symm).2 rfl); have hc9 := (cell_of_row w9 bb 29 _ _ _ hbx9).trans (by rw [List.getElem?_toArray, bc_end HB2.out.il HB2.out.rl 2]); have hf9 := frozen_of_row w9 bb 29 _ _ hbx9; clear hbx9; have HO9 := Lib.hid hO9; have HG9 := Lib.hid hg9; have HL9 := Lib.hid hl9; clear hO9 hg9 hl9; (try simp only [Act.put, qz4, qz5, qz6])) | go_step3 | ((with_reducible show Exit.noGoto _ _ _ _); simp only [Exit.noGoto_normal, Exit.noGoto_exit, Exit.noGoto_ret]) | go_values | go_skip | go_guarded | go_step | go_upon | go_back | ((with_reducible show Oper.upon _ _ _ _ _ _); go_simp) | (dsimp only)))
      have hR9 := ofr_next HBK.out HB2.out HS2.out HO9.out HG9.out HL9.out HXY2.out hBb hsz2 HK3.out
      exact ⟨⟨k + 1, by omega, rfl, by go_num, Lib.hid hR9⟩, by simp [intOf]; omega⟩
    · obtain rfl : k = ls.length := by omega
      obtain ⟨L, hL⟩ : ∃ L, ls.length = L + 1 := ⟨ls.length - 1, by have := List.length_pos_iff.2 hne; omega⟩
      have hwl := bK_ws hT ls.length (Nat.le_refl _)
      obtain ⟨s, hs⟩ := blast_ok (I := fun _ => 0) (R := fun _ => 0) hT (fun _ => by decide) (fun _ => by decide) ls.length (Nat.le_refl _)
      have hWL := hs.ws L (by omega)
      have hwd := hT.wd L (by omega)
      have hGI := hs.gi
      obtain ⟨qw, nw, cw', xw, mw, cx, hwv, hLn, hcl, hSl, hml⟩ := hB.word L (by omega)
      injection hwv with e1 e2 e3
      subst e1; subst e2; subst e3
      have hcw := hB.cw
      have HLm := Lib.hid (show ls.length - 1 = L by omega)
      have hbl : ((bK ls ls.length).at L).length ≤ 64 ∧ 1 ≤ ((bK ls ls.length).at L).length := by rw [hWL.len]; omega
      have HLN := Lib.hid (bK_leaf hT)
      have hlt5 := lt_of_block HF.out
      have HNR := Lib.hid (show ∀ x ∈ (bK ls ls.length).at L, x ≠ 0 from fun x hx => (hWL.isl x hx).1)
      have HNC := Lib.hid (show ∀ c ∈ (bK ls ls.length).g.cl, ∀ x ∈ c, x ≠ 0 from fun c hc x hx => (hGI.rng c hc x hx).1)
      generalize hbK : bK ls ls.length = b at *
      have HBK := Lib.hid hbK
      clear hbK
      have HNE := Lib.hid (show ∀ l ∈ b.g.cl, l ≠ [] from hGI.ne)
      have HLL := Lib.hid (show ∀ l ∈ b.g.cl, l.length ≤ 1000000 from fun c hc => by have := hGI.len c hc; omega)
      have HSL := Lib.hid hSl
      have hLi : (ls.length : Int) - 1 = (L : Int) := by omega
      have hLv : (L : Int) < (vs.length : Int) := by omega
      have HML := Lib.hid hml
      have HBL := Lib.hid hbl
      have hB' := hB
      have HB := Lib.hid hB
      have HK := Lib.hid hK
      have HXB := Lib.hid hXB
      clear hs hWL hwd hGI hSl hml hbl hwl hk hge hn hwf hB hK hXB hL hB'
      (repeat (first | (with_reducible first | refine xA ?_ | refine xB ?_ | refine xC ?_ | refine xD ?_ | refine xH ?_ | refine xI rfl ?_ | refine xE ?_ | refine xF ?_ | refine xG ?_) | go_skip | go_guarded | (go_at_call 25; (with_reducible refine (cloneX (.slice xw mw cx) (b.at L) wr HSL.out (by have := HBL.out; omega) (fun e => absurd e (fun e => by have := HBL.out; rw [e] at this; simp at this))).mono ?_); rintro _ w2 ⟨ar, cr, rfl, -, hSr, hb2⟩; have hF2 := HB.out.form.below hb2; have hc2 : w2.cell? ⟨bb, 2, none⟩ = some (.slice none 0 0) := hF2.cell 2; have hf2 := frozen_of_row w2 bb 2 _ _ hF2.box) | go_step3 | ((with_reducible show Exit.noGoto _ _ _ _); simp only [Exit.noGoto_normal, Exit.noGoto_exit, Exit.noGoto_ret]) | go_values | go_skip | go_guarded | go_step | go_upon | go_back | ((with_reducible show Oper.upon _ _ _ _ _ _); go_simp) | (dsimp only)))
      refine wp_abs (fun u => u = w2.setCell ⟨bb, 2, none⟩ (.slice ar (b.at L).length cr)) rfl ?_
      intro w3 e3
      have hF3 : FRep w3 bb gb b (.slice none 0 0) (.int .i64 0) (.slice ar (b.at L).length cr) (.slice (some ⟨b0, off, none⟩) ls.length cap) (.slice (some ⟨qw, 0, none⟩) vs.length cw) iv rv := by rw [e3]; exact hF2.set 2 _ rfl
      have hG3 : GR X w5.heap.size w3 gb b.g := by rw [e3]; exact (HB.out.gr.below hb2).other set_grown HB.out.xb
      have hSr3 : SlX (fun k => k ≠ bb) w3 (.slice ar (b.at L).length cr) (b.at L) := by
        rw [e3]
        exact (hSr.mono fun k _ hk => by show k ≠ bb; have := HB.out.lt; have : wr.heap.size ≤ k := hk; omega).kept set_kept
      have hK3 : Kept (fun j => j < w5.heap.size) w5 w3 := by
        rw [e3]
        exact (HK.out.trans (Kept.ofBelow hb2)).trans (set_kept.mono fun j _ hj => by show j ≠ bb; have : j < w5.heap.size := hj; omega)
      have hXB := HB.out.xb
      clear e3 hF2 hc2 hf2 hb2 hSr HSL HB HK HXB HML HBL hbw hcw hcl hLn hLv hLi
      have hcg := hF3.cell 28
      rw [bc_end hF3.il hF3.rl 1] at hcg
      refine wp_region_held (S := fun u => u.cell? ⟨bb, 28, none⟩ = some (.pointer (some ⟨gb, 0, none⟩))) (by kernel_rfl) ?_
      have hbd : Below w3.heap.size w3 ({ w3 with drawn := w3.drawn + 1 } : World) := ⟨rfl, rfl, rfl, Nat.le_refl _, fun _ _ => rfl⟩
      have HF3 := Lib.hid (hF3.below hbd)
      have hG4 := hG3.below hbd
      have HS3 := Lib.hid (hSr3.kept (Kept.ofBelow hbd))
      have HK3 := Lib.hid (hK3.trans (Kept.ofBelow hbd))
      have HSC : ({ w3 with drawn := w3.drawn + 1 } : World).cell? ⟨bb, 28, none⟩ = some (.pointer (some ⟨gb, 0, none⟩)) := hcg
      clear hcg hF3 hG3 hSr3 hK3 hbd
      generalize ({ w3 with drawn := w3.drawn + 1 } : World) = u0 at *
      refine wpAnyH_take (i := 0) (v := .pointer (some ⟨bb, 0, none⟩)) rfl (by kernel_rfl) (by kernel_rfl) (by kernel_rfl) (fun _ _ _ h => h) (Or.inl ⟨rfl, fun w _ => by go_simp⟩) HSC ?_; simp only [Act.put, qz1, qz2, qz3, qz4, qz5, qz6]
      refine wpAnyH_take (i := 1) (v := .pointer (some ⟨bb, 0, none⟩)) rfl (by kernel_rfl) (by kernel_rfl) (by kernel_rfl) (fun _ _ _ h => h) (Or.inl ⟨rfl, fun w _ => by go_simp⟩) HSC ?_; simp only [Act.put, qz1, qz2, qz3, qz4, qz5, qz6]
      refine wpAnyH_take (i := 2) (v := .pointer (some ⟨bb, 0, none⟩)) rfl (by kernel_rfl) (by kernel_rfl) (by kernel_rfl) (fun _ _ _ h => h) (Or.inl ⟨rfl, fun w _ => by go_simp⟩) HSC ?_; simp only [Act.put, qz1, qz2, qz3, qz4, qz5, qz6]
      refine wpAnyH_take (i := 3) (v := .pointer (some ⟨bb, 0, none⟩)) rfl (by kernel_rfl) (by kernel_rfl) (by kernel_rfl) (fun _ _ _ h => h) (Or.inl ⟨rfl, fun w _ => by go_simp⟩) HSC ?_; simp only [Act.put, qz1, qz2, qz3, qz4, qz5, qz6]
      refine wpAnyH_take (i := 4) (v := .pointer (some ⟨bb, 28, none⟩)) rfl (by kernel_rfl) (by kernel_rfl) (by kernel_rfl) (fun _ _ _ h => h) (Or.inl ⟨rfl, fun w _ => by go_simp⟩) HSC ?_; simp only [Act.put, qz1, qz2, qz3, qz4, qz5, qz6]
      refine wpAnyH_take (i := 5) (v := .pointer (some ⟨gb, 0, none⟩)) rfl (by kernel_rfl) (by kernel_rfl) (by kernel_rfl) (fun _ _ _ h => h) (Or.inl ⟨rfl, fun w hw => by have h := hw; go_simp⟩) HSC ?_
      simp only [Act.put, qz1, qz2, qz3, qz4, qz5, qz6]
      refine wpAnyH_take (i := 7) (v := .pointer (some ⟨bb, 0, none⟩)) rfl (by kernel_rfl) (by kernel_rfl) (by kernel_rfl) (fun _ _ _ h => h) (Or.inl ⟨rfl, fun w _ => by go_simp⟩) HSC ?_; simp only [Act.put, qz1, qz2, qz3, qz4, qz5, qz6]
      refine wpAnyH_take (i := 8) (v := .pointer (some ⟨bb, 0, none⟩)) rfl (by kernel_rfl) (by kernel_rfl) (by kernel_rfl) (fun _ _ _ h => h) (Or.inl ⟨rfl, fun w _ => by go_simp⟩) HSC ?_; simp only [Act.put, qz1, qz2, qz3, qz4, qz5, qz6]
      refine wpAnyH_take (i := 9) (v := .pointer (some ⟨bb, 28, none⟩)) rfl (by kernel_rfl) (by kernel_rfl) (by kernel_rfl) (fun _ _ _ h => h) (Or.inl ⟨rfl, fun w _ => by go_simp⟩) HSC ?_; simp only [Act.put, qz1, qz2, qz3, qz4, qz5, qz6]
      refine wpAnyH_take (i := 10) (v := .pointer (some ⟨gb, 0, none⟩)) rfl (by kernel_rfl) (by kernel_rfl) (by kernel_rfl) (fun _ _ _ h => h) (Or.inl ⟨rfl, fun w hw => by have h := hw; go_simp⟩) HSC ?_
      simp only [Act.put, qz1, qz2, qz3, qz4, qz5, qz6]
      refine wpAnyH_all (rs := [6]) (by kernel_rfl) (by simp) (fun i hi => ?_)
      obtain rfl : i = 6 := by simpa using hi
      refine wpOp_one rfl ?_
      (repeat (first | (with_reducible first | refine xA ?_ | refine xB ?_ | refine xC ?_ | refine xD ?_ | refine xH ?_ | refine xI rfl ?_ | refine xE ?_ | refine xF ?_ | refine xG ?_) | go_skip | go_guarded | (go_at_call 26; (with_reducible refine (Clauses_any u0 hG4 HNE.out HLL.out).mono ?_); rintro _ u4 ⟨rfl, ⟨cs, hO4, hC4⟩, hG5, hb4'⟩) | go_values | go_skip | go_guarded | go_step | go_upon | go_back | ((with_reducible show Oper.upon _ _ _ _ _ _); go_simp) | (dsimp only)))
      have hSC4 := cell_keep hb4' HSC
      have hubb := HF3.out.lt
      have HCM := Lib.hid (show b.g.cl.length ≤ 4194304 by obtain ⟨_, _, _, _, _, hm, _⟩ := hG4.clauses; exact hm)
      have HO4 := Lib.hid hO4
      have HC4 := Lib.hid hC4
      have HF4 := Lib.hid (HF3.out.below hb4')
      have HS4 := Lib.hid (HS3.out.kept (Kept.ofBelow hb4'))
      have HK4 := Lib.hid (HK3.out.trans (Kept.ofBelow hb4'))
      clear hO4 hC4 HSC HF3 HS3 HK3 hb4' hG4
      refine ⟨hSC4, ?_⟩
      refine wpAnyH_all (rs := [11]) (by kernel_rfl) (by simp) (fun i hi => ?_)
      obtain rfl : i = 11 := by simpa using hi
      refine wpOp_one rfl ?_
      (repeat (first | (with_reducible first | refine xA ?_ | refine xB ?_ | refine xC ?_ | refine xD ?_ | refine xH ?_ | refine xI rfl ?_ | refine xE ?_ | refine xF ?_ | refine xG ?_) | go_skip | go_guarded | (go_at_call 27; (with_reducible refine (Vars_any _ hG5).mono ?_); rintro _ u5 ⟨rfl, rfl⟩) | go_values | go_skip | go_guarded | go_step | go_upon | go_back | ((with_reducible show Oper.upon _ _ _ _ _ _); go_simp) | (dsimp only)))
      refine ⟨hSC4, ?_⟩
      refine wpAnyH_take (i := 12) (v := .pointer (some ⟨bb, 0, none⟩)) rfl (by kernel_rfl) (by kernel_rfl) (by kernel_rfl) (fun _ _ _ h => h) (Or.inl ⟨rfl, fun w _ => by go_simp⟩) hSC4 ?_
      simp only [Act.put, qz1, qz2, qz3, qz4, qz5, qz6]
      refine wpAnyH_take (i := 13) (v := .pointer (some ⟨bb, 0, none⟩)) rfl (by kernel_rfl) (by kernel_rfl) (by kernel_rfl) (fun _ _ _ h => h) (Or.inl ⟨rfl, fun w _ => by go_simp⟩) hSC4 ?_
      simp only [Act.put, qz1, qz2, qz3, qz4, qz5, qz6]
      refine wpAnyH_take (i := 14) (v := .pointer (some ⟨bb, 0, none⟩)) rfl (by kernel_rfl) (by kernel_rfl) (by kernel_rfl) (fun _ _ _ h => h) (Or.inl ⟨rfl, fun w _ => by go_simp⟩) hSC4 ?_
      simp only [Act.put, qz1, qz2, qz3, qz4, qz5, qz6]
      have hc0 : u5.cell? ⟨bb, 0, none⟩ = some (.slice none 0 0) := HF4.out.cell 0
      have hf0 := frozen_of_row u5 bb 0 _ _ HF4.out.box
      refine wpAnyH_all (rs := [15]) (by kernel_rfl) (by simp) (fun i hi => ?_)
      obtain rfl : i = 15 := by simpa using hi
      refine wpOp_one rfl ?_
      (repeat (first | (with_reducible first | refine xA ?_ | refine xB ?_ | refine xC ?_ | refine xD ?_ | refine xH ?_ | refine xI rfl ?_ | refine xE ?_ | refine xF ?_ | refine xG ?_) | go_values | go_skip | go_guarded | go_step | go_upon | go_back | ((with_reducible show Oper.upon _ _ _ _ _ _); go_simp) | (dsimp only)))
      have hSC5 : (u5.setCell ⟨bb, 0, none⟩ (.slice (some ⟨u0.heap.size, 0, none⟩) b.g.cl.length b.g.cl.length)).cell? ⟨bb, 28, none⟩ = some (.pointer (some ⟨gb, 0, none⟩)) := by
        rw [(HF4.out.set 0 (.slice (some ⟨u0.heap.size, 0, none⟩) b.g.cl.length b.g.cl.length) rfl).cell 28, bc_end HF4.out.il HF4.out.rl 1]
        rfl
      refine ⟨hSC5, ?_⟩
      refine wpAnyH_take (i := 16) (v := .pointer (some ⟨bb, 0, none⟩)) rfl (by kernel_rfl) (by kernel_rfl) (by kernel_rfl) (fun _ _ _ h => h) (Or.inl ⟨rfl, fun w _ => by go_simp⟩) hSC5 ?_
      simp only [Act.put, qz1, qz2, qz3, qz4, qz5, qz6]
      refine wpAnyH_take (i := 17) (v := .pointer (some ⟨bb, 0, none⟩)) rfl (by kernel_rfl) (by kernel_rfl) (by kernel_rfl) (fun _ _ _ h => h) (Or.inl ⟨rfl, fun w _ => by go_simp⟩) hSC5 ?_
      simp only [Act.put, qz1, qz2, qz3, qz4, qz5, qz6]
      refine wpAnyH_take (i := 18) (v := .pointer (some ⟨bb, 1, none⟩)) rfl (by kernel_rfl) (by kernel_rfl) (by kernel_rfl) (fun _ _ _ h => h) (Or.inl ⟨rfl, fun w _ => by go_simp⟩) hSC5 ?_
      simp only [Act.put, qz1, qz2, qz3, qz4, qz5, qz6]
      have HF6 := Lib.hid (HF4.out.set 0 (.slice (some ⟨u0.heap.size, 0, none⟩) b.g.cl.length b.g.cl.length) rfl)
      have hc1 : (u5.setCell ⟨bb, 0, none⟩ (.slice (some ⟨u0.heap.size, 0, none⟩) b.g.cl.length b.g.cl.length)).cell? ⟨bb, 1, none⟩ = some (.int .i64 0) := HF6.out.cell 1
      have hf1 := frozen_of_row (u5.setCell ⟨bb, 0, none⟩ (.slice (some ⟨u0.heap.size, 0, none⟩) b.g.cl.length b.g.cl.length)) bb 1 _ _ HF6.out.box
      refine wpAnyH_all (rs := [19]) (by kernel_rfl) (by simp) (fun i hi => ?_)
      obtain rfl : i = 19 := by simpa using hi
      refine wpOp_one rfl ?_
      (repeat (first | (with_reducible first | refine xA ?_ | refine xB ?_ | refine xC ?_ | refine xD ?_ | refine xH ?_ | refine xI rfl ?_ | refine xE ?_ | refine xF ?_ | refine xG ?_) | go_values | go_skip | go_guarded | go_step | go_upon | go_back | ((with_reducible show Oper.upon _ _ _ _ _ _); go_simp) | (dsimp only)))
      have hF7 := HF6.out.set 1 (.int .i64 b.g.n) rfl
      have hK7 : Kept (fun k => k ≠ bb) u5 ((u5.setCell ⟨bb, 0, none⟩ (.slice (some ⟨u0.heap.size, 0, none⟩) b.g.cl.length b.g.cl.length)).setCell ⟨bb, 1, none⟩ (.int .i64 b.g.n)) := set_kept.trans set_kept
      refine ⟨(hF7.cell 28).trans (by rw [bc_end HF4.out.il HF4.out.rl 1]; rfl), ?_⟩
      refine wpAnyH_done (by kernel_rfl) ?_ _
      have hFR : FR2 w5 ((u5.setCell ⟨bb, 0, none⟩ (.slice (some ⟨u0.heap.size, 0, none⟩) b.g.cl.length b.g.cl.length)).setCell ⟨bb, 1, none⟩ (.int .i64 b.g.n)) bb gb b u0.heap.size cs (.slice ar (b.at L).length cr) (.slice (some ⟨b0, off, none⟩) ls.length cap) (.slice (some ⟨qw, 0, none⟩) vs.length cw) (b.at L) iv rv :=
        ⟨hF7, HO4.out.kept hK7 (by omega), by omega, (HC4.out.mono fun k _ hk => by show k ≠ bb; have : u0.heap.size < k := hk; omega).kept hK7, HS4.out.kept hK7, HK4.out.trans (hK7.mono fun j _ hj => by show j ≠ bb; have : j < w5.heap.size := hj; omega), hBb⟩
      have HFR := Lib.hid hFR
      clear hFR hK7 hF7 HF6 hc1 hf1 hSC5 hc0 hf0 HF4 HS4 HK4 HC4 HO4 hSC4 hG5 hXB
      generalize ((u5.setCell ⟨bb, 0, none⟩ (.slice (some ⟨u0.heap.size, 0, none⟩) b.g.cl.length b.g.cl.length)).setCell ⟨bb, 1, none⟩ (.int .i64 b.g.n)) = w7 at *
      generalize u0.heap.size = qc at *
      obtain ⟨root, hroot⟩ : ∃ root, b.at (L : Int) = root := ⟨_, rfl⟩
      have HRT := Lib.hid (show b.at ((ls.length - 1 : Nat) : Int) = root by rw [HLm.out]; exact hroot)
      have hfr := HFR.out
      rw [hroot] at hfr
      replace HFR := Lib.hid hfr
      have hnr := HNR.out
      rw [hroot] at hnr
      replace HNR := Lib.hid hnr
      clear hnr
      clear hfr hroot
      (repeat (first | (with_reducible first | refine xA ?_ | refine xB ?_ | refine xC ?_ | refine xD ?_ | refine xH ?_ | refine xI rfl ?_ | refine xE ?_ | refine xF ?_ | refine xG ?_) | go_skip | go_guarded | go_step3 | ((with_reducible show Exit.noGoto _ _ _ _); simp only [Exit.noGoto_normal, Exit.noGoto_exit, Exit.noGoto_ret]) | go_values | go_skip | go_guarded | go_step | go_upon | go_back | ((with_reducible show Oper.upon _ _ _ _ _ _); go_simp) | (dsimp only)))
      go_loopw [95] (fun i wr => ∃ (k : Nat) (iv2 : List Value), k ≤ 16 ∧ i = .int .i64 k ∧ Hid (FR2 w5 wr bb gb b qc cs (.slice ar root.length cr) (.slice (some ⟨b0, off, none⟩) ls.length cap) (.slice (some ⟨qw, 0, none⟩) vs.length cw) root iv2 rv)) (fun i _ => 16 - (intOf i).toNat)
      case atStart => exact ⟨0, _, Nat.zero_le _, rfl, HFR⟩
      case round =>
        clear HFR
        obtain ⟨k, iv2, hk, rfl, HFR⟩ := hrel
        rcases Nat.lt_or_ge k 16 with hlt | hge
        · have hil := HFR.out.f.il
          have hbl := HFR.out.f.inp.1
          obtain ⟨v, hv⟩ : ∃ v, iv2[k]? = some v := ⟨_, List.getElem?_eq_getElem (by omega)⟩
          obtain ⟨l, hl⟩ : ∃ l, b.inp[k]? = some l := ⟨_, List.getElem?_eq_getElem (by omega)⟩
          have hS := HFR.out.f.inp.2 k v l hv hl
          have hnil := HFR.out.f.ni k v hv
          obtain ⟨ao, c, rfl⟩ := hS.shape
          have hll : l.length ≤ 1000000 := (HLN.out l (.inl (List.mem_of_getElem? hl))).1
          have HCL := Lib.hid (fun u (hb : Below wr.heap.size wr u) => cloneX (.slice ao l.length c) l u (hS.kept (Kept.ofBelow hb)) hll (fun e => hnil (by rw [hl, e])))
          have HL := Lib.hid hl
          have HV := Lib.hid hv
          have hki : (k : Int) < 16 := by omega
          have hk0 : (0 : Int) ≤ (k : Int) := by omega
          have hlt2 := HFR.out.f.lt
          clear hS hnil hl hv hll
          (repeat (first | (with_reducible first | refine xA ?_ | refine xB ?_ | refine xC ?_ | refine xD ?_ | refine xH ?_ | refine xI rfl ?_ | refine xE ?_ | refine xF ?_ | refine xG ?_) | go_values | go_skip | go_guarded | go_step | go_upon | go_back | ((with_reducible show Oper.upon _ _ _ _ _ _); go_simp) | (dsimp only)))
          refine wp_region_held (S := fun _ => True) (by kernel_rfl) ?_
          have hbd : Below wr.heap.size wr ({ wr with drawn := wr.drawn + 1 } : World) := ⟨rfl, rfl, rfl, Nat.le_refl _, fun _ _ => rfl⟩
          have hcell : ({ wr with drawn := wr.drawn + 1 } : World).cell? ⟨bb, 3 + k, none⟩ = some (.slice ao l.length c) := HFR.out.f.ci HV.out
          generalize ({ wr with drawn := wr.drawn + 1 } : World) = u0 at *
          have HSC : (fun _ : World => True) u0 := trivial
          refine wpAnyH_take (i := 0) (v := .pointer (some ⟨bb, 0, none⟩)) rfl (by kernel_rfl) (by kernel_rfl) (by kernel_rfl) (fun _ _ _ h => h) (Or.inl ⟨rfl, fun w _ => by go_simp⟩) HSC ?_
          simp only [Act.put, qz1, qz2, qz3, qz4, qz5, qz6]
          refine wpAnyH_take (i := 1) (v := .int .i64 (k : Nat)) rfl (by kernel_rfl) (by kernel_rfl) (by kernel_rfl) (fun _ _ _ h => h) (Or.inl ⟨rfl, fun w _ => by go_simp⟩) HSC ?_
          simp only [Act.put, qz1, qz2, qz3, qz4, qz5, qz6]
          refine wpAnyH_take (i := 2) (v := .pointer (some ⟨bb, 0, none⟩)) rfl (by kernel_rfl) (by kernel_rfl) (by kernel_rfl) (fun _ _ _ h => h) (Or.inl ⟨rfl, fun w _ => by go_simp⟩) HSC ?_
          simp only [Act.put, qz1, qz2, qz3, qz4, qz5, qz6]
          refine wpAnyH_take (i := 3) (v := .int .i64 (k : Nat)) rfl (by kernel_rfl) (by kernel_rfl) (by kernel_rfl) (fun _ _ _ h => h) (Or.inl ⟨rfl, fun w _ => by go_simp⟩) HSC ?_
          simp only [Act.put, qz1, qz2, qz3, qz4, qz5, qz6]
          refine wpAnyH_take (i := 4) (v := .pointer (some ⟨bb, 0, none⟩)) rfl (by kernel_rfl) (by kernel_rfl) (by kernel_rfl) (fun _ _ _ h => h) (Or.inl ⟨rfl, fun w _ => by go_simp⟩) HSC ?_
          simp only [Act.put, qz1, qz2, qz3, qz4, qz5, qz6]
          refine wpAnyH_take (i := 5) (v := .pointer (some ⟨bb, 0, none⟩)) rfl (by kernel_rfl) (by kernel_rfl) (by kernel_rfl) (fun _ _ _ h => h) (Or.inl ⟨rfl, fun w _ => by go_simp⟩) HSC ?_
          simp only [Act.put, qz1, qz2, qz3, qz4, qz5, qz6]
          refine wpAnyH_take (i := 6) (v := .pointer (some ⟨bb, 3, none⟩)) rfl (by kernel_rfl) (by kernel_rfl) (by kernel_rfl) (fun _ _ _ h => h) (Or.inl ⟨rfl, fun w _ => by go_simp⟩) HSC ?_
          simp only [Act.put, qz1, qz2, qz3, qz4, qz5, qz6]
          refine wpAnyH_take (i := 7) (v := .pointer (some ⟨bb, 3 + k, none⟩)) rfl (by kernel_rfl) (by kernel_rfl) (by kernel_rfl) (fun _ _ _ h => h) (Or.inl ⟨rfl, fun w _ => by go_simp⟩) HSC ?_
          simp only [Act.put, qz1, qz2, qz3, qz4, qz5, qz6]
          refine wpAnyH_take (i := 10) (v := .pointer (some ⟨bb, 0, none⟩)) rfl (by kernel_rfl) (by kernel_rfl) (by kernel_rfl) (fun _ _ _ h => h) (Or.inl ⟨rfl, fun w _ => by go_simp⟩) HSC ?_
          simp only [Act.put, qz1, qz2, qz3, qz4, qz5, qz6]
          refine wpAnyH_take (i := 11) (v := .pointer (some ⟨bb, 0, none⟩)) rfl (by kernel_rfl) (by kernel_rfl) (by kernel_rfl) (fun _ _ _ h => h) (Or.inl ⟨rfl, fun w _ => by go_simp⟩) HSC ?_
          simp only [Act.put, qz1, qz2, qz3, qz4, qz5, qz6]
          refine wpAnyH_take (i := 12) (v := .pointer (some ⟨bb, 3, none⟩)) rfl (by kernel_rfl) (by kernel_rfl) (by kernel_rfl) (fun _ _ _ h => h) (Or.inl ⟨rfl, fun w _ => by go_simp⟩) HSC ?_
          simp only [Act.put, qz1, qz2, qz3, qz4, qz5, qz6]
          refine wpAnyH_all (rs := [8]) (by kernel_rfl) (by simp) (fun i hi => ?_)
          obtain rfl : i = 8 := by simpa using hi
          refine wpOp_one rfl ?_
          (repeat (first | (with_reducible first | refine xA ?_ | refine xB ?_ | refine xC ?_ | refine xD ?_ | refine xH ?_ | refine xI rfl ?_ | refine xE ?_ | refine xF ?_ | refine xG ?_) | go_values | go_skip | go_guarded | go_step | go_upon | go_back | ((with_reducible show Oper.upon _ _ _ _ _ _); go_simp) | (dsimp only)))
          refine ⟨trivial, ?_⟩
          refine wpAnyH_all (rs := [9]) (by kernel_rfl) (by simp) (fun i hi => ?_)
          obtain rfl : i = 9 := by simpa using hi
          refine wpOp_one rfl ?_
          (repeat (first | (with_reducible first | refine xA ?_ | refine xB ?_ | refine xC ?_ | refine xD ?_ | refine xH ?_ | refine xI rfl ?_ | refine xE ?_ | refine xF ?_ | refine xG ?_) | go_skip | go_guarded | (go_at_call 25; (with_reducible refine (HCL.out _ hbd).mono ?_); rintro _ u2 ⟨a2, c2, rfl, hn2, hS2, hb2⟩) | go_values | go_skip | go_guarded | go_step | go_upon | go_back | ((with_reducible show Oper.upon _ _ _ _ _ _); go_simp) | (dsimp only)))
          have hSC2 := cell_keep hb2 hcell
          have HS9 : (fun _ : World => True) u2 := trivial
          have HF2 := Lib.hid (HFR.out.below (hbd.trans (hb2.mono hbd.size)))
          have HS2 := Lib.hid (hS2.mono (Y := fun k => k ≠ bb) fun j _ hj => by show j ≠ bb; have := hbd.size; have : u0.heap.size ≤ j := hj; omega)
          have HN2 := Lib.hid hn2
          have hf2 := frozen_of_row u2 bb (3 + k) _ _ HF2.out.f.box
          clear HFR HCL hS2 hn2 hb2 hbd HSC hcell
          refine ⟨trivial, ?_⟩
          refine wpAnyH_take (i := 13) (v := .pointer (some ⟨bb, 3 + k, none⟩)) rfl (by kernel_rfl) (by kernel_rfl) (by kernel_rfl) (fun _ _ _ h => h) (Or.inl ⟨rfl, fun w _ => by go_simp⟩) HS9 ?_
          simp only [Act.put, qz1, qz2, qz3, qz4, qz5, qz6]
          refine wpAnyH_all (rs := [14]) (by kernel_rfl) (by simp) (fun i hi => ?_)
          obtain rfl : i = 14 := by simpa using hi
          refine wpOp_one rfl ?_
          (repeat (first | (with_reducible first | refine xA ?_ | refine xB ?_ | refine xC ?_ | refine xD ?_ | refine xH ?_ | refine xI rfl ?_ | refine xE ?_ | refine xF ?_ | refine xG ?_) | go_values | go_skip | go_guarded | go_step | go_upon | go_back | ((with_reducible show Oper.upon _ _ _ _ _ _); go_simp) | (dsimp only)))
          have hF9 := HF2.out.setI hlt HL.out HS2.out HN2.out
          refine ⟨trivial, ?_⟩
          refine wpAnyH_done (by kernel_rfl) ?_ _
          have HF9 := Lib.hid hF9
          clear hF9
          (repeat (first | (with_reducible first | refine xA ?_ | refine xB ?_ | refine xC ?_ | refine xD ?_ | refine xH ?_ | refine xI rfl ?_ | refine xE ?_ | refine xF ?_ | refine xG ?_) | go_values | go_skip | go_guarded | go_step | go_upon | go_back | ((with_reducible show Oper.upon _ _ _ _ _ _); go_simp) | (dsimp only)))
          exact ⟨⟨k + 1, _, by omega, by go_num, HF9⟩, by simp [intOf]; omega⟩
        · have hkn16 : ¬ ((k : Int) < 16) := by omega
          obtain ⟨k16, rfl⟩ : ∃ k16, k16 = k := ⟨_, rfl⟩
          clear hk hge
          (repeat (first | (with_reducible first | refine xA ?_ | refine xB ?_ | refine xC ?_ | refine xD ?_ | refine xH ?_ | refine xI rfl ?_ | refine xE ?_ | refine xF ?_ | refine xG ?_) | go_skip | go_guarded | go_step3 | ((with_reducible show Exit.noGoto _ _ _ _); simp only [Exit.noGoto_normal, Exit.noGoto_exit, Exit.noGoto_ret]) | go_values | go_skip | go_guarded | go_step | go_upon | go_back | ((with_reducible show Oper.upon _ _ _ _ _ _); go_simp) | (dsimp only)))
          go_loopw [113] (fun i wr => ∃ (k : Nat) (rv2 : List Value), k ≤ 8 ∧ i = .int .i64 k ∧ Hid (FR2 w5 wr bb gb b qc cs (.slice ar root.length cr) (.slice (some ⟨b0, off, none⟩) ls.length cap) (.slice (some ⟨qw, 0, none⟩) vs.length cw) root iv2 rv2)) (fun i _ => 8 - (intOf i).toNat)
          case atStart => exact ⟨0, _, Nat.zero_le _, rfl, HFR⟩
          case round =>
            clear HFR
            obtain ⟨k, rv2, hk, rfl, HFR⟩ := hrel
            rcases Nat.lt_or_ge k 8 with hlt | hge
            · have hil := HFR.out.f.rl
              have hbl := HFR.out.f.reg.1
              obtain ⟨v, hv⟩ : ∃ v, rv2[k]? = some v := ⟨_, List.getElem?_eq_getElem (by omega)⟩
              obtain ⟨l, hl⟩ : ∃ l, b.reg[k]? = some l := ⟨_, List.getElem?_eq_getElem (by omega)⟩
              have hS := HFR.out.f.reg.2 k v l hv hl
              have hnil := HFR.out.f.nr k v hv
              obtain ⟨ao, c, rfl⟩ := hS.shape
              have hll : l.length ≤ 1000000 := (HLN.out l (.inr (List.mem_of_getElem? hl))).1
              have HCL := Lib.hid (fun u (hb : Below wr.heap.size wr u) => cloneX (.slice ao l.length c) l u (hS.kept (Kept.ofBelow hb)) hll (fun e => hnil (by rw [hl, e])))
              have HL := Lib.hid hl
              have HV := Lib.hid hv
              have hki : (k : Int) < 8 := by omega
              have hk0 : (0 : Int) ≤ (k : Int) := by omega
              have hlt2 := HFR.out.f.lt
              clear hS hnil hl hv hll
              (repeat (first | (with_reducible first | refine xA ?_ | refine xB ?_ | refine xC ?_ | refine xD ?_ | refine xH ?_ | refine xI rfl ?_ | refine xE ?_ | refine xF ?_ | refine xG ?_) | go_values | go_skip | go_guarded | go_step | go_upon | go_back | ((with_reducible show Oper.upon _ _ _ _ _ _); go_simp) | (dsimp only)))
              refine wp_region_held (S := fun _ => True) (by kernel_rfl) ?_
              have hbd : Below wr.heap.size wr ({ wr with drawn := wr.drawn + 1 } : World) := ⟨rfl, rfl, rfl, Nat.le_refl _, fun _ _ => rfl⟩
              have hcell : ({ wr with drawn := wr.drawn + 1 } : World).cell? ⟨bb, 19 + k, none⟩ = some (.slice ao l.length c) := HFR.out.f.cr HV.out
              generalize ({ wr with drawn := wr.drawn + 1 } : World) = u0 at *
              have HSC : (fun _ : World => True) u0 := trivial
              refine wpAnyH_take (i := 0) (v := .pointer (some ⟨bb, 0, none⟩)) rfl (by kernel_rfl) (by kernel_rfl) (by kernel_rfl) (fun _ _ _ h => h) (Or.inl ⟨rfl, fun w _ => by go_simp⟩) HSC ?_
              simp only [Act.put, qz1, qz2, qz3, qz4, qz5, qz6]
              refine wpAnyH_take (i := 1) (v := .int .i64 (k : Nat)) rfl (by kernel_rfl) (by kernel_rfl) (by kernel_rfl) (fun _ _ _ h => h) (Or.inl ⟨rfl, fun w _ => by go_simp⟩) HSC ?_
              simp only [Act.put, qz1, qz2, qz3, qz4, qz5, qz6]
              refine wpAnyH_take (i := 2) (v := .pointer (some ⟨bb, 0, none⟩)) rfl (by kernel_rfl) (by kernel_rfl) (by kernel_rfl) (fun _ _ _ h => h) (Or.inl ⟨rfl, fun w _ => by go_simp⟩) HSC ?_
              simp only [Act.put, qz1, qz2, qz3, qz4, qz5, qz6]
              refine wpAnyH_take (i := 3) (v := .int .i64 (k : Nat)) rfl (by kernel_rfl) (by kernel_rfl) (by kernel_rfl) (fun _ _ _ h => h) (Or.inl ⟨rfl, fun w _ => by go_simp⟩) HSC ?_
              simp only [Act.put, qz1, qz2, qz3, qz4, qz5, qz6]
              refine wpAnyH_take (i := 4) (v := .pointer (some ⟨bb, 0, none⟩)) rfl (by kernel_rfl) (by kernel_rfl) (by kernel_rfl) (fun _ _ _ h => h) (Or.inl ⟨rfl, fun w _ => by go_simp⟩) HSC ?_
              simp only [Act.put, qz1, qz2, qz3, qz4, qz5, qz6]
              refine wpAnyH_take (i := 5) (v := .pointer (some ⟨bb, 0, none⟩)) rfl (by kernel_rfl) (by kernel_rfl) (by kernel_rfl) (fun _ _ _ h => h) (Or.inl ⟨rfl, fun w _ => by go_simp⟩) HSC ?_
              simp only [Act.put, qz1, qz2, qz3, qz4, qz5, qz6]
              refine wpAnyH_take (i := 6) (v := .pointer (some ⟨bb, 19, none⟩)) rfl (by kernel_rfl) (by kernel_rfl) (by kernel_rfl) (fun _ _ _ h => h) (Or.inl ⟨rfl, fun w _ => by go_simp⟩) HSC ?_
              simp only [Act.put, qz1, qz2, qz3, qz4, qz5, qz6]
              refine wpAnyH_take (i := 7) (v := .pointer (some ⟨bb, 19 + k, none⟩)) rfl (by kernel_rfl) (by kernel_rfl) (by kernel_rfl) (fun _ _ _ h => h) (Or.inl ⟨rfl, fun w _ => by go_simp⟩) HSC ?_
              simp only [Act.put, qz1, qz2, qz3, qz4, qz5, qz6]
              refine wpAnyH_take (i := 10) (v := .pointer (some ⟨bb, 0, none⟩)) rfl (by kernel_rfl) (by kernel_rfl) (by kernel_rfl) (fun _ _ _ h => h) (Or.inl ⟨rfl, fun w _ => by go_simp⟩) HSC ?_
              simp only [Act.put, qz1, qz2, qz3, qz4, qz5, qz6]
              refine wpAnyH_take (i := 11) (v := .pointer (some ⟨bb, 0, none⟩)) rfl (by kernel_rfl) (by kernel_rfl) (by kernel_rfl) (fun _ _ _ h => h) (Or.inl ⟨rfl, fun w _ => by go_simp⟩) HSC ?_
              simp only [Act.put, qz1, qz2, qz3, qz4, qz5, qz6]
              refine wpAnyH_take (i := 12) (v := .pointer (some ⟨bb, 19, none⟩)) rfl (by kernel_rfl) (by kernel_rfl) (by kernel_rfl) (fun _ _ _ h => h) (Or.inl ⟨rfl, fun w _ => by go_simp⟩) HSC ?_
              simp only [Act.put, qz1, qz2, qz3, qz4, qz5, qz6]
              refine wpAnyH_all (rs := [8]) (by kernel_rfl) (by simp) (fun i hi => ?_)
              obtain rfl : i = 8 := by simpa using hi
              refine wpOp_one rfl ?_
              (repeat (first | (with_reducible first | refine xA ?_ | refine xB ?_ | refine xC ?_ | refine xD ?_ | refine xH ?_ | refine xI rfl ?_ | refine xE ?_ | refine xF ?_ | refine xG ?_) | go_values | go_skip | go_guarded | go_step | go_upon | go_back | ((with_reducible show Oper.upon _ _ _ _ _ _); go_simp) | (dsimp only)))
              refine ⟨trivial, ?_⟩
              refine wpAnyH_all (rs := [9]) (by kernel_rfl) (by simp) (fun i hi => ?_)
              obtain rfl : i = 9 := by simpa using hi
              refine wpOp_one rfl ?_
              (repeat (first | (with_reducible first | refine xA ?_ | refine xB ?_ | refine xC ?_ | refine xD ?_ | refine xH ?_ | refine xI rfl ?_ | refine xE ?_ | refine xF ?_ | refine xG ?_) | go_skip | go_guarded | (go_at_call 25; (with_reducible refine (HCL.out _ hbd).mono ?_); rintro _ u2 ⟨a2, c2, rfl, hn2, hS2, hb2⟩) | go_values | go_skip | go_guarded | go_step | go_upon | go_back | ((with_reducible show Oper.upon _ _ _ _ _ _); go_simp) | (dsimp only)))
              have hSC2 := cell_keep hb2 hcell
              have HS9 : (fun _ : World => True) u2 := trivial
              have HF2 := Lib.hid (HFR.out.below (hbd.trans (hb2.mono hbd.size)))
              have HS2 := Lib.hid (hS2.mono (Y := fun k => k ≠ bb) fun j _ hj => by show j ≠ bb; have := hbd.size; have : u0.heap.size ≤ j := hj; omega)
              have HN2 := Lib.hid hn2
              have hf2 := frozen_of_row u2 bb (19 + k) _ _ HF2.out.f.box
              clear HFR HCL hS2 hn2 hb2 hbd HSC hcell
              refine ⟨trivial, ?_⟩
              refine wpAnyH_take (i := 13) (v := .pointer (some ⟨bb, 19 + k, none⟩)) rfl (by kernel_rfl) (by kernel_rfl) (by kernel_rfl) (fun _ _ _ h => h) (Or.inl ⟨rfl, fun w _ => by go_simp⟩) HS9 ?_
              simp only [Act.put, qz1, qz2, qz3, qz4, qz5, qz6]
              refine wpAnyH_all (rs := [14]) (by kernel_rfl) (by simp) (fun i hi => ?_)
              obtain rfl : i = 14 := by simpa using hi
              refine wpOp_one rfl ?_
              (repeat (first | (with_reducible first | refine xA ?_ | refine xB ?_ | refine xC ?_ | refine xD ?_ | refine xH ?_ | refine xI rfl ?_ | refine xE ?_ | refine xF ?_ | refine xG ?_) | go_values | go_skip | go_guarded | go_step | go_upon | go_back | ((with_reducible show Oper.upon _ _ _ _ _ _); go_simp) | (dsimp only)))
              have hF9 := HF2.out.setR hlt HL.out HS2.out HN2.out
              refine ⟨trivial, ?_⟩
              refine wpAnyH_done (by kernel_rfl) ?_ _
              have HF9 := Lib.hid hF9
              clear hF9
              (repeat (first | (with_reducible first | refine xA ?_ | refine xB ?_ | refine xC ?_ | refine xD ?_ | refine xH ?_ | refine xI rfl ?_ | refine xE ?_ | refine xF ?_ | refine xG ?_) | go_values | go_skip | go_guarded | go_step | go_upon | go_back | ((with_reducible show Oper.upon _ _ _ _ _ _); go_simp) | (dsimp only)))
              exact ⟨⟨k + 1, _, by omega, by go_num, HF9⟩, by simp [intOf]; omega⟩
            · have hkn8 : ¬ ((k : Int) < 8) := by omega
              obtain ⟨k8, rfl⟩ : ∃ k8, k8 = k := ⟨_, rfl⟩
              clear hk hge
              have hbox := HFR.out.f.box
              have hil := HFR.out.f.il
              have hrl := HFR.out.f.rl
              have hfz := HFR.out.k.at HF.out hlt5
              have hone := fcells_one (c0 := .slice (some ⟨qc, 0, none⟩) b.g.cl.length b.g.cl.length) (c1 := .int .i64 b.g.n) (c2 := .slice ar root.length cr) rfl rfl rfl (slsx_one HFR.out.f.inp) (slsx_one HFR.out.f.reg)
              have Hbox := Lib.hid hbox
              have Hfz := Lib.hid hfz
              have Hone := Lib.hid hone
              clear hbox hfz hone
              (repeat (first | (with_reducible first | refine xA ?_ | refine xB ?_ | refine xC ?_ | refine xD ?_ | refine xH ?_ | refine xI rfl ?_ | refine xE ?_ | refine xF ?_ | refine xG ?_) | go_skip | go_guarded | ((with_reducible refine wl_id ?_); refine wl_ldform rfl _ rfl bb rfl _ _ (0, 0) Hbox.out (bc_size hil hrl) (bc_take hil hrl) ?_; (try simp only [Act.put, qz4, qz5, qz6])) | ((with_reducible refine wl_id ?_); refine wl_strow rfl 35 _ _ rfl w.heap.size _ rfl rfl 35 fzero.toArray Hfz.out (by rw [List.size_toArray, fcells_len hil hrl]; exact sizeTF) (by rw [List.size_toArray, List.size_toArray, fcells_len hil hrl, fzero_len]) Hone.out ?_; intro w9 hh9 hg9; (try simp only [Act.put, qz4, qz5, qz6])) | go_step3 | ((with_reducible show Exit.noGoto _ _ _ _); simp only [Exit.noGoto_normal, Exit.noGoto_exit, Exit.noGoto_ret]) | go_values | go_skip | go_guarded | go_step | go_upon | go_back | ((with_reducible show Oper.upon _ _ _ _ _ _); go_simp) | (dsimp only)))
              have hne9 : w.heap.size ≠ bb := by have := HFR.out.ub; omega
              have hk9 : Kept (fun k => k ≠ w.heap.size) wr w9 := ⟨hg9.os, hg9.tape, hg9.output, hg9.size, fun i hi hx => hg9.block i hi (fun e => hx (by injection e))⟩
              have hqw : qc ≠ w.heap.size := by have := HFR.out.ub; omega
              refine of_post (fcells_len hil hrl) rfl rfl rfl hh9 ⟨?_, ?_⟩
              · rw [HBK.out, HRT.out]
                exact ⟨qc, cs, ar, cr, iv2, rv2, rfl, HFR.out.o.kept hk9 hqw, ((slsx_off HFR.out.cls HNC.out Hfz.out).kept (hk9.mono fun _ _ h => h.2)).any, ((slx_off HFR.out.rt HNR.out Hfz.out).kept (hk9.mono fun _ _ h => h.2)).any, hil, hrl,
                  ((slsx_off HFR.out.f.inp (fun c hc => (HLN.out c (.inl hc)).2) Hfz.out).kept (hk9.mono fun _ _ h => h.2)).any, ((slsx_off HFR.out.f.reg (fun c hc => (HLN.out c (.inr hc)).2) Hfz.out).kept (hk9.mono fun _ _ h => h.2)).any, HFR.out.f.ni, HFR.out.f.nr, HCM.out⟩
              · exact below_grown (hb4.trans ((HFR.out.k.toBelow (Nat.le_refl _) fun _ h => h).mono hb4.size)) hg9 (fun k e => by injection e with e; omega)
end Go.Proofs.YtmaogkgjiplckaaGreat
namespace Go.Proofs.YtmaogkgjiplckaaGreat
open Go.RowKit
theorem nd_at {w : World} {b o k : Nat} {ls : List Nd} {d : Nd} (h : RowAt 6 Nd.cells w b o ls) (hi : ls[k]? = some d) : w.cell? ⟨b, o + k * 6, none⟩ = some (.int .i64 d.op) ∧ w.cell? ⟨b, o + k * 6 + 1, none⟩ = some (.int .i64 d.w) ∧ w.cell? ⟨b, o + k * 6 + 2, none⟩ = some (.int .u64 d.n) := by
  have h0 := h k d hi 0 _ rfl
  have h1 := h k d hi 1 _ rfl
  have h2 := h k d hi 2 _ rfl
  rw [Nat.mul_comm] at h0 h1 h2
  rw [← Nat.add_assoc] at h1 h2
  exact ⟨h0, h1, h2⟩
def hasB (op : Int) (n : Nat) (d : Nd) : Bool := d.op == op && d.n == (n : Int)
end Go.Proofs.YtmaogkgjiplckaaGreat
namespace Go.Proofs.YtmaogkgjiplckaaGreat
open Go.RowKit
def heavyB (d : Nd) : Bool := decide (10 ≤ d.op) && decide (d.op ≤ 12) && d.w == 64
theorem heavy_iff {d : Nd} : heavyB d = true ↔ heavyD d := by
  unfold heavyB heavyD
  simp only [Bool.and_eq_true, decide_eq_true_eq, beq_iff_eq, and_assoc]
def lightB (ls : List Nd) : Bool := decide (ls.length ≤ 60) && decide (ls.countP heavyB ≤ 2)
theorem countP_take {p : Nd → Bool} {ls : List Nd} {k : Nat} {d : Nd} (h : ls[k]? = some d) : (ls.take (k + 1)).countP p = (ls.take k).countP p + (if p d then 1 else 0) := by
  rw [List.take_add_one, h, List.countP_append]
  simp [List.countP_cons]
set_option maxRecDepth 100000 in
set_option maxHeartbeats 2000000 in
theorem light_any (v : Value) (ls : List Nd) (w : World) (h : SlIs 6 Nd.cells w v ls) (r : Bool) (hr : Hid (lightB ls = r)) :
    Calls Tryz.prog 7 #[v] w fun e w' => e = .returned (.bool r) ∧ w' = w := by
  obtain ⟨ao, cap, rfl, hcap, -, hrow⟩ := h
  by_cases h60 : (ls.length : Int) > 60
  · have hr0 : r = false := by rw [← hr.out]; unfold lightB; rw [decide_eq_false (by omega)]; rfl
    subst hr0
    clear hr hrow
    go_enter Tryz.func7, Tryz.ntmps7
    (repeat (first | (with_reducible first | refine xA ?_ | refine xB ?_ | refine xC ?_ | refine xD ?_ | refine xH ?_ | refine xI rfl ?_ | refine xE ?_ | refine xF ?_ | refine xG ?_) | go_values | go_skip | go_guarded | go_step | go_upon | go_back | ((with_reducible show Oper.upon _ _ _ _ _ _); go_simp) | (dsimp only)))
    go_ret
    exact ⟨rfl, rfl⟩
  have hlI : (ls.length : Int) ≤ 60 := by omega
  have HROW := Lib.hid hrow
  clear hrow hcap
  go_enter Tryz.func7, Tryz.ntmps7
  (repeat (first | (with_reducible first | refine xA ?_ | refine xB ?_ | refine xC ?_ | refine xD ?_ | refine xH ?_ | refine xI rfl ?_ | refine xE ?_ | refine xF ?_ | refine xG ?_) | go_values | go_skip | go_guarded | go_step | go_upon | go_back | ((with_reducible show Oper.upon _ _ _ _ _ _); go_simp) | (dsimp only)))
  go_loop [3, 4] (fun c i => ∃ k : Nat, k ≤ ls.length ∧ c = .int .i64 ((ls.take k).countP heavyB : Nat) ∧ i = .int .i64 k) (fun _ i => ls.length - (intOf i).toNat)
  case atStart => exact ⟨0, Nat.zero_le _, rfl, rfl⟩
  case round =>
    obtain ⟨k, hk, rfl, rfl⟩ := hrel
    have hcb : (((ls.take k).countP heavyB : Nat) : Int) ≤ 60 := by
      have := List.countP_le_length (p := heavyB) (l := ls.take k)
      rw [List.length_take] at this
      omega
    rcases Nat.lt_or_ge k ls.length with hlt | hge
    · obtain ⟨d, hd⟩ : ∃ d, ls[k]? = some d := ⟨_, List.getElem?_eq_getElem hlt⟩
      obtain ⟨b, off, rfl, HR⟩ := HROW.out (by intro e; rw [e] at hlt; simp at hlt)
      obtain ⟨c0, c1, c2⟩ := nd_at HR hd
      have Hd := Lib.hid hd
      clear hd
      obtain ⟨C, hC⟩ : ∃ C : Nat, (ls.take k).countP heavyB = C := ⟨_, rfl⟩
      rw [hC] at hcb ⊢
      have HC := Lib.hid hC
      clear hC HR
      by_cases h1 : d.op ≥ 10
      · by_cases h2 : d.op ≤ 12
        · by_cases h3 : d.w = 64
          · have f3 : (d.w == 64) = true := by simpa using h3
            have hH := Lib.hid (show heavyB d = true by unfold heavyB; rw [decide_eq_true h1, decide_eq_true h2, f3]; rfl)
            clear h3
            (repeat (first | (with_reducible first | refine xA ?_ | refine xB ?_ | refine xC ?_ | refine xD ?_ | refine xH ?_ | refine xI rfl ?_ | refine xE ?_ | refine xF ?_ | refine xG ?_) | go_values | go_skip | go_guarded | go_step | go_upon | go_back | ((with_reducible show Oper.upon _ _ _ _ _ _); go_simp) | (dsimp only)))
            exact ⟨⟨k + 1, by omega, by rw [countP_take Hd.out, hH.out, HC.out]; go_num, by go_num⟩, by simp [intOf]; omega⟩
          · have f3 : (d.w == 64) = false := by simpa using h3
            have hH := Lib.hid (show heavyB d = false by unfold heavyB; rw [f3]; simp)
            clear h3
            (repeat (first | (with_reducible first | refine xA ?_ | refine xB ?_ | refine xC ?_ | refine xD ?_ | refine xH ?_ | refine xI rfl ?_ | refine xE ?_ | refine xF ?_ | refine xG ?_) | go_values | go_skip | go_guarded | go_step | go_upon | go_back | ((with_reducible show Oper.upon _ _ _ _ _ _); go_simp) | (dsimp only)))
            exact ⟨⟨k + 1, by omega, by rw [countP_take Hd.out, hH.out, HC.out]; rfl, by go_num⟩, by simp [intOf]; omega⟩
        · have hH := Lib.hid (show heavyB d = false by unfold heavyB; rw [decide_eq_false h2]; simp)
          (repeat (first | (with_reducible first | refine xA ?_ | refine xB ?_ | refine xC ?_ | refine xD ?_ | refine xH ?_ | refine xI rfl ?_ | refine xE ?_ | refine xF ?_ | refine xG ?_) | go_values | go_skip | go_guarded | go_step | go_upon | go_back | ((with_reducible show Oper.upon _ _ _ _ _ _); go_simp) | (dsimp only)))
          exact ⟨⟨k + 1, by omega, by rw [countP_take Hd.out, hH.out, HC.out]; rfl, by go_num⟩, by simp [intOf]; omega⟩
      · have hH := Lib.hid (show heavyB d = false by unfold heavyB; rw [decide_eq_false (show ¬ 10 ≤ d.op by omega)]; rfl)
        (repeat (first | (with_reducible first | refine xA ?_ | refine xB ?_ | refine xC ?_ | refine xD ?_ | refine xH ?_ | refine xI rfl ?_ | refine xE ?_ | refine xF ?_ | refine xG ?_) | go_values | go_skip | go_guarded | go_step | go_upon | go_back | ((with_reducible show Oper.upon _ _ _ _ _ _); go_simp) | (dsimp only)))
        exact ⟨⟨k + 1, by omega, by rw [countP_take Hd.out, hH.out, HC.out]; rfl, by go_num⟩, by simp [intOf]; omega⟩
    · obtain rfl : k = ls.length := by omega
      (repeat (first | (with_reducible first | refine xA ?_ | refine xB ?_ | refine xC ?_ | refine xD ?_ | refine xH ?_ | refine xI rfl ?_ | refine xE ?_ | refine xF ?_ | refine xG ?_) | go_values | go_skip | go_guarded | go_step | go_upon | go_back | ((with_reducible show Oper.upon _ _ _ _ _ _); go_simp) | (dsimp only)))
      go_ret
      refine ⟨ret_bool ?_, rfl⟩
      rw [← hr.out]
      unfold lightB
      rw [decide_eq_true (show ls.length ≤ 60 by omega), Bool.true_and]
      exact decide_eq_decide.2 (by omega)
theorem light_cost : ∀ (ls : List Nd), costL ls ≤ 13000 * ls.length + 27000 * ls.countP heavyB := by
  intro ls
  induction ls with
  | nil => simp [costL]
  | cons d ls ih =>
    unfold costL at ih ⊢
    rw [List.map_cons, List.sum_cons, List.length_cons, List.countP_cons]
    by_cases h : heavyD d
    · have e : costD d = 40000 := by unfold costD; rw [if_pos h]
      rw [e, if_pos (heavy_iff.2 h)]; omega
    · have e : costD d = 13000 := by unfold costD; rw [if_neg h]
      rw [e, if_neg (fun e => h (heavy_iff.1 e))]; omega
theorem costL_take (ls : List Nd) (k : Nat) : costL (ls.take k) ≤ costL ls := by
  unfold costL
  conv => rhs; rw [← List.take_append_drop k ls, List.map_append, List.sum_append]
  omega
theorem light_n {ls : List Nd} (hT : TF ls) (hl : lightB ls = true) : ∀ k, k ≤ ls.length → (bK ls k).g.n + 40000 ≤ 1048576 := by
  intro k hk
  unfold lightB at hl
  rw [Bool.and_eq_true, decide_eq_true_eq, decide_eq_true_eq] at hl
  have h1 := blast_n hT k hk
  have h2 := costL_take ls k
  have h3 := light_cost ls
  omega
end Go.Proofs.YtmaogkgjiplckaaGreat
namespace Go.Proofs.YtmaogkgjiplckaaGreat
open Go.RowKit
def toldN (d : Nd) (tm : List Int) : Nd := ⟨d.op, d.w, d.n, if 0 < kidsI d.op then tm.getD d.k0.toNat 0 else d.k0, if 1 < kidsI d.op then tm.getD d.k1.toNat 0 else d.k1, if 2 < kidsI d.op then tm.getD d.k2.toNat 0 else d.k2⟩
def RN (A : List Nd) (d : Nd) : Prop := rightE d A = 0 ∧ noArr d ∧ NdWf d
def RT (A : List Nd) : Prop := ∀ j d, A[j]? = some d → RN (A.take j) d
theorem RN.ops {A : List Nd} {d : Nd} (h : RN A d) : 0 ≤ d.op ∧ d.op ≤ 24 := by
  have hr := h.1
  unfold rightE at hr
  by_cases h0 : d.op < 0 ∨ 24 < d.op
  · rw [if_pos h0] at hr; cases hr
  · omega
theorem RN.parts {A : List Nd} {d : Nd} (h : RN A d) : ∃ a b c, kidW (kidsI d.op) 0 d.k0 A = some a ∧ kidW (kidsI d.op) 1 d.k1 A = some b ∧ kidW (kidsI d.op) 2 d.k2 A = some c := by
  have ho := h.ops
  have hr := h.1
  unfold rightE at hr
  rw [if_neg (by omega)] at hr
  unfold kidsR at hr
  cases h0 : kidW (kidsI d.op) 0 d.k0 A with
  | none => rw [h0] at hr; simp at hr
  | some a =>
    cases h1 : kidW (kidsI d.op) 1 d.k1 A with
    | none => rw [h0, h1] at hr; simp at hr
    | some b =>
      cases h2 : kidW (kidsI d.op) 2 d.k2 A with
      | none => rw [h0, h1, h2] at hr; simp at hr
      | some c => exact ⟨a, b, c, rfl, rfl, rfl⟩
theorem RT.tf {A : List Nd} (h : RT A) : TF A := fun j d hd => by
  have hj : j < A.length := (List.getElem?_eq_some_iff.1 hd).1
  exact nf_of (by omega) (h j d hd).1 (h j d hd).2.1 (h j d hd).2.2
theorem RT.ofTchk {A : List Nd} (h : tchk A = (0, 0)) (hm : A.length ≤ 65536) (ha : ∀ d ∈ A, noArr d) (hwf : ∀ d ∈ A, NdWf d) : RT A := fun j d hd => by
  unfold tchk at h
  split at h
  · injection h with h1 _; cases h1
  have hm' := List.mem_of_getElem? hd
  exact ⟨chk_ok 0 (by omega) hm (by simpa using h) j d (by omega) hd, ha d hm', hwf d hm'⟩
theorem RT.okChk {A : List Nd} (h : RT A) (hm : A.length ≤ 65536) : ∀ (n k : Nat), A.length - k = n → k ≤ A.length → chk (A.take k) (A.drop k) = (0, 0) := by
  intro n
  induction n with
  | zero =>
    intro k hk hkl
    rw [List.drop_of_length_le (by omega)]
    rfl
  | succ n ih =>
    intro k hk hkl
    have hlt : k < A.length := by omega
    rw [chk_step (List.getElem?_eq_getElem hlt), if_neg (by omega), if_neg (by rw [(h k _ (List.getElem?_eq_getElem hlt)).1]; simp)]
    exact ih (k + 1) (by omega) (by omega)
theorem RT.okTchk {A : List Nd} (h : RT A) (hm : A.length ≤ 65536) (hne : A ≠ []) : tchk A = (0, 0) := by
  have := h.okChk hm _ 0 rfl (by omega)
  unfold tchk
  rw [if_neg hne]
  simpa using this
theorem RT.snoc {A : List Nd} (h : RT A) {d : Nd} (hd : RN A d) : RT (A ++ [d]) := fun j e he => by
  rcases Nat.lt_trichotomy j A.length with hj | hj | hj
  · rw [List.getElem?_append_left hj] at he
    rw [List.take_append_of_le_length (by omega)]
    exact h j e he
  · subst hj
    rw [List.getElem?_append_right (Nat.le_refl _), Nat.sub_self] at he
    obtain rfl : d = e := by simpa using he
    rw [List.take_left']
    · exact hd
    · rfl
  · rw [List.getElem?_eq_none (by simp; omega)] at he; cases he
theorem val_congr {I R : Nat → Nat} {A B : List Nd} {vA vB : List Nat} {d d' : Nd} (ho : d'.op = d.op) (hn : d'.n = d.n) (hr : 0 ≤ d.op ∧ d.op ≤ 24) (na : noArr d)
    (h0 : 0 < kidsI d.op → wAt B d'.k0 = wAt A d.k0 ∧ vB.getD d'.k0.toNat 0 = vA.getD d.k0.toNat 0) (h1 : 1 < kidsI d.op → vB.getD d'.k1.toNat 0 = vA.getD d.k1.toNat 0) (h2 : 2 < kidsI d.op → vB.getD d'.k2.toNat 0 = vA.getD d.k2.toNat 0) : valD I R B vB d' = valD I R A vA d := by
  obtain ⟨n3, n4, n23, n24⟩ := na
  unfold valD
  rw [ho, hn]
  by_cases c0 : d.op = 0
  · rw [if_pos c0, if_pos c0]
  rw [if_neg c0, if_neg c0]
  by_cases c1 : d.op = 1
  · rw [if_pos c1, if_pos c1]
  rw [if_neg c1, if_neg c1]
  by_cases c2 : d.op = 2
  · rw [if_pos c2, if_pos c2]
  rw [if_neg c2, if_neg c2]
  have k0 : 0 < kidsI d.op := by unfold kidsI; rw [if_neg (by omega)]; split <;> (try split) <;> omega
  rw [(h0 k0).2, (h0 k0).1]
  by_cases c6 : d.op = 6
  · rw [if_pos c6, if_pos c6]
  rw [if_neg c6, if_neg c6]
  by_cases c7 : d.op = 7
  · rw [if_pos c7, if_pos c7]
  rw [if_neg c7, if_neg c7]
  by_cases c5 : d.op = 5
  · rw [if_neg (by omega), if_neg (by omega), c5]
    unfold opI
    rw [if_pos rfl, if_pos rfl]
  have k1 : 1 < kidsI d.op := by unfold kidsI; rw [if_neg (by omega)]; split <;> (try split) <;> omega
  rw [h1 k1]
  by_cases c22 : d.op = 22
  · have k2 : 2 < kidsI d.op := by rw [c22]; decide
    rw [if_pos c22, if_pos c22, h2 k2]
  · rw [if_neg c22, if_neg c22]
theorem vK_get {I R : Nat → Nat} {ls : List Nd} {j : Nat} : ∀ k, j < k → k ≤ ls.length → (vK I R ls k).getD j 0 = (vK I R ls (j + 1)).getD j 0 := by
  intro k hjk
  induction k with
  | zero => omega
  | succ k ih =>
    intro hk
    rcases Nat.lt_or_ge j k with h | h
    · rw [vK, List.getElem?_eq_getElem (show k < ls.length by omega)]
      dsimp only
      rw [List.getD_eq_getElem?_getD, List.getElem?_append_left (by rw [vK_len k (by omega)]; exact h), ← List.getD_eq_getElem?_getD]
      exact ih h (by omega)
    · obtain rfl : j = k := by omega
      rfl
theorem kid_lt {A : List Nd} {d : Nd} (h : RN A d) : (0 < kidsI d.op → ∃ a : Nat, d.k0 = a ∧ a < A.length) ∧ (1 < kidsI d.op → ∃ a : Nat, d.k1 = a ∧ a < A.length) ∧ (2 < kidsI d.op → ∃ a : Nat, d.k2 = a ∧ a < A.length) := by
  obtain ⟨a, b, c, h0, h1, h2⟩ := h.parts
  refine ⟨fun k => ?_, fun k => ?_, fun k => ?_⟩
  · obtain ⟨x, e, hx, _⟩ := kidW_in h0 k; exact ⟨x, e, hx⟩
  · obtain ⟨x, e, hx, _⟩ := kidW_in h1 k; exact ⟨x, e, hx⟩
  · obtain ⟨x, e, hx, _⟩ := kidW_in h2 k; exact ⟨x, e, hx⟩
theorem vK_val {I R : Nat → Nat} {ls : List Nd} (hT : RT ls) {j : Nat} {d : Nd} (hd : ls[j]? = some d) : (vK I R ls ls.length).getD j 0 = valD I R ls (vK I R ls ls.length) d := by
  have hj : j < ls.length := (List.getElem?_eq_some_iff.1 hd).1
  rw [vK_get ls.length hj (Nat.le_refl _)]
  rw [vK, hd]
  dsimp only
  rw [List.getD_eq_getElem?_getD, List.getElem?_append_right (by rw [vK_len j (by omega)]; omega), vK_len j (by omega), Nat.sub_self]
  show valD I R ls (vK I R ls j) d = _
  have hN := hT j d hd
  have hl : (ls.take j).length = j := by rw [List.length_take]; omega
  obtain ⟨l0, l1, l2⟩ := kid_lt hN
  rw [hl] at l0 l1 l2
  have key : ∀ K : Int, (∃ a : Nat, K = a ∧ a < j) → (vK I R ls j).getD K.toNat 0 = (vK I R ls ls.length).getD K.toNat 0 := by
    rintro K ⟨a, rfl, ha⟩
    rw [Int.toNat_natCast, vK_get j ha (by omega), vK_get ls.length (by omega) (Nat.le_refl _)]
  exact val_congr rfl rfl hN.ops hN.2.1 (fun k => ⟨rfl, key _ (l0 k)⟩) (fun k => key _ (l1 k)) (fun k => key _ (l2 k))
theorem wAt_app {A : List Nd} {x : List Nd} {a : Nat} (h : a < A.length) : wAt (A ++ x) a = wAt A a := by
  unfold wAt
  rw [Int.toNat_natCast, List.getElem?_append_left h]
theorem vK_app {I R : Nat → Nat} {B : List Nd} (x : List Nd) (hT : RT B) : ∀ k, k ≤ B.length → vK I R (B ++ x) k = vK I R B k := by
  intro k
  induction k with
  | zero => intro _; rfl
  | succ k ih =>
    intro hk
    have hk' : k < B.length := by omega
    have hd := List.getElem?_eq_getElem hk'
    have hN := hT k _ hd
    rw [vK, vK, List.getElem?_append_left hk', hd]
    dsimp only
    rw [ih (by omega)]
    have hl : (B.take k).length = k := by rw [List.length_take]; omega
    obtain ⟨l0, _, _⟩ := kid_lt hN
    rw [hl] at l0
    rw [val_congr (A := B) (B := B ++ x) rfl rfl hN.ops hN.2.1 (fun k0 => ⟨by
      obtain ⟨a, e, ha⟩ := l0 k0
      rw [e, wAt_app (by omega)], rfl⟩) (fun _ => rfl) (fun _ => rfl)]
def Emb (A B : List Nd) (a : Nat) (p : Int) : Prop := 0 ≤ p ∧ p < B.length ∧ wAt B p = wAt A a ∧ ∀ I R : Nat → Nat, (vK I R B B.length).getD p.toNat 0 = (vK I R A A.length).getD a 0
theorem Emb.snoc {A B : List Nd} {a : Nat} {p : Int} (hB : RT B) (x : Nd) (h : Emb A B a p) : Emb A (B ++ [x]) a p := by
  obtain ⟨h0, h1, h2, h3⟩ := h
  obtain ⟨q, rfl⟩ := Int.eq_ofNat_of_zero_le h0
  refine ⟨h0, by simp; omega, by rw [wAt_app (by omega)]; exact h2, fun I R => ?_⟩
  rw [← h3 I R, Int.toNat_natCast, vK_get _ (show q < (B ++ [x]).length by simp; omega) (Nat.le_refl _), vK_get B.length (by omega) (Nat.le_refl _)]
  rw [vK_app [x] hB (q + 1) (by omega)]
theorem kidW_told {has j K x : Int} {A B : List Nd} {tm : List Int} (h : kidW has j K A = some x) (hm : j < has → ∀ a : Nat, K = a → a < A.length → 0 ≤ tm.getD a 0 ∧ tm.getD a 0 < B.length ∧ wAt B (tm.getD a 0) = wAt A a) : kidW has j (if j < has then tm.getD K.toNat 0 else K) B = some x := by
  by_cases hj : j < has
  · obtain ⟨a, rfl, ha, rfl⟩ := kidW_in h hj
    obtain ⟨h0, h1, h2⟩ := hm hj a rfl ha
    rw [if_pos hj, Int.toNat_natCast]
    unfold kidW
    rw [if_neg (by omega), if_neg (by omega), h2]
  · obtain ⟨rfl, rfl⟩ := kidW_out h (by omega)
    rw [if_neg hj]
    unfold kidW
    rw [if_pos (by omega), if_pos rfl]
def isKid (d : Nd) (a : Nat) : Prop := (0 < kidsI d.op ∧ d.k0 = a) ∨ (1 < kidsI d.op ∧ d.k1 = a) ∨ (2 < kidsI d.op ∧ d.k2 = a)
theorem told_rn {A B : List Nd} {d : Nd} {tm : List Int} (h : RN A d) (hB : B.length ≤ 65536) (hm : ∀ a, isKid d a → a < A.length → 0 ≤ tm.getD a 0 ∧ tm.getD a 0 < B.length ∧ wAt B (tm.getD a 0) = wAt A a) : RN B (toldN d tm) := by
  obtain ⟨a, b, c, h0, h1, h2⟩ := h.parts
  have g0 := kidW_told (B := B) (tm := tm) h0 (fun k x e hx => hm x (.inl ⟨k, e⟩) hx)
  have g1 := kidW_told (B := B) (tm := tm) h1 (fun k x e hx => hm x (.inr (.inl ⟨k, e⟩)) hx)
  have g2 := kidW_told (B := B) (tm := tm) h2 (fun k x e hx => hm x (.inr (.inr ⟨k, e⟩)) hx)
  have hr := h.1
  unfold rightE kidsR at hr
  rw [h0, h1, h2] at hr
  have bnd : ∀ K : Int, (-9223372036854775808 ≤ K ∧ K ≤ 9223372036854775807) → ∀ j : Int, (j < kidsI d.op → ∃ a : Nat, K = a ∧ isKid d a ∧ a < A.length) → -9223372036854775808 ≤ (if j < kidsI d.op then tm.getD K.toNat 0 else K) ∧ (if j < kidsI d.op then tm.getD K.toNat 0 else K) ≤ 9223372036854775807 := by
    intro K hK j hj
    by_cases c : j < kidsI d.op
    · obtain ⟨a, rfl, ha, hl⟩ := hj c
      obtain ⟨x0, x1, _⟩ := hm a ha hl
      rw [if_pos c, Int.toNat_natCast]
      omega
    · rw [if_neg c]; exact hK
  obtain ⟨l0, l1, l2⟩ := kid_lt h
  obtain ⟨w0, w1, w2, w3, w4, w5⟩ := h.2.2
  refine ⟨?_, h.2.1, w0, w1, w2, bnd _ w3 0 (fun k => ?_), bnd _ w4 1 (fun k => ?_), bnd _ w5 2 (fun k => ?_)⟩
  · unfold rightE kidsR toldN
    dsimp only
    rw [g0, g1, g2]
    exact hr
  · obtain ⟨x, e, hx⟩ := l0 k; exact ⟨x, e, .inl ⟨k, e⟩, hx⟩
  · obtain ⟨x, e, hx⟩ := l1 k; exact ⟨x, e, .inr (.inl ⟨k, e⟩), hx⟩
  · obtain ⟨x, e, hx⟩ := l2 k; exact ⟨x, e, .inr (.inr ⟨k, e⟩), hx⟩
theorem told_val {I R : Nat → Nat} {A B : List Nd} {j : Nat} {d : Nd} {tm : List Int} (hA : RT A) (hd : A[j]? = some d) (hm : ∀ a, isKid d a → a < j → Emb A B a (tm.getD a 0)) : valD I R B (vK I R B B.length) (toldN d tm) = (vK I R A A.length).getD j 0 := by
  have hN := hA j d hd
  have hj : j < A.length := (List.getElem?_eq_some_iff.1 hd).1
  have hl : (A.take j).length = j := by rw [List.length_take]; omega
  rw [vK_val hA hd]
  obtain ⟨l0, l1, l2⟩ := kid_lt hN
  rw [hl] at l0 l1 l2
  refine val_congr rfl rfl hN.ops hN.2.1 (fun k => ?_) (fun k => ?_) (fun k => ?_)
  · obtain ⟨a, e, ha⟩ := l0 k
    have := hm a (.inl ⟨k, e⟩) ha
    unfold toldN
    dsimp only
    rw [if_pos k, e, Int.toNat_natCast]
    exact ⟨this.2.2.1, this.2.2.2 I R⟩
  · obtain ⟨a, e, ha⟩ := l1 k
    have := hm a (.inr (.inl ⟨k, e⟩)) ha
    unfold toldN
    dsimp only
    rw [if_pos k, e, Int.toNat_natCast]
    exact this.2.2.2 I R
  · obtain ⟨a, e, ha⟩ := l2 k
    have := hm a (.inr (.inr ⟨k, e⟩)) ha
    unfold toldN
    dsimp only
    rw [if_pos k, e, Int.toNat_natCast]
    exact this.2.2.2 I R
theorem told_rn' {A B : List Nd} {j : Nat} {d : Nd} {tm : List Int} (hA : RT A) (hd : A[j]? = some d) (hB : B.length ≤ 65536) (hm : ∀ a, isKid d a → a < j → Emb A B a (tm.getD a 0)) : RN B (toldN d tm) := by
  have hj : j < A.length := (List.getElem?_eq_some_iff.1 hd).1
  have hl : (A.take j).length = j := by rw [List.length_take]; omega
  refine told_rn (hA j d hd) hB fun a ha hal => ?_
  rw [hl] at hal
  obtain ⟨h0, h1, h2, _⟩ := hm a ha hal
  exact ⟨h0, h1, by rw [h2, wAt_take hal]⟩
theorem emb_hit {A B : List Nd} {j : Nat} {d : Nd} {tm : List Int} (hA : RT A) (hB : RT B) (hd : A[j]? = some d) (hm : ∀ a, isKid d a → a < j → Emb A B a (tm.getD a 0)) {p : Nat} (hp : B[p]? = some (toldN d tm)) : Emb A B j p := by
  have hpl : p < B.length := (List.getElem?_eq_some_iff.1 hp).1
  refine ⟨by omega, by omega, ?_, fun I R => ?_⟩
  · rw [wAt_get hp, wAt_get hd]; rfl
  · rw [Int.toNat_natCast, vK_val hB hp]
    exact told_val hA hd hm
theorem emb_miss {A B : List Nd} {j : Nat} {d : Nd} {tm : List Int} (hA : RT A) (hB : RT B) (hl : B.length ≤ 65536) (hd : A[j]? = some d) (hm : ∀ a, isKid d a → a < j → Emb A B a (tm.getD a 0)) : RT (B ++ [toldN d tm]) ∧ Emb A (B ++ [toldN d tm]) j B.length := by
  have hR := hB.snoc (told_rn' hA hd hl hm)
  refine ⟨hR, emb_hit hA hR hd (fun a ha haj => (hm a ha haj).snoc hB _) ?_⟩
  rw [List.getElem?_append_right (Nat.le_refl _), Nat.sub_self]
  rfl
structure PutI (ls : List Nd) (k : Nat) (A : List Nd) (tm : List Int) : Prop where
  rt : RT A
  len : tm.length = k
  al : A.length ≤ k
  hv : A.countP heavyB ≤ (ls.take k).countP heavyB
  emb : ∀ j : Nat, j < k → Emb ls A j (tm.getD j 0)
theorem getD_snoc {l : List Int} {x : Int} {j : Nat} : (l ++ [x]).getD j 0 = if j < l.length then l.getD j 0 else if j = l.length then x else 0 := by
  rw [List.getD_eq_getElem?_getD, List.getElem?_append]
  split
  · rw [List.getD_eq_getElem?_getD]
  · split
    · subst_vars; simp
    · rw [List.getElem?_eq_none (by simp; omega)]; rfl
theorem count_take {ls : List Nd} {k : Nat} {d : Nd} (hd : ls[k]? = some d) : (ls.take (k + 1)).countP heavyB = (ls.take k).countP heavyB + if heavyB d then 1 else 0 := by
  rw [List.take_add_one, hd, List.countP_append]
  simp [List.countP_cons]
theorem PutI.start (ls : List Nd) : PutI ls 0 [] [] := ⟨fun j d h => by simp at h, rfl, Nat.le_refl _, by simp, fun j h => by omega⟩
theorem PutI.hit {ls A : List Nd} {k p : Nat} {d : Nd} {tm : List Int} (hL : RT ls) (h : PutI ls k A tm) (hd : ls[k]? = some d) (hp : A[p]? = some (toldN d tm)) : PutI ls (k + 1) A (tm ++ [(p : Int)]) := by
  refine ⟨h.rt, by simp [h.len], by have := h.al; omega, by rw [count_take hd]; have := h.hv; omega, fun j hj => ?_⟩
  rw [getD_snoc, h.len]
  rcases Nat.lt_or_ge j k with hjk | hjk
  · rw [if_pos hjk]; exact h.emb j hjk
  · obtain rfl : j = k := by omega
    rw [if_neg (by omega), if_pos rfl]
    exact emb_hit hL h.rt hd (fun a _ ha => h.emb a ha) hp
theorem PutI.miss {ls A : List Nd} {k : Nat} {d : Nd} {tm : List Int} (hL : RT ls) (h : PutI ls k A tm) (hk : k ≤ 65536) (hd : ls[k]? = some d) : PutI ls (k + 1) (A ++ [toldN d tm]) (tm ++ [(A.length : Int)]) := by
  obtain ⟨h1, h2⟩ := emb_miss hL h.rt (by have := h.al; omega) hd (fun a _ ha => h.emb a ha)
  refine ⟨h1, by simp [h.len], by have := h.al; simp; omega, ?_, fun j hj => ?_⟩
  · rw [count_take hd, List.countP_append]
    have e : heavyB (toldN d tm) = heavyB d := rfl
    have := h.hv
    simp only [List.countP_cons, List.countP_nil, e]
    omega
  · rw [getD_snoc, h.len]
    rcases Nat.lt_or_ge j k with hjk | hjk
    · rw [if_pos hjk]; exact (h.emb j hjk).snoc h.rt _
    · obtain rfl : j = k := by omega
      rw [if_neg (by omega), if_pos rfl]
      exact h2
structure TermI (A : List Nd) (nd : Nat → Bool) (k : Nat) (B : List Nd) (tm : List Int) : Prop where
  rt : RT B
  len : tm.length = A.length
  al : B.length ≤ k
  hv : B.countP heavyB ≤ (A.take k).countP heavyB
  emb : ∀ j : Nat, j < k → nd j = true → Emb A B j (tm.getD j 0)
  last : ∀ j : Nat, j + 1 = k → nd j = true → tm.getD j 0 = (B.length : Int) - 1 ∧ 0 < B.length
theorem TermI.start (A : List Nd) (nd : Nat → Bool) {tm : List Int} (hl : tm.length = A.length) : TermI A nd 0 [] tm := ⟨fun j d h => by simp at h, hl, Nat.le_refl _, by simp, fun j h => by omega, fun j h => by omega⟩
theorem TermI.skip {A B : List Nd} {nd : Nat → Bool} {k : Nat} {tm : List Int} {d : Nd} (h : TermI A nd k B tm) (hd : A[k]? = some d) (hn : nd k = false) : TermI A nd (k + 1) B tm := by
  refine ⟨h.rt, h.len, by have := h.al; omega, by rw [count_take hd]; have := h.hv; omega, fun j hj hnj => ?_, fun j hj hnj => ?_⟩
  · rcases Nat.lt_or_ge j k with hjk | hjk
    · exact h.emb j hjk hnj
    · obtain rfl : j = k := by omega
      rw [hn] at hnj; cases hnj
  · obtain rfl : j = k := by omega
    rw [hn] at hnj; cases hnj
theorem getD_setI {l : List Int} {i j : Nat} {x : Int} (hi : i < l.length) : (l.set i x).getD j 0 = if j = i then x else l.getD j 0 := by
  rw [List.getD_eq_getElem?_getD]
  by_cases e : j = i
  · subst e; rw [List.getElem?_set_self hi, if_pos rfl]; rfl
  · rw [List.getElem?_set_ne (Ne.symm e), if_neg e, List.getD_eq_getElem?_getD]
theorem TermI.take {A B : List Nd} {nd : Nat → Bool} {k : Nat} {tm : List Int} {d : Nd} (hA : RT A) (h : TermI A nd k B tm) (hk : k ≤ 65536) (hd : A[k]? = some d) (hkid : ∀ a, isKid d a → a < k → nd a = true) : TermI A nd (k + 1) (B ++ [toldN d (tm.set k (B.length : Int))]) (tm.set k (B.length : Int)) := by
  have hkl : k < A.length := (List.getElem?_eq_some_iff.1 hd).1
  have hki : k < tm.length := by rw [h.len]; exact hkl
  have hm : ∀ a, isKid d a → a < k → Emb A B a ((tm.set k (B.length : Int)).getD a 0) := fun a ha hak => by
    rw [getD_setI hki, if_neg (by omega)]
    exact h.emb a hak (hkid a ha hak)
  obtain ⟨h1, h2⟩ := emb_miss hA h.rt (by have := h.al; omega) hd hm
  refine ⟨h1, by simp [h.len], by have := h.al; simp; omega, ?_, fun j hj hnj => ?_, fun j hj hnj => ?_⟩
  · rw [count_take hd, List.countP_append]
    have e : heavyB (toldN d (tm.set k (B.length : Int))) = heavyB d := rfl
    have := h.hv
    simp only [List.countP_cons, List.countP_nil, e]
    omega
  · rw [getD_setI hki]
    rcases Nat.lt_or_ge j k with hjk | hjk
    · rw [if_neg (by omega)]
      exact (h.emb j hjk hnj).snoc h.rt _
    · obtain rfl : j = k := by omega
      rw [if_pos rfl]
      exact h2
  · obtain rfl : j = k := by omega
    rw [getD_setI hki, if_pos rfl]
    simp
theorem put_term {ls A B : List Nd} {tm tp : List Int} {nd : Nat → Bool} {p : Nat} (hp : PutI ls ls.length A tm) (hne : ls ≠ []) (hr : tm.getD (ls.length - 1) 0 = (p : Int)) (hl : lightB ls = true) (ht : TermI A nd (p + 1) B tp) (hnp : nd p = true) :
    RT B ∧ B ≠ [] ∧ lightB B = true ∧ ∀ I R : Nat → Nat, (vK I R B B.length).getD (B.length - 1) 0 = (vK I R ls ls.length).getD (ls.length - 1) 0 := by
  have hpos : 0 < ls.length := List.length_pos_iff.2 hne
  obtain ⟨e0, e1, e2, e3⟩ := hp.emb (ls.length - 1) (by omega)
  rw [hr] at e0 e1 e2 e3
  obtain ⟨f0, f1, f2, f3⟩ := ht.emb p (by omega) hnp
  obtain ⟨g0, g1⟩ := ht.last p rfl hnp
  rw [g0] at f3
  unfold lightB at hl ⊢
  rw [Bool.and_eq_true, decide_eq_true_eq, decide_eq_true_eq] at hl
  refine ⟨ht.rt, List.length_pos_iff.1 g1, ?_, fun I R => ?_⟩
  · rw [Bool.and_eq_true, decide_eq_true_eq, decide_eq_true_eq]
    have h1 := hp.al
    have h2 := ht.al
    have h3 := hp.hv
    have h4 := ht.hv
    rw [List.take_length] at h3
    have h5 : (A.take (p + 1)).countP heavyB ≤ A.countP heavyB := (List.take_sublist _ _).countP_le
    omega
  · have h1 := e3 I R
    have h2 := f3 I R
    rw [Int.toNat_natCast] at h1
    rw [← h1, ← h2]
    congr 1
    omega
end Go.Proofs.YtmaogkgjiplckaaGreat
namespace Go.Proofs.YtmaogkgjiplckaaGreat
open Go.RowKit
def atB (l : List Int) (k : Int) : Int := l.getD k.toNat 0
def u8c (x : Int) : List Value := [.int .u8 x]
set_option maxRecDepth 100000 in
theorem at_any (v : Value) (l : List Int) (k : Int) (w : World) (h : SlIs 1 u8c w v l) (hk : 0 ≤ k ∧ k < 18446744073709551616) (hl : l.length ≤ 1000000) (r : Int) (hr : Hid (atB l k = r)) :
    Calls Tryz.prog 35 #[v, .int .u64 k] w fun e w' => e = .returned (.int .u8 r) ∧ w' = w := by
  obtain ⟨ao, cap, rfl, hcap, hnil, hrow⟩ := h
  have hlI : (l.length : Int) ≤ 1000000 := by omega
  by_cases hlt : k < (l.length : Int)
  · have hne : l ≠ [] := by intro e; rw [e] at hlt; simp at hlt; omega
    obtain ⟨b, o, rfl, HR⟩ := hrow hne
    have hi : k.toNat < l.length := by omega
    have hc := HR k.toNat _ (List.getElem?_eq_getElem hi) 0 _ rfl
    have er : l[k.toNat] = r := by rw [← hr.out]; unfold atB; rw [List.getD_eq_getElem?_getD, List.getElem?_eq_getElem hi]; rfl
    rw [er] at hc
    simp only [Nat.one_mul, Nat.add_zero] at hc
    have hk0 := hk.1
    clear er hi HR hrow hne
    go_enter Tryz.func35, Tryz.ntmps35
    (repeat (first | (with_reducible first | refine xA ?_ | refine xB ?_ | refine xC ?_ | refine xD ?_ | refine xH ?_ | refine xI rfl ?_ | refine xE ?_ | refine xF ?_ | refine xG ?_) | go_values | go_skip | go_guarded | go_step | go_upon | go_back | ((with_reducible show Oper.upon _ _ _ _ _ _); go_simp) | (dsimp only)))
    go_ret
    exact ⟨rfl, rfl⟩
  · have er : r = 0 := by rw [← hr.out]; unfold atB; rw [List.getD_eq_getElem?_getD, List.getElem?_eq_none (by omega)]; rfl
    subst er
    have hk0 := hk.1
    clear hrow
    go_enter Tryz.func35, Tryz.ntmps35
    (repeat (first | (with_reducible first | refine xA ?_ | refine xB ?_ | refine xC ?_ | refine xD ?_ | refine xH ?_ | refine xI rfl ?_ | refine xE ?_ | refine xF ?_ | refine xG ?_) | go_values | go_skip | go_guarded | go_step | go_upon | go_back | ((with_reducible show Oper.upon _ _ _ _ _ _); go_simp) | (dsimp only)))
    go_ret
    exact ⟨rfl, rfl⟩
end Go.Proofs.YtmaogkgjiplckaaGreat
namespace Go.Proofs.YtmaogkgjiplckaaGreat
open Go.RowKit
def SlN (w : World) (v : Value) (vs : List Nat) : Prop := ∃ ao cap, v = .slice ao vs.length cap ∧ (vs ≠ [] → ∃ b o, ao = some ⟨b, o, none⟩ ∧ ∀ (i x : Nat), vs[i]? = some x → w.cell? ⟨b, o + i, none⟩ = some (.int .u64 (x : Int)))
theorem SlN.below {w w' : World} {v : Value} {vs : List Nat} (h : SlN w v vs) (hb : Below w.heap.size w w') : SlN w' v vs :=
  let ⟨ao, cap, h1, h2⟩ := h
  ⟨ao, cap, h1, fun hn => let ⟨b, o, e, hr⟩ := h2 hn; ⟨b, o, e, fun i x hi => cell_keep hb (hr i x hi)⟩⟩
section
variable {op W n k0 k1 k2 r0 r1 r2 r3 r4 r5 r6 r7 : Int} {vl vv vi vm : Value} {w : World}
set_option maxRecDepth 100000
set_option maxHeartbeats 1000000
end
end Go.Proofs.YtmaogkgjiplckaaGreat
namespace Go.Proofs.YtmaogkgjiplckaaGreat
open Go.RowKit
section
variable {op W n k0 k1 k2 r0 r1 r2 r3 r4 r5 r6 r7 : Int} {vl vv vi vm : Value} {w : World}
set_option maxRecDepth 100000
set_option maxHeartbeats 2000000
end
def regL (r0 r1 r2 r3 r4 r5 r6 r7 : Int) : List Int := [r0, r1, r2, r3, r4, r5, r6, r7]
def inI (inp : List Int) (i : Nat) : Nat := (atB inp i).toNat
def rgR (rg : List Int) (i : Nat) : Nat := (rg.getD i 0).toNat
structure EnvWf (inp rg : List Int) : Prop where
  il : inp.length ≤ 100
  ib : ∀ x ∈ inp, 0 ≤ x ∧ x < 256
  rb : ∀ x ∈ rg, 0 ≤ x ∧ x < 18446744073709551616
theorem EnvWf.at {inp rg : List Int} (h : EnvWf inp rg) (k : Int) : 0 ≤ atB inp k ∧ atB inp k < 256 := by
  unfold atB
  rw [List.getD_eq_getElem?_getD]
  cases e : inp[k.toNat]? with
  | none => decide
  | some v => exact h.ib v (List.mem_of_getElem? e)
theorem EnvWf.reg {inp rg : List Int} (h : EnvWf inp rg) (k : Nat) : 0 ≤ rg.getD k 0 ∧ rg.getD k 0 < 18446744073709551616 := by
  rw [List.getD_eq_getElem?_getD]
  cases e : rg[k]? with
  | none => decide
  | some v => exact h.rb v (List.mem_of_getElem? e)
theorem EnvWf.I {inp rg : List Int} (h : EnvWf inp rg) (i : Nat) : inI inp i < 256 := by
  have := h.at i; unfold inI; omega
theorem EnvWf.R {inp rg : List Int} (h : EnvWf inp rg) (i : Nat) : rgR rg i < 18446744073709551616 := by
  have := h.reg i; unfold rgR; omega
end Go.Proofs.YtmaogkgjiplckaaGreat
namespace Go.Proofs.YtmaogkgjiplckaaGreat
open Go.RowKit
theorem take_ld {P : Program} {o : Oper} {ev : Operand → Value} {ty : TypeId} {x : Operand} {v p : Value} {w : World} (ho : o.op = .load ty x) (hx : ev x = p) (h : (Instr.loadAt ty p).run P w = .ok v w) : (execOp ev o).run P w = .ok (.value v) w := by
  unfold execOp
  simp only [ho, hx, Sem.run_bind, h, Result.andThen_ok]
  rfl
theorem sizeEnv : (Tryz.prog.info? 27).map (·.size) = some 10 := by kernel_rfl
theorem ldEnv {vi vm : Value} {r0 r1 r2 r3 r4 r5 r6 r7 : Int} (u : World) (b : Nat) (h : u.heap[b]? = some (.cells #[vi, .int .u64 r0, .int .u64 r1, .int .u64 r2, .int .u64 r3, .int .u64 r4, .int .u64 r5, .int .u64 r6, .int .u64 r7, vm] 27 (0, 0))) : (Instr.loadAt 27 (.pointer (some ⟨b, 0, none⟩))).run Tryz.prog u = .ok (.agg #[vi, .int .u64 r0, .int .u64 r1, .int .u64 r2, .int .u64 r3, .int .u64 r4, .int .u64 r5, .int .u64 r6, .int .u64 r7, vm]) u := by
  have e := run_loadVar_row u b 27 27 _ (0, 0) _ h Tryz.underlying27 rfl sizeEnv
  simp only [Instr.loadAt, Instr.sureAddr, Sem.run_bind, Sem.run_pure, Result.andThen_ok]
  exact e
end Go.Proofs.YtmaogkgjiplckaaGreat
namespace Go.Proofs.YtmaogkgjiplckaaGreat
open Go.RowKit
theorem say_get : ∀ (l : List Int) (x k : Nat) (v : Int), l[k]? = some v → (sayL l x)[k]? = some (if x / 2 ^ k % 2 = 1 then v else -v) := by
  intro l
  induction l with
  | nil => intro x k v h; simp at h
  | cons a l ih =>
    intro x k v h
    rcases k with _ | k
    · simp only [List.getElem?_cons_zero, Option.some.injEq] at h
      subst h
      rw [sayL, List.getElem?_cons_zero]; simp
    · rw [List.getElem?_cons_succ] at h
      rw [sayL, List.getElem?_cons_succ, ih _ _ _ h, Nat.pow_succ, Nat.mul_comm, Nat.div_div_eq_div_mul]
theorem say_take {l : List Int} {x k : Nat} {v : Int} (h : l[k]? = some v) : (sayL l x).take (k + 1) = (sayL l x).take k ++ [if x / 2 ^ k % 2 = 1 then v else -v] := by
  rw [List.take_add_one, say_get l x k v h]; rfl
set_option maxRecDepth 100000 in
set_option maxHeartbeats 2000000 in
theorem say_law {Z : Nat → Prop} (v : Value) (l : List Int) (x : Nat) (w : World) (h : SlX Z w v l) (hll : l.length ≤ 100000) (hx : x < 18446744073709551616) (hv : ∀ a ∈ l, -1048576 ≤ a ∧ a ≤ 1048576) :
    Calls Tryz.prog 14 #[v, .int .u64 x] w fun e w' => ∃ v', e = .returned v' ∧ w'.ownsRow w.heap.size 3 1 v' l.length ((sayL l x).map (Value.int .i64)) ∧ Below w.heap.size w w' := by
  obtain ⟨ao, cap, rfl, -, -, hrow⟩ := h
  have HROW := Lib.hid hrow
  have Hv := Lib.hid hv
  have hlI : (l.length : Int) ≤ 100000 := by omega
  have Hx := Lib.hid hx
  clear hrow hv hx hll
  go_enter Tryz.func14, Tryz.ntmps14
  (repeat (first | (with_reducible first | refine xA ?_ | refine xB ?_ | refine xC ?_ | refine xD ?_ | refine xH ?_ | refine xI rfl ?_ | refine xE ?_ | refine xF ?_ | refine xG ?_) | go_values | go_skip | go_guarded | go_step | go_upon | go_back | ((with_reducible show Oper.upon _ _ _ _ _ _); go_simp) | (dsimp only)))
  go_loopw [1, 5, 6] (fun xv vr i wr => ∃ k : Nat, k ≤ l.length ∧ xv = .int .u64 ((x / 2 ^ k : Nat) : Int) ∧ i = .int .i64 k ∧ Hid (wr.ownsRow w.heap.size 3 1 vr k (((sayL l x).take k).map (Value.int .i64))) ∧ Below w.heap.size w wr) (fun _ _ i _ => l.length - (intOf i).toNat)
  case atStart => exact ⟨0, Nat.zero_le _, by simp, rfl, Lib.hid (by simpa using World.ownsRow_nil w _ _ _), Below.refl _ _⟩
  case round =>
    obtain ⟨k, hk, rfl, rfl, HO, HB⟩ := hrel
    rcases Nat.lt_or_ge k l.length with hlt | hge
    · obtain ⟨a, ha⟩ : ∃ a, l[k]? = some a := ⟨_, List.getElem?_eq_getElem hlt⟩
      obtain ⟨b, o, rfl, -, hbl, HR⟩ := HROW.out (by intro e; rw [e] at hlt; simp at hlt)
      have hab := Hv.out a (List.mem_of_getElem? ha)
      have hca := cell_keep HB (HR k a ha)
      have hst := say_take (x := x) ha
      have hdiv : x / 2 ^ k / 2 = x / 2 ^ (k + 1) := by rw [Nat.pow_succ, Nat.div_div_eq_div_mul]
      obtain ⟨X, hX⟩ : ∃ X, x / 2 ^ k = X := ⟨_, rfl⟩
      have hXb : X < 18446744073709551616 := by rw [← hX]; exact Nat.lt_of_le_of_lt (Nat.div_le_self _ _) Hx.out
      rw [hX] at hst hdiv ⊢
      obtain ⟨av, cv, rfl⟩ := ownsRow_shape HO.out
      have hab1 := hab.1
      have hab2 := hab.2
      clear hab
      have hXI : (X : Int) < 18446744073709551616 := by omega
      have hX0 : (0 : Int) ≤ (X : Int) := by omega
      have HDV := Lib.hid hdiv
      clear HR ha hX hdiv hXb
      by_cases h1 : X % 2 = 1
      · rw [if_pos h1] at hst
        have HST := Lib.hid hst
        have f1 : (((X : Int) % 2) == 1) = true := by simp; omega
        clear hst h1
        (repeat (first | (with_reducible first | refine xA ?_ | refine xB ?_ | refine xC ?_ | refine xD ?_ | refine xH ?_ | refine xI rfl ?_ | refine xE ?_ | refine xF ?_ | refine xG ?_) | go_skip | go_guarded | ((with_reducible refine wl_id ?_); refine wl_push rfl _ _ rfl w.heap.size (.slice av k cv) k ((sayL l x).take k) rfl (HO.out.alloc _) wr.heap.size a rfl (cell_new wr _ _) (by omega) (Nat.le_trans HB.size (by simp)) ?_; intro v9 w9 hO9 hg9 hl9; have HO9 := Lib.hid hO9; have HB9 := Lib.hid (below_grown (Below.alloc HB HB.size _) hg9 (fun q e => (HO.out.lt q e).1)); clear hO9 hg9 hl9; (try simp only [Act.put, qz4, qz5, qz6])) | go_values | go_skip | go_guarded | go_step | go_upon | go_back | ((with_reducible show Oper.upon _ _ _ _ _ _); go_simp) | (dsimp only)))
        refine ⟨⟨k + 1, by omega, by rw [← HDV.out]; go_num, by go_num, Lib.hid (by rw [HST.out]; exact HO9.out), HB9.out⟩, by simp [intOf]; omega⟩
      · rw [if_neg h1] at hst
        have HST := Lib.hid hst
        have f1 : (((X : Int) % 2) == 1) = false := by simp; omega
        clear hst h1
        (repeat (first | (with_reducible first | refine xA ?_ | refine xB ?_ | refine xC ?_ | refine xD ?_ | refine xH ?_ | refine xI rfl ?_ | refine xE ?_ | refine xF ?_ | refine xG ?_) | go_skip | go_guarded | ((with_reducible refine wl_id ?_); refine wl_push rfl _ _ rfl w.heap.size (.slice av k cv) k ((sayL l x).take k) rfl (HO.out.alloc _) wr.heap.size (-a) rfl (cell_new wr _ _) (by omega) (Nat.le_trans HB.size (by simp)) ?_; intro v9 w9 hO9 hg9 hl9; have HO9 := Lib.hid hO9; have HB9 := Lib.hid (below_grown (Below.alloc HB HB.size _) hg9 (fun q e => (HO.out.lt q e).1)); clear hO9 hg9 hl9; (try simp only [Act.put, qz4, qz5, qz6])) | go_values | go_skip | go_guarded | go_step | go_upon | go_back | ((with_reducible show Oper.upon _ _ _ _ _ _); go_simp) | (dsimp only)))
        refine ⟨⟨k + 1, by omega, by rw [← HDV.out]; go_num, by go_num, Lib.hid (by rw [HST.out]; exact HO9.out), HB9.out⟩, by simp [intOf]; omega⟩
    · obtain rfl : k = l.length := by omega
      have h9 := HO.out
      rw [List.take_of_length_le (by rw [sayL_len]; exact Nat.le_refl _)] at h9
      have H9 := Lib.hid h9
      clear h9
      (repeat (first | (with_reducible first | refine xA ?_ | refine xB ?_ | refine xC ?_ | refine xD ?_ | refine xH ?_ | refine xI rfl ?_ | refine xE ?_ | refine xF ?_ | refine xG ?_) | go_values | go_skip | go_guarded | go_step | go_upon | go_back | ((with_reducible show Oper.upon _ _ _ _ _ _); go_simp) | (dsimp only)))
      go_ret
      exact ⟨_, rfl, H9.out, HB⟩
end Go.Proofs.YtmaogkgjiplckaaGreat
namespace Go.Proofs.YtmaogkgjiplckaaGreat
open Go.RowKit
set_option maxHeartbeats 400000 in
theorem rkids_any (op : Int) (w : World) (h0 : 0 ≤ op) (h1 : op ≤ 24) :
    Calls Tryz.prog 41 #[.int .i64 op] w fun e w' => e = .returned (.int .i64 (kidsI op)) ∧ w = w' := by
  go_enter Tryz.func41, Tryz.ntmps41
  (repeat' (first | (with_reducible first | refine xA ?_ | refine xB ?_ | refine xC ?_ | refine xD ?_ | refine xH ?_ | refine xI rfl ?_ | refine xE ?_ | refine xF ?_ | refine xG ?_) | go_values | go_skip | go_guarded | go_step | go_upon | go_back | ((with_reducible show Oper.upon _ _ _ _ _ _); go_simp) | (dsimp only)))
  all_goals
    go_ret
    exact ⟨ret_int (by unfold kidsI; first | (simp_all; done) | (simp_all; omega)), rfl⟩
set_option maxHeartbeats 400000 in
theorem most_any (op wd n k0 k1 k2 : Int) (w : World) :
    Calls Tryz.prog 67 #[.agg #[.int .i64 op, .int .i64 wd, .int .u64 n, .int .i64 k0, .int .i64 k1, .int .i64 k2]] w fun e w' => e = .returned (.int .u64 (mostI op wd)) ∧ Below w.heap.size w w' := by
  go_enter Tryz.func67, Tryz.ntmps67
  (repeat' (first | (with_reducible first | refine xA ?_ | refine xB ?_ | refine xC ?_ | refine xD ?_ | refine xH ?_ | refine xI rfl ?_ | refine xE ?_ | refine xF ?_ | refine xG ?_) | go_values | go_skip | go_guarded | go_step | go_upon | go_back | ((with_reducible show Oper.upon _ _ _ _ _ _); go_simp) | (dsimp only)))
  all_goals
    go_ret
    exact ⟨ret_int (by unfold mostI; simp_all), by (repeat (first | with_reducible exact Below.refl _ _ | assumption | with_reducible refine below_drewN ?_ _ | with_reducible refine Below.drew ?_ | with_reducible refine Below.setRow ?_ ?_ _ | with_reducible refine Below.alloc ?_ ?_ _ | with_reducible refine Below.setCell ?_ ?_ _ | with_reducible exact Nat.le_refl _ | (focus (simp; done)) | (focus (simp; omega)) | omega))⟩
set_option maxHeartbeats 1000000 in
theorem width_any (op wd n k0 k1 k2 a b c : Int) (w : World) :
    Calls Tryz.prog 66 #[.agg #[.int .i64 op, .int .i64 wd, .int .u64 n, .int .i64 k0, .int .i64 k1, .int .i64 k2], .int .i64 a, .int .i64 b, .int .i64 c] w fun e w' => e = .returned (.int .i64 (widI op wd a b c)) ∧ Below w.heap.size w w' := by
  by_cases h3 : op = 3
  · subst h3
    go_enter Tryz.func66, Tryz.ntmps66
    (repeat' (first | (with_reducible first | refine xA ?_ | refine xB ?_ | refine xC ?_ | refine xD ?_ | refine xH ?_ | refine xI rfl ?_ | refine xE ?_ | refine xF ?_ | refine xG ?_) | go_values | go_skip | go_guarded | go_step | go_upon | go_back | ((with_reducible show Oper.upon _ _ _ _ _ _); go_simp) | (dsimp only)))
    all_goals
      go_ret
      exact ⟨ret_int (by unfold widI; simp_all), by (repeat (first | with_reducible exact Below.refl _ _ | assumption | with_reducible refine below_drewN ?_ _ | with_reducible refine Below.drew ?_ | with_reducible refine Below.setRow ?_ ?_ _ | with_reducible refine Below.alloc ?_ ?_ _ | with_reducible refine Below.setCell ?_ ?_ _ | with_reducible exact Nat.le_refl _ | (focus (simp; done)) | (focus (simp; omega)) | omega))⟩
  by_cases h4 : op = 4
  · subst h4
    go_enter Tryz.func66, Tryz.ntmps66
    (repeat' (first | (with_reducible first | refine xA ?_ | refine xB ?_ | refine xC ?_ | refine xD ?_ | refine xH ?_ | refine xI rfl ?_ | refine xE ?_ | refine xF ?_ | refine xG ?_) | go_values | go_skip | go_guarded | go_step | go_upon | go_back | ((with_reducible show Oper.upon _ _ _ _ _ _); go_simp) | (dsimp only)))
    all_goals
      go_ret
      exact ⟨ret_int (by unfold widI; simp_all), by (repeat (first | with_reducible exact Below.refl _ _ | assumption | with_reducible refine below_drewN ?_ _ | with_reducible refine Below.drew ?_ | with_reducible refine Below.setRow ?_ ?_ _ | with_reducible refine Below.alloc ?_ ?_ _ | with_reducible refine Below.setCell ?_ ?_ _ | with_reducible exact Nat.le_refl _ | (focus (simp; done)) | (focus (simp; omega)) | omega))⟩
  by_cases h19 : op = 19
  · subst h19
    go_enter Tryz.func66, Tryz.ntmps66
    (repeat' (first | (with_reducible first | refine xA ?_ | refine xB ?_ | refine xC ?_ | refine xD ?_ | refine xH ?_ | refine xI rfl ?_ | refine xE ?_ | refine xF ?_ | refine xG ?_) | go_values | go_skip | go_guarded | go_step | go_upon | go_back | ((with_reducible show Oper.upon _ _ _ _ _ _); go_simp) | (dsimp only)))
    all_goals
      go_ret
      exact ⟨ret_int (by unfold widI; simp_all), by (repeat (first | with_reducible exact Below.refl _ _ | assumption | with_reducible refine below_drewN ?_ _ | with_reducible refine Below.drew ?_ | with_reducible refine Below.setRow ?_ ?_ _ | with_reducible refine Below.alloc ?_ ?_ _ | with_reducible refine Below.setCell ?_ ?_ _ | with_reducible exact Nat.le_refl _ | (focus (simp; done)) | (focus (simp; omega)) | omega))⟩
  by_cases h20 : op = 20
  · subst h20
    go_enter Tryz.func66, Tryz.ntmps66
    (repeat' (first | (with_reducible first | refine xA ?_ | refine xB ?_ | refine xC ?_ | refine xD ?_ | refine xH ?_ | refine xI rfl ?_ | refine xE ?_ | refine xF ?_ | refine xG ?_) | go_values | go_skip | go_guarded | go_step | go_upon | go_back | ((with_reducible show Oper.upon _ _ _ _ _ _); go_simp) | (dsimp only)))
    all_goals
      go_ret
      exact ⟨ret_int (by unfold widI; simp_all), by (repeat (first | with_reducible exact Below.refl _ _ | assumption | with_reducible refine below_drewN ?_ _ | with_reducible refine Below.drew ?_ | with_reducible refine Below.setRow ?_ ?_ _ | with_reducible refine Below.alloc ?_ ?_ _ | with_reducible refine Below.setCell ?_ ?_ _ | with_reducible exact Nat.le_refl _ | (focus (simp; done)) | (focus (simp; omega)) | omega))⟩
  by_cases h21 : op = 21
  · subst h21
    go_enter Tryz.func66, Tryz.ntmps66
    (repeat' (first | (with_reducible first | refine xA ?_ | refine xB ?_ | refine xC ?_ | refine xD ?_ | refine xH ?_ | refine xI rfl ?_ | refine xE ?_ | refine xF ?_ | refine xG ?_) | go_values | go_skip | go_guarded | go_step | go_upon | go_back | ((with_reducible show Oper.upon _ _ _ _ _ _); go_simp) | (dsimp only)))
    all_goals
      go_ret
      exact ⟨ret_int (by unfold widI; simp_all), by (repeat (first | with_reducible exact Below.refl _ _ | assumption | with_reducible refine below_drewN ?_ _ | with_reducible refine Below.drew ?_ | with_reducible refine Below.setRow ?_ ?_ _ | with_reducible refine Below.alloc ?_ ?_ _ | with_reducible refine Below.setCell ?_ ?_ _ | with_reducible exact Nat.le_refl _ | (focus (simp; done)) | (focus (simp; omega)) | omega))⟩
  have f3 : (op == 3) = false := by simpa using h3
  have f4 : (op == 4) = false := by simpa using h4
  have f19 : (op == 19) = false := by simpa using h19
  have f20 : (op == 20) = false := by simpa using h20
  have f21 : (op == 21) = false := by simpa using h21
  go_enter Tryz.func66, Tryz.ntmps66
  (repeat' (first | (with_reducible first | refine xA ?_ | refine xB ?_ | refine xC ?_ | refine xD ?_ | refine xH ?_ | refine xI rfl ?_ | refine xE ?_ | refine xF ?_ | refine xG ?_) | go_values | go_skip | go_guarded | go_step | go_upon | go_back | ((with_reducible show Oper.upon _ _ _ _ _ _); go_simp) | (dsimp only)))
  all_goals
    go_ret
    exact ⟨ret_int (by unfold widI; simp_all), by (repeat (first | with_reducible exact Below.refl _ _ | assumption | with_reducible refine below_drewN ?_ _ | with_reducible refine Below.drew ?_ | with_reducible refine Below.setRow ?_ ?_ _ | with_reducible refine Below.alloc ?_ ?_ _ | with_reducible refine Below.setCell ?_ ?_ _ | with_reducible exact Nat.le_refl _ | (focus (simp; done)) | (focus (simp; omega)) | omega))⟩
end Go.Proofs.YtmaogkgjiplckaaGreat
namespace Go.Proofs.YtmaogkgjiplckaaGreat
open Go.RowKit
theorem wide_iff {op wd a b c : Int} (h0 : 0 ≤ op) (h1 : op ≤ 24) (ha : 0 ≤ a) (hb : 0 ≤ b) : (widI op wd a b c = wd ∧ 0 ≤ wd) ↔ wideB op wd a b c = true := by
  have : op = 0 ∨ op = 1 ∨ op = 2 ∨ op = 3 ∨ op = 4 ∨ op = 5 ∨ op = 6 ∨ op = 7 ∨ op = 19 ∨ op = 20 ∨ op = 21 ∨ op = 22 ∨ op = 23 ∨ op = 24 ∨ (8 ≤ op ∧ op ≤ 18) := by omega
  rcases this with rfl | rfl | rfl | rfl | rfl | rfl | rfl | rfl | rfl | rfl | rfl | rfl | rfl | rfl | ⟨h2, h3⟩
  case inr.inr.inr.inr.inr.inr.inr.inr.inr.inr.inr.inr.inr.inr =>
    have e1 : wideB op wd a b c = (a != 0 && a == b && wd == a) := by
      have hk : ¬ kidsI op = 0 := by
        unfold kidsI
        rw [if_neg (by omega), if_neg (by omega), if_pos (by omega)]; decide
      unfold wideB
      rw [if_neg (by omega), if_neg (by omega), if_neg (by omega), if_neg (by omega), if_neg (by omega), if_neg (by omega), if_neg (by omega), if_neg hk]
    have e2 : widI op wd a b c = if a ≠ 0 ∧ a = b then a else -1 := by
      unfold widI
      rw [if_neg (by omega), if_neg (by omega), if_neg (by omega), if_neg (by omega), if_neg (by omega), if_neg (by omega), if_neg (by omega), if_neg (by omega), if_neg (by omega), if_neg (by omega), if_neg (by omega)]
    rw [e1, e2]
    simp only [Bool.and_eq_true, bne_iff_ne, beq_iff_eq]
    split <;> omega
  all_goals
    simp [widI, wideB, kidsI, leafB]
    try omega
    try (split <;> simp_all <;> omega)
theorem num_iff {op wd n a b c : Int} (hw : wideB op wd a b c = true) (hn : 0 ≤ n) (hn' : n < 18446744073709551616) : numB op wd n = !decide (mostI op wd < n) := by
  rw [Bool.eq_iff_iff]
  by_cases h0 : op = 0
  · have := wide0 (by rw [hw]; rfl) h0
    subst h0
    rcases this with rfl | rfl | rfl <;> simp [numB, mostI] <;> omega
  · simp only [numB, mostI, if_neg h0]
    split
    · simp; omega
    · split
      · simp; omega
      · simp; omega
end Go.Proofs.YtmaogkgjiplckaaGreat

