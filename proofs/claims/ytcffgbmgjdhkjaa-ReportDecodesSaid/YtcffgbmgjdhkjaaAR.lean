import Derived.Test.YtcffgbmgjdhkjaaAQ
set_option linter.unusedSimpArgs false
set_option linter.unusedVariables false
namespace Go.Proofs.Ytcffgbmgjdhkjaa
open Go.RowKit

/-! the document's reader: fault, num -/
theorem size56 : (Try.prog.info? 56).map (·.size) = some 4 := by kernel_rfl
theorem twoAlloc (w : World) (A B : Obj) : ((w.alloc A).alloc B).heap[w.heap.size + 1]? = (((w.alloc A).alloc B).heap[(w.alloc A).heap.size]?) := by simp
theorem alloc2 (w : World) (A B : Array Value) (S T : TypeId) : ((w.alloc (.cells A S)).alloc (.cells B T)).heap[w.heap.size]? = some (.cells A S (0, 0)) ∧ ((w.alloc (.cells A S)).alloc (.cells B T)).heap[w.heap.size + 1]? = some (.cells B T (0, 0)) :=
  ⟨(Below.heap_alloc (w.alloc (.cells A S)) _ _ (by simp)).trans (heap_alloc_new w _), by simpa using heap_alloc_new (w.alloc (.cells A S)) (.cells B T)⟩
abbrev src (ao : Option Addr) (n c : Nat) (a E B : Int) : Value := .agg #[.slice ao n c, .int .i64 a, .int .i64 E, .int .i64 B]
theorem fault_any (ao : Option Addr) (n c : Nat) (at' B e p : Int) (w : World) :
    Calls Try.prog 28 #[src ao n c at' 0 B, .int .i64 e, .int .i64 p] w fun en w' => en = .returned (src ao n c at' e p) ∧ Below w.heap.size w w' := by
  go_enter Try.func28, Try.ntmps28
  (repeat (first | with_reducible refine xThenN ?_ | with_reducible refine xThenE ?_ | with_reducible refine xThenR ?_ | with_reducible refine xThenP ?_ | with_reducible refine xBlockEq ?_ | with_reducible refine xBlockNe rfl ?_ | with_reducible refine xBlockN ?_ | with_reducible refine xBlockR ?_ | with_reducible refine xBlockP ?_ | go_values | go_skip | go_guarded | go_step | go_upon | go_back | (dsimp only)))
  exact bodyPost_ret (results_cell_row rfl _ _ _ _ _ _ _ rfl (alloc2 _ _ _ _ _).2 Try.underlying56 rfl size56) rfl ⟨rfl, by (repeat (first | with_reducible exact Below.refl _ _ | assumption | with_reducible refine below_drewN ?_ _ | with_reducible refine Below.drew ?_ | with_reducible refine Below.setRow ?_ ?_ _ | with_reducible refine Below.alloc ?_ ?_ _ | with_reducible refine Below.setCell ?_ ?_ _ | with_reducible exact Nat.le_refl _ | (focus (simp; done)) | (focus (simp; omega)) | omega))⟩

theorem res26 (tmps : Array Value) (w : World) (g : Nat) (cs : Array Value) (x : Value) (h8 : tmps.getD 8 undef = .pointer (some ⟨g, 0, none⟩)) (h9 : tmps.getD 9 undef = x) (HO : w.heap[g]? = some (.cells cs 56 (0, 0))) (hs : cs.size = 4) :
    (results Try.f26 tmps).run Try.prog w = .ok (.tuple #[.agg cs, x]) w := by
  have h2' : tmps[8]?.getD undef = .pointer (some ⟨g, 0, none⟩) := by simpa using h8
  have h3' : tmps[9]?.getD undef = x := by simpa using h9
  have r1 := run_loadVar_row (P := Try.prog) w g 56 56 cs (0, 0) _ HO Try.underlying56 rfl (by rw [hs]; exact size56)
  simp [results, Try.results26, h2', h3', asAddr, r1]
/-- with a fault already, nothing happens -/
theorem snum_idle (ao : Option Addr) (n c : Nat) (at' E B N lo hi : Int) (w : World) (fz : (E != 0) = true) :
    Calls Try.prog 26 #[src ao n c at' E B, .int .i64 N, .int .u64 lo, .int .u64 hi] w fun en w' => en = .returned (.tuple #[src ao n c at' E B, .int .u64 0]) ∧ Below w.heap.size w w' := by
  go_enter Try.func26, Try.ntmps26
  (repeat (first | with_reducible refine xThenN ?_ | with_reducible refine xThenE ?_ | with_reducible refine xThenR ?_ | with_reducible refine xThenP ?_ | with_reducible refine xBlockEq ?_ | with_reducible refine xBlockNe rfl ?_ | with_reducible refine xBlockN ?_ | with_reducible refine xBlockR ?_ | with_reducible refine xBlockP ?_ | go_values | go_skip | go_guarded | go_step | go_upon | go_back | (dsimp only)))
  exact bodyPost_ret (res26 _ _ _ _ _ rfl rfl (alloc2 _ _ _ _ _).2 rfl) rfl ⟨rfl, by (repeat (first | with_reducible exact Below.refl _ _ | assumption | with_reducible refine below_drewN ?_ _ | with_reducible refine Below.drew ?_ | with_reducible refine Below.setRow ?_ ?_ _ | with_reducible refine Below.alloc ?_ ?_ _ | with_reducible refine Below.setCell ?_ ?_ _ | with_reducible exact Nat.le_refl _ | (focus (simp; done)) | (focus (simp; omega)) | omega))⟩

set_option maxRecDepth 100000 in
theorem snum_short (ao : Option Addr) (c : Nat) (b : List Int) (at' B N lo hi : Int) (w : World) (h0 : 0 ≤ at') (h1 : at' ≤ b.length) (hl : (b.length : Int) ≤ 1000000000) (hN : 0 ≤ N) (hN8 : N ≤ 8) (hs : b.length - at' < N) :
    Calls Try.prog 26 #[src ao b.length c at' 0 B, .int .i64 N, .int .u64 lo, .int .u64 hi] w fun en w' => en = .returned (.tuple #[src ao b.length c at' 1 b.length, .int .u64 0]) ∧ Below w.heap.size w w' := by
  have H4 := (alloc2 w #[.slice ao b.length c, .int .i64 at', .int .i64 0, .int .i64 B] #[.slice none 0 0, .int .i64 0, .int .i64 0, .int .i64 0] 56 56).1; have H8 := (alloc2 w #[.slice ao b.length c, .int .i64 at', .int .i64 0, .int .i64 B] #[.slice none 0 0, .int .i64 0, .int .i64 0, .int .i64 0] 56 56).2; have HB := Below.alloc (Below.alloc (Below.refl w.heap.size w) (Nat.le_refl _) (.cells #[.slice ao b.length c, .int .i64 at', .int .i64 0, .int .i64 B] 56)) (by simp) (.cells #[.slice none 0 0, .int .i64 0, .int .i64 0, .int .i64 0] 56)
  go_enter Try.func26, Try.ntmps26
  (repeat (first | with_reducible refine xThenN ?_ | with_reducible refine xThenE ?_ | with_reducible refine xThenR ?_ | with_reducible refine xThenP ?_ | with_reducible refine xBlockEq ?_ | with_reducible refine xBlockNe rfl ?_ | with_reducible refine xBlockN ?_ | with_reducible refine xBlockR ?_ | with_reducible refine xBlockP ?_ | (go_at_call 28; (with_reducible refine (fault_any _ _ _ _ _ _ _ _).mono ?_); rintro _ w1 ⟨rfl, hb⟩; replace H4 := (hb.block _ (lt_of_block H4)).trans H4; replace H8 := (hb.block _ (lt_of_block H8)).trans H8; replace HB := HB.trans (hb.mono HB.size); clear hb) | ((with_reducible refine wl_id ?_); refine wl_store_row rfl 56 _ _ rfl _ rfl _ _ 56 rfl H8 size56 rfl (by simp [Value.oneCell']) ?_; intro w2 H82 hg2; replace HB := Below.grown HB hg2 HB.size (fun k hk => by injection hk with hk; omega); (try simp only [Act.put, List.setIfInBounds_toArray, List.set_cons_succ, List.set_cons_zero])) | go_values | go_skip | go_guarded | go_step | go_upon | go_back | (dsimp only)))
  exact bodyPost_ret (res26 _ _ _ _ _ rfl rfl H82 rfl) rfl ⟨rfl, HB⟩

set_option maxRecDepth 100000 in
theorem snum_long (ao : Option Addr) (c : Nat) (b : List Int) (at' B N lo hi : Int) (w : World) (hS : SlIs 1 u8c w (.slice ao b.length c) b) (hby : ByteL b) (h0 : 0 ≤ at') (h1 : at' ≤ b.length) (hl : (b.length : Int) ≤ 1000000000) (hN : 0 ≤ N) (hN8 : N ≤ 8) (hs : N ≤ b.length - at') (x : Int) (hx : Hid (beV (SubB b at'.toNat N.toNat) = x)) :
    Calls Try.prog 26 #[src ao b.length c at' 0 B, .int .i64 N, .int .u64 lo, .int .u64 hi] w fun en w' => Below w.heap.size w w' ∧ ((x < lo ∨ hi < x) → en = .returned (.tuple #[src ao b.length c at' 3 at', .int .u64 0])) ∧
      (¬ (x < lo ∨ hi < x) → en = .returned (.tuple #[src ao b.length c (at' + N) 0 B, .int .u64 x])) := by
  obtain ⟨A, rfl⟩ := Int.eq_ofNat_of_zero_le h0
  obtain ⟨M, rfl⟩ := Int.eq_ofNat_of_zero_le hN
  rw [Int.toNat_natCast, Int.toNat_natCast] at hx
  have hlen : (SubB b A M).length = M := SubB_len (by omega)
  have hbyt : ByteL (SubB b A M) := SubB_byte hby
  have Hbyt := Lib.hid hbyt
  have Hlen := Lib.hid hlen
  have hl8 : (SubB b A M).length ≤ 8 := by omega
  have Hs : Hid (∀ k x, (SubB b A M)[k]? = some x → b[A + k]? = some x) := Lib.hid (by
    intro k x h
    unfold SubB at h
    rw [List.getElem?_take] at h
    split at h
    · rwa [List.getElem?_drop] at h
    · cases h)
  clear hbyt hlen hby
  obtain ⟨at', hat⟩ : ∃ at' : Int, at' = A := ⟨_, rfl⟩
  rw [← hat]
  have H4 := (alloc2 w #[.slice ao b.length c, .int .i64 at', .int .i64 0, .int .i64 B] #[.slice none 0 0, .int .i64 0, .int .i64 0, .int .i64 0] 56 56).1; have H8 := (alloc2 w #[.slice ao b.length c, .int .i64 at', .int .i64 0, .int .i64 B] #[.slice none 0 0, .int .i64 0, .int .i64 0, .int .i64 0] 56 56).2; have HB := Below.alloc (Below.alloc (Below.refl w.heap.size w) (Nat.le_refl _) (.cells #[.slice ao b.length c, .int .i64 at', .int .i64 0, .int .i64 B] 56)) (by simp) (.cells #[.slice none 0 0, .int .i64 0, .int .i64 0, .int .i64 0] 56)
  rw [hat] at H4 H8 HB ⊢
  clear hat at'
  go_enter Try.func26, Try.ntmps26
  (repeat (first | with_reducible refine xThenN ?_ | with_reducible refine xThenE ?_ | with_reducible refine xThenR ?_ | with_reducible refine xThenP ?_ | with_reducible refine xBlockEq ?_ | with_reducible refine xBlockNe rfl ?_ | with_reducible refine xBlockN ?_ | with_reducible refine xBlockR ?_ | with_reducible refine xBlockP ?_ | go_values | go_skip | go_guarded | go_step | go_upon | go_back | (dsimp only)))
  generalize SubB b A M = bs at hx Hbyt Hlen hl8 Hs ⊢
  go_loop [10, 11] (fun y i => ∃ (k : Nat), k ≤ bs.length ∧ i = .int .i64 k ∧ y = .int .u64 (beV (bs.take k))) (fun _ i => bs.length - (intOf i).toNat)
  case atStart => exact ⟨0, by omega, rfl, by simp [beV]⟩
  case round =>
    obtain ⟨k, hk, rfl, rfl⟩ := hrel
    rcases Nat.lt_or_ge k bs.length with hlt | hge
    · obtain ⟨ch, hc⟩ : ∃ c, bs[k]? = some c := ⟨_, List.getElem?_eq_getElem hlt⟩
      obtain ⟨e1, e2, e3, e4, e5⟩ := beV_step bs Hbyt.out k ch hc hl8
      obtain ⟨bb, o, rfl, HR⟩ := hS.row (by have := Hlen.out; omega)
      have hce := cell_keep HB (HR (A + k) ch (Hs.out k ch hc) 0 _ rfl)
      simp only [Nat.one_mul, Nat.add_zero] at hce
      have E1 := Lib.hid e1
      have hkM : (k : Int) < M := by have := Hlen.out; omega
      have hAk : (A : Int) + k < b.length := by omega
      have hAk0 : (0 : Int) ≤ (A : Int) + k := by omega
      have hor := or256 _ _ e2 e3 e4 e5
      clear e1 hc
      (repeat (first | with_reducible refine xThenN ?_ | with_reducible refine xThenE ?_ | with_reducible refine xThenR ?_ | with_reducible refine xThenP ?_ | with_reducible refine xBlockEq ?_ | with_reducible refine xBlockNe rfl ?_ | with_reducible refine xBlockN ?_ | with_reducible refine xBlockR ?_ | with_reducible refine xBlockP ?_ | go_values | go_skip | go_guarded | go_step | go_upon | go_back | (dsimp only)))
      exact ⟨⟨k + 1, by omega, by go_num, by rw [E1.out]⟩, by simp [intOf]; omega⟩
    · have hkk : bs.take k = bs := List.take_of_length_le hge
      rw [hkk, hx.out]
      have hkM : k = M := by have := Hlen.out; omega
      subst hkM
      clear hkk
      by_cases t1 : x < lo
      · (repeat (first | with_reducible refine xThenN ?_ | with_reducible refine xThenE ?_ | with_reducible refine xThenR ?_ | with_reducible refine xThenP ?_ | with_reducible refine xBlockEq ?_ | with_reducible refine xBlockNe rfl ?_ | with_reducible refine xBlockN ?_ | with_reducible refine xBlockR ?_ | with_reducible refine xBlockP ?_ | (go_at_call 28; (with_reducible refine (fault_any _ _ _ _ _ _ _ _).mono ?_); rintro _ w1 ⟨rfl, hb⟩; replace H4 := (hb.block _ (lt_of_block H4)).trans H4; replace H8 := (hb.block _ (lt_of_block H8)).trans H8; replace HB := HB.trans (hb.mono HB.size); clear hb) | ((with_reducible refine wl_id ?_); refine wl_store_row rfl 56 _ _ rfl _ rfl _ _ 56 rfl H8 size56 rfl (by simp [Value.oneCell']) ?_; intro w2 H82 hg2; replace HB := Below.grown HB hg2 HB.size (fun k hk => by injection hk with hk; omega); (try simp only [Act.put, List.setIfInBounds_toArray, List.set_cons_succ, List.set_cons_zero])) | go_values | go_skip | go_guarded | go_step | go_upon | go_back | (dsimp only)))
        exact bodyPost_ret (res26 _ _ _ _ _ rfl rfl H82 rfl) rfl ⟨HB, fun _ => rfl, fun h => absurd (.inl t1) h⟩
      · by_cases t2 : hi < x
        · (repeat (first | with_reducible refine xThenN ?_ | with_reducible refine xThenE ?_ | with_reducible refine xThenR ?_ | with_reducible refine xThenP ?_ | with_reducible refine xBlockEq ?_ | with_reducible refine xBlockNe rfl ?_ | with_reducible refine xBlockN ?_ | with_reducible refine xBlockR ?_ | with_reducible refine xBlockP ?_ | (go_at_call 28; (with_reducible refine (fault_any _ _ _ _ _ _ _ _).mono ?_); rintro _ w1 ⟨rfl, hb⟩; replace H4 := (hb.block _ (lt_of_block H4)).trans H4; replace H8 := (hb.block _ (lt_of_block H8)).trans H8; replace HB := HB.trans (hb.mono HB.size); clear hb) | ((with_reducible refine wl_id ?_); refine wl_store_row rfl 56 _ _ rfl _ rfl _ _ 56 rfl H8 size56 rfl (by simp [Value.oneCell']) ?_; intro w2 H82 hg2; replace HB := Below.grown HB hg2 HB.size (fun k hk => by injection hk with hk; omega); (try simp only [Act.put, List.setIfInBounds_toArray, List.set_cons_succ, List.set_cons_zero])) | go_values | go_skip | go_guarded | go_step | go_upon | go_back | (dsimp only)))
          exact bodyPost_ret (res26 _ _ _ _ _ rfl rfl H82 rfl) rfl ⟨HB, fun _ => rfl, fun h => absurd (.inr t2) h⟩
        · (repeat (first | with_reducible refine xThenN ?_ | with_reducible refine xThenE ?_ | with_reducible refine xThenR ?_ | with_reducible refine xThenP ?_ | with_reducible refine xBlockEq ?_ | with_reducible refine xBlockNe rfl ?_ | with_reducible refine xBlockN ?_ | with_reducible refine xBlockR ?_ | with_reducible refine xBlockP ?_ | go_values | go_skip | go_guarded | go_step | go_upon | go_back | (dsimp only)))
          exact bodyPost_ret (res26 _ _ _ _ _ rfl rfl (alloc2 _ _ _ _ _).2 rfl) rfl ⟨by (repeat (first | with_reducible exact Below.refl _ _ | assumption | with_reducible refine below_drewN ?_ _ | with_reducible refine Below.drew ?_ | with_reducible refine Below.setRow ?_ ?_ _ | with_reducible refine Below.alloc ?_ ?_ _ | with_reducible refine Below.setCell ?_ ?_ _ | with_reducible exact Nat.le_refl _ | (focus (simp; done)) | (focus (simp; omega)) | omega)), fun h => absurd h (by omega), fun _ => rfl⟩

/-- the reader's number: its state, and what is read -/
def numS (b : List Int) (s : Int × Int × Int) (N lo hi : Int) : (Int × Int × Int) × Int :=
  if s.2.1 ≠ 0 then (s, 0) else match numP b s.1 N lo hi with
    | .ok x p => ((p, 0, s.2.2), x)
    | .err E p => ((s.1, E, p), 0)
structure SIn (w0 : World) (vb : Value) (b : List Int) : Prop where
  sl : SlIs 1 u8c w0 vb b
  byte : ByteL b
  len : (b.length : Int) ≤ 1000000000
theorem SIn.below {w w' : World} {vb : Value} {b : List Int} (h : SIn w vb b) (hb : Below w.heap.size w w') : SIn w' vb b := ⟨h.sl.below hb, h.byte, h.len⟩
theorem snum_any (ao : Option Addr) (c : Nat) (b : List Int) (a E B N lo hi : Int) (w : World) (hI : SIn w (.slice ao b.length c) b) (h0 : E = 0 → 0 ≤ a ∧ a ≤ b.length) (hN : 0 ≤ N) (hN8 : N ≤ 8) (a' E' B' x : Int) (hr : Hid (numS b (a, E, B) N lo hi = ((a', E', B'), x))) :
    Calls Try.prog 26 #[src ao b.length c a E B, .int .i64 N, .int .u64 lo, .int .u64 hi] w fun en w' => en = .returned (.tuple #[src ao b.length c a' E' B', .int .u64 x]) ∧ Below w.heap.size w w' := by
  have hr := hr.out
  unfold numS at hr
  dsimp only at hr
  by_cases hz : E = 0
  · subst hz
    rw [if_neg (by simp)] at hr
    have h0 := h0 rfl
    unfold numP at hr
    split at hr
    · rename_i x0 p0 e0
      split at e0
      · cases e0
      · rename_i g1
        split at e0
        · cases e0
        · rename_i g2
          injection e0 with q1 q2
          subst q1; subst q2
          injection hr with q1 q2
          injection q1 with q1 q3
          injection q3 with q3 q4
          subst q1; subst q2; subst q3; subst q4
          exact (snum_long ao c b a B N lo hi w hI.sl hI.byte h0.1 h0.2 hI.len hN hN8 (by omega) _ (Lib.hid rfl)).mono fun en w' h => ⟨h.2.2 g2, h.1⟩
    · rename_i E0 p0 e0
      injection hr with q1 q2
      injection q1 with q1 q3
      injection q3 with q3 q4
      split at e0
      · rename_i g1
        injection e0 with q5 q6
        subst q1; subst q2; subst q3; subst q4; subst q5; subst q6
        exact snum_short ao c b a B N lo hi w h0.1 h0.2 hI.len hN hN8 g1
      · rename_i g1
        split at e0
        · rename_i g2
          injection e0 with q5 q6
          subst q1; subst q2; subst q3; subst q4; subst q5; subst q6
          exact (snum_long ao c b a B N lo hi w hI.sl hI.byte h0.1 h0.2 hI.len hN hN8 (by omega) _ (Lib.hid rfl)).mono fun en w' h => ⟨h.2.1 g2, h.1⟩
        · cases e0
  · rw [if_pos hz] at hr
    injection hr with q1 q2
    injection q1 with q1 q3
    injection q3 with q3 q4
    subst q1; subst q2; subst q3; subst q4
    exact snum_idle ao b.length c a E B N lo hi w (by simpa using hz)
theorem numS_bd {b : List Int} {a E B N lo hi a' E' B' x : Int} (hb : ByteL b) (hr : numS b (a, E, B) N lo hi = ((a', E', B'), x)) (h0 : E = 0 → 0 ≤ a ∧ a ≤ b.length) (hN : 0 ≤ N) (hh : 0 ≤ hi) : 0 ≤ x ∧ x ≤ hi ∧ (E' = 0 → 0 ≤ a' ∧ a' ≤ b.length) := by
  unfold numS at hr
  dsimp only at hr
  split at hr
  · rename_i hz
    injection hr with q1 q2
    injection q1 with q1 q3
    injection q3 with q3 q4
    subst q2; subst q3
    exact ⟨Int.le_refl _, hh, fun h => absurd h hz⟩
  · rename_i hz
    have h0 := h0 (by simpa using hz)
    split at hr
    · rename_i x0 p0 e0
      have := numP_n hb e0 h0.1 hN
      injection hr with q1 q2
      injection q1 with q1 q3
      subst q1; subst q2
      exact ⟨this.2.2.2.2, this.2.2.2.1, fun _ => ⟨this.1, this.2.1⟩⟩
    · rename_i E0 p0 e0
      injection hr with q1 q2
      injection q1 with q1 q3
      injection q3 with q3 q4
      subst q1; subst q2; subst q3
      refine ⟨Int.le_refl _, hh, fun h => ?_⟩
      rcases numP_err e0 with ⟨rfl, _⟩ | ⟨rfl, _⟩ <;> cases h

end Go.Proofs.Ytcffgbmgjdhkjaa
