import Derived.Test.YtcffgbmgjdhkjaaM
import Derived.Deep.RegionLaw
import Derived.Deep.AppendLies
import Derived.Deep.RegionHeld3
import Derived.StillTactics
import Derived.Laws.Pointers
import Derived.OneCell
set_option linter.unusedSimpArgs false
set_option linter.unusedVariables false
namespace Go.Proofs.Ytcffgbmgjdhkjaa
open Go.RowKit

theorem u8s_snoc (bs : List Int) (c : Int) : u8s (bs ++ [c]) = u8s bs ++ [.int .u8 c] := by simp [u8s]
theorem u8s_append (a b : List Int) : u8s (a ++ b) = u8s a ++ u8s b := by simp [u8s]
theorem u8s_length (a : List Int) : (u8s a).length = a.length := by simp [u8s]

/-- bytes that the call owns: a row that may grow in place, or a full one -/
def Owns (w : World) (base : Nat) (v : Value) (bs : List Int) : Prop :=
  w.ownsRow base 5 1 v bs.length (u8s bs) ∨ ∃ g cs fz, v = .slice (some ⟨g, 0, none⟩) bs.length bs.length ∧ base ≤ g ∧ w.heap[g]? = some (.cells cs 5 fz) ∧ cs.toList = u8s bs ∧ bs ≠ []

section
variable {w : World} {base : Nat} {v : Value} {bs : List Int}
theorem Owns.lt (h : Owns w base v bs) : ∀ k, v.ownBlock = some k → base ≤ k ∧ k < w.heap.size := by
  rcases h with h | ⟨g, cs, fz, rfl, hb, hg, _⟩
  · exact h.lt
  · intro k hk
    simp only [Value.ownBlock, Option.some.injEq] at hk
    subst hk
    exact ⟨hb, (Array.getElem?_eq_some_iff.1 hg).1⟩
theorem Owns.ty (h : Owns w base v bs) : ∀ k, v.ownBlock = some k → ∃ cur fr, w.heap[k]? = some (.cells cur 5 fr) := by
  rcases h with h | ⟨g, cs, fz, rfl, hb, hg, _⟩
  · intro k hk
    rcases h.2 with ⟨rfl, _⟩ | ⟨g, c, cur, rfl, _, hh, _⟩
    · cases hk
    · simp only [Value.ownBlock, Option.some.injEq] at hk
      subst hk
      exact ⟨_, _, hh⟩
  · intro k hk
    simp only [Value.ownBlock, Option.some.injEq] at hk
    subst hk
    exact ⟨_, _, hg⟩
theorem Owns.same {w' : World} (h : Owns w base v bs) (hs : ∀ k, v.ownBlock = some k → w'.heap[k]? = w.heap[k]?) : Owns w' base v bs := by
  rcases h with h | ⟨g, cs, fz, rfl, hb, hg, r⟩
  · left
    refine ⟨h.1, ?_⟩
    rcases h.2 with hn | ⟨g, c, cur, rfl, hb, hh, r⟩
    · exact .inl hn
    · exact .inr ⟨g, c, cur, rfl, hb, (hs g rfl).trans hh, r⟩
  · exact .inr ⟨g, cs, fz, rfl, hb, (hs g rfl).trans hg, r⟩
theorem Owns.form (h : Owns w base v bs) (hn : 0 < bs.length) : ∃ g cap, v = .slice (some ⟨g, 0, none⟩) bs.length cap ∧ bs.length ≤ cap ∧ base ≤ g ∧ RowAt 1 u8c w g 0 bs := by
  rcases h with h | ⟨g, cs, fz, rfl, hb, hg, hc, _⟩
  · rcases h.2 with ⟨_, h0⟩ | ⟨g, c, cur, rfl, hb, hh, hnc, _⟩
    · omega
    · refine ⟨g, c, rfl, hnc, hb, fun i x hi j u hj => ?_⟩
      obtain ⟨rfl, rfl⟩ : j = 0 ∧ u = .int .u8 x := by
        rcases j with _ | j
        · exact ⟨rfl, by simpa [u8c] using hj.symm⟩
        · simp [u8c] at hj
      have := h.cells (g := g) rfl i (.int .u8 x) (by simp [u8s, hi])
      rcases i with _ | i
      · simpa [Addr.add] using this
      · simpa [Addr.add] using this
  · refine ⟨g, _, rfl, Nat.le_refl _, hb, fun i x hi j u hj => ?_⟩
    obtain ⟨rfl, rfl⟩ : j = 0 ∧ u = .int .u8 x := by
      rcases j with _ | j
      · exact ⟨rfl, by simpa [u8c] using hj.symm⟩
      · simp [u8c] at hj
    have e : cs[i]? = some (.int .u8 x) := by
      rw [← Array.getElem?_toList, hc]
      simp [u8s, hi]
    simp [World.cell?, hg, e]
end

section
variable {P : Program} (w : World)
theorem run_append_owns (t ty : TypeId) (base : Nat) (i : TypeInfo) (ht : P.underlying t = some (.slice 5)) (hi : P.info? 5 = some i) (hz : i.zero = some (.int .u8 0)) (hsize : i.size = 1) (hby : i.bytes = 1)
    (v : Value) (bs : List Int) (hown : Owns w base v bs) (ad : Addr) (m c : Nat) (cs : List Int) (hl : cs.length = m) (hnews : ∀ j u, (u8s cs)[j]? = some u → w.cell? (ad.add j) = some u)
    (hm : 0 < m) (h63 : bs.length + m ≤ 2000000000) (hbase : base ≤ w.heap.size) :
    ∃ g cap w', (Builtin.append_ #[t, t] ty #[v, .slice (some ad) m c]).run P w = .ok (.slice (some ⟨g, 0, none⟩) (bs.length + m) cap) w' ∧
      w'.ownsRow base 5 1 (.slice (some ⟨g, 0, none⟩) (bs.length + m) cap) (bs.length + m) (u8s bs ++ u8s cs) ∧ w.grownBy w' v.ownBlock ∧ g < w'.heap.size := by
  have h1 : ∀ u ∈ u8s cs, u.oneCell' = true := by
    intro u hu
    simp only [u8s, List.mem_map] at hu
    obtain ⟨x, _, rfl⟩ := hu
    rfl
  rcases hown with h | ⟨g, cur, fz, rfl, hb, hg, hc, hne⟩
  · obtain ⟨g, cap, w', hr, h2, h3, _, h5⟩ := run_append_lies (P := P) w t ty base 5 i (.int .u8 0) 1 1 ht hi hz hsize hby rfl (by decide) v bs.length (u8s bs) h ad m c (u8s cs) (by rw [u8s_length]; omega) hnews h1 hm (by simp only [maxLen]; omega) (by omega) hbase _ rfl
    exact ⟨g, cap, w', hr, h2, h3, h5⟩
  · have hpos := List.length_pos_iff.2 hne
    have holds : ∀ j u, (u8s bs)[j]? = some u → w.cell? ((⟨g, 0, none⟩ : Addr).add j) = some u := by
      intro j u hj
      rw [← hc, Array.getElem?_toList] at hj
      rcases j with _ | j
      · simp [Addr.add, World.cell?, hg, hj]
      · simp [Addr.add, World.cell?, hg, hj]
    have hr := run_append_grow (P := P) w t ty 5 i (.int .u8 0) ht hi hz ⟨g, 0, none⟩ bs.length bs.length (u8s bs) (by rw [hsize, u8s_length]; omega) holds ad m c (u8s cs) (by rw [hsize, u8s_length]; omega) hnews (by omega) (by omega) (growslice_fits (by omega) (by rw [hby]; omega))
    have hge := grownCap_ge w (bs.length + m) bs.length 5
    have hcm := grownCap_le_maxLen w (bs.length + m) bs.length 5 (by simp only [maxLen]; omega)
    refine ⟨_, _, _, hr, ⟨by rw [List.length_append, u8s_length, u8s_length]; omega, .inr ⟨w.heap.size, _, _, rfl, hbase, heap_alloc_new w.drew _, hge, hcm, ?_, ?_⟩⟩, ⟨rfl, rfl, rfl, by simp, fun k hk _ => Below.heap_alloc w.drew _ k hk⟩, by simp⟩
    · simp only [Array.size_append, List.size_toArray, size_zeroCells, u8s_length, Value.cells]
      simp
      omega
    · simp only [Array.toList_append]
      rw [Nat.mul_one]
      have e : bs.length + m = (u8s bs ++ u8s cs).length := by rw [List.length_append, u8s_length, u8s_length]; omega
      rw [e]
      exact List.take_left

theorem step_append_owns {ops : Array Oper} {o : Oper} {a : Act} {K : Act → World → Prop} {Q : Exit → Act → World → Prop} {E : Prop} (hgd : o.guard = none) (s x : Operand) (t : TypeId)
    (ho : o.op = .call { callee := .builtin .append, args := #[s, x], argTypes := #[t, t] })
    (base : Nat) (i : TypeInfo) (ht : P.underlying t = some (.slice 5)) (hi : P.info? 5 = some i) (hz : i.zero = some (.int .u8 0)) (hsize : i.size = 1) (hby : i.bytes = 1)
    (v : Value) (bs : List Int) (hs : a.eval s = v) (hown : Owns w base v bs)
    (ad : Addr) (m c : Nat) (cs : List Int) (hx : a.eval x = .slice (some ad) m c) (hl : cs.length = m) (hnews : ∀ j u, (u8s cs)[j]? = some u → w.cell? (ad.add j) = some u)
    (hm : 0 < m) (h63 : bs.length + m ≤ 2000000000) (hbase : base ≤ w.heap.size)
    (h : ∀ g cap w', w'.ownsRow base 5 1 (.slice (some ⟨g, 0, none⟩) (bs.length + m) cap) (bs.length + m) (u8s bs ++ u8s cs) → w.grownBy w' v.ownBlock → g < w'.heap.size → K (a.put o.dst (.slice (some ⟨g, 0, none⟩) (bs.length + m) cap)) w') :
    if Region.wanted o (yielded ops a.tmps) = true then Oper.wp P o a w K Q else E := by
  have hw : Region.wanted o (yielded ops a.tmps) = true := by simp [Region.wanted, hgd]
  rw [if_pos hw]
  obtain ⟨g, cap, w', hr, h2, h3, h5⟩ := run_append_owns (P := P) w t o.type base i ht hi hz hsize hby v bs hown ad m c cs hl hnews hm h63 hbase
  unfold Oper.wp execOp
  simp only [ho, resolve, invoke, builtin, Sem.run_bind, Sem.run_pure, Result.andThen_ok, List.map_toArray, List.map_cons, List.map_nil, hs, hx, hr]
  exact h g cap w' h2 h3 h5
end

/-- the writer's block, its slice, its bytes -/
def WR (w : World) (Wb base : Nat) (v : Value) (bs : List Int) : Prop := w.heap[Wb]? = some (.cells #[v] 66 (0, 0)) ∧ Owns w base v bs

/-- what a writer leaves alone -/
structure WKeep (B Wb : Nat) (w w' : World) : Prop where
  below : Below B w w'
  far : ∀ k, k < w.heap.size → k ≠ Wb → (∀ cur fr, w.heap[k]? ≠ some (.cells cur 5 fr)) → w'.heap[k]? = w.heap[k]?
theorem WKeep.refl (B Wb : Nat) (w : World) : WKeep B Wb w w := ⟨Below.refl _ _, fun _ _ _ _ => rfl⟩
theorem WKeep.trans {B Wb : Nat} {a b c : World} (h : WKeep B Wb a b) (k : WKeep B Wb b c) : WKeep B Wb a c :=
  ⟨h.below.trans k.below, fun i hi hn ht => by
    have e := h.far i hi hn ht
    rw [k.far i (Nat.lt_of_lt_of_le hi h.below.size) hn (by rw [e]; exact ht), e]⟩

theorem WR.own_ne {w : World} {Wb base : Nat} {v : Value} {bs : List Int} (h : WR w Wb base v bs) : v.ownBlock ≠ some Wb := by
  intro e
  obtain ⟨cur, fr, hh⟩ := h.2.ty Wb e
  rw [h.1] at hh
  simp at hh
theorem WR.lt {w : World} {Wb base : Nat} {v : Value} {bs : List Int} (h : WR w Wb base v bs) : Wb < w.heap.size := (Array.getElem?_eq_some_iff.1 h.1).1
theorem WR.cell {w : World} {Wb base : Nat} {v : Value} {bs : List Int} (h : WR w Wb base v bs) : w.cell? ⟨Wb, 0, none⟩ = some v := cell_of_one h.1

/-- the bytes that j rounds leave to be written lie below -/
theorem beI_step (x : Int) (j m : Nat) : beI (x / 256 ^ j) (m + 1) = beI (x / 256 ^ (j + 1)) m ++ [x / 256 ^ j % 256] := by
  show beI (x / 256 ^ j / 256) m ++ _ = _
  rw [Int.pow_succ, ← Int.ediv_ediv_of_nonneg (Int.le_of_lt (Int.pow_pos (by decide)))]

/-- the writer's slice grown by some bytes, and stored back -/
theorem WR_grow {w wr wa w1 : World} {Wb base gg cap m : Nat} {v1 : Value} {bs1 cs : List Int} (h : WR wr Wb base v1 bs1) (hK : WKeep base Wb w wr) (hb : base ≤ Wb)
    (ha : Below wr.heap.size wr wa) (hg : wa.grownBy w1 v1.ownBlock) (hown : w1.ownsRow base 5 1 (.slice (some ⟨gg, 0, none⟩) (bs1.length + m) cap) (bs1.length + m) (u8s bs1 ++ u8s cs)) (hlt : gg < w1.heap.size) :
    WR (w1.setCell ⟨Wb, 0, none⟩ (.slice (some ⟨gg, 0, none⟩) (bs1.length + m) cap)) Wb base (.slice (some ⟨gg, 0, none⟩) (bs1.length + m) cap) (bs1 ++ cs) ∧
    WKeep base Wb w (w1.setCell ⟨Wb, 0, none⟩ (.slice (some ⟨gg, 0, none⟩) (bs1.length + m) cap)) := by
  have hWlt := h.lt
  have hblk : ∀ k, k < wr.heap.size → some k ≠ v1.ownBlock → w1.heap[k]? = wr.heap[k]? := fun k hk hn =>
    (hg.block k (by have := ha.size; omega) hn).trans (ha.block k hk)
  have hWb : w1.heap[Wb]? = some (.cells #[v1] 66 (0, 0)) := (hblk Wb hWlt (Ne.symm h.own_ne)).trans h.1
  have hm : cs.length = m := by
    have := hown.1
    simp only [List.length_append, u8s_length] at this
    omega
  subst hm
  have hgW : gg ≠ Wb := by
    intro e
    subst e
    rcases hown.2 with ⟨h0, _⟩ | ⟨g, c, cur, h0, _, hh, _⟩
    · cases h0
    · injection h0 with h0
      injection h0 with h0
      injection h0 with h0
      subst h0
      rw [hWb] at hh
      simp at hh
  refine ⟨⟨one_setCell hWb, ?_⟩, ?_, ?_⟩
  · left
    rw [List.length_append, u8s_append]
    exact ownsRow_setCell_other hown (by simp [Value.ownBlock]; exact hgW) _
  · refine hK.below.trans ?_
    have hsz := hK.below.size
    have hsa := ha.size
    exact Below.setCell (Below.grown (ha.mono (by omega)) hg (by omega) (fun k hk => (h.2.lt k hk).1)) hb _
  · intro k hk hne ht
    have hsz := hK.below.size
    rw [Below.heap_setCell _ _ _ _ hne]
    have e := hK.far k hk hne ht
    rw [hblk k (by omega) ?_, e]
    intro e2
    obtain ⟨cur, fr, hh⟩ := h.2.ty k e2.symm
    exact ht cur fr (by rw [← e]; exact hh)

theorem shr8 (x : Int) (j : Nat) (hj : j ≤ 7) (hx : 0 ≤ x) (hx1 : x < 18446744073709551616) (w : World) : (Op.shift BinOp.shr IntKind.u64 x IntKind.i64 (IntKind.i64.wrap (8 * (j : Int)))).run Try.prog w = .ok (.int .u64 (x / 256 ^ j)) w := by
  have : j = 0 ∨ j = 1 ∨ j = 2 ∨ j = 3 ∨ j = 4 ∨ j = 5 ∨ j = 6 ∨ j = 7 := by omega
  rcases this with rfl | rfl | rfl | rfl | rfl | rfl | rfl | rfl
  all_goals
    simp [Op.shift, go_sem, IntKind.wrap, IntKind.signed, IntKind.bits, IntKind.min, IntKind.max]
  all_goals
    rw [Int.fdiv_eq_ediv_of_nonneg _ (by decide)]

set_option maxRecDepth 100000 in
set_option maxHeartbeats 3200000 in
theorem wnum_ok (x : Int) (n : Nat) (lo hi : Int) (Wb base : Nat) (v : Value) (bs : List Int) (w : World) (hW : WR w Wb base v bs) (hbw : base ≤ Wb) (h0 : lo ≤ x) (h1 : x ≤ hi) (hx : 0 ≤ x) (hx1 : x < 18446744073709551616) (hn : n ≤ 8) (hl : bs.length ≤ 1000000000) :
    Calls Try.prog 31 #[.pointer (some ⟨Wb, 0, none⟩), .int .u64 x, .int .i64 n, .int .u64 lo, .int .u64 hi] w fun e w' => e = .returned (.tuple #[]) ∧ WKeep base Wb w w' ∧ ∃ v', WR w' Wb base v' (bs ++ beI x n) := by
  obtain ⟨i0, hi0, hz0, hz1, hz2⟩ := info_parts info5
  go_enter Try.func31, Try.ntmps31
  (repeat (first | with_reducible refine xThenN ?_ | with_reducible refine xThenE ?_ | with_reducible refine xThenR ?_ | with_reducible refine xThenP ?_ | with_reducible refine xBlockEq ?_ | with_reducible refine xBlockNe rfl ?_ | with_reducible refine xBlockN ?_ | with_reducible refine xBlockR ?_ | with_reducible refine xBlockP ?_ | go_values | go_skip | go_guarded | go_step | go_upon | go_back | (dsimp only)))
  go_loopw [10] (fun i wr => ∃ (j : Nat) (v1 : Value) (bs1 : List Int), j ≤ n ∧ Hid (bs1 = bs ++ beI (x / 256 ^ j) (n - j)) ∧ i = .int .i64 ((j : Int) - 1) ∧ WR wr Wb base v1 bs1 ∧ WKeep base Wb w wr) (fun i _ => (intOf i + 1).toNat)
  case atStart => exact ⟨n, v, bs, by omega, Lib.hid (by simp [beI]), rfl, hW, WKeep.refl _ _ _⟩
  case round =>
    obtain ⟨j, v1, bs1, hj, hbs, rfl, hW1, hK⟩ := hrel
    rcases j with _ | j
    · (repeat (first | with_reducible refine xThenN ?_ | with_reducible refine xThenE ?_ | with_reducible refine xThenR ?_ | with_reducible refine xThenP ?_ | with_reducible refine xBlockEq ?_ | with_reducible refine xBlockNe rfl ?_ | with_reducible refine xBlockN ?_ | with_reducible refine xBlockR ?_ | with_reducible refine xBlockP ?_ | go_values | go_skip | go_guarded | go_step | go_upon | go_back | (dsimp only)))
      refine bodyPost_end (results_none rfl _ _ _) rfl ⟨rfl, hK, v1, ?_⟩
      have e : bs1 = bs ++ beI x n := by rw [hbs.out]; simp
      rw [← e]; exact hW1
    · have e1 : ((j + 1 : Nat) : Int) - 1 = j := by omega
      have b0 : (0 : Int) ≤ j := by omega
      have b1 : (j : Int) ≤ 7 := by omega
      have hc := hW1.cell
      (repeat (first | with_reducible refine xThenN ?_ | with_reducible refine xThenE ?_ | with_reducible refine xThenR ?_ | with_reducible refine xThenP ?_ | with_reducible refine xBlockEq ?_ | with_reducible refine xBlockNe rfl ?_ | with_reducible refine xBlockN ?_ | with_reducible refine xBlockR ?_ | with_reducible refine xBlockP ?_ | go_values | go_skip | go_guarded | go_step | go_upon | go_back | (dsimp only)))
      have hsh := shr8 x j (by omega) hx hx1
      have hwr : IntKind.u8.wrap (x / 256 ^ j) = x / 256 ^ j % 256 := IntKind.wrap_u8 _
      have hfa : ∀ o, ((wr.alloc o).drew).frozen? ⟨Wb, 0, none⟩ = false := fun o => by
        rw [← free_of_one hW1.1]
        exact (Below.frozen (Below.drew (Below.alloc (Below.refl wr.heap.size wr) (Nat.le_refl _) o)) hW1.lt)
      have hfz := free_of_one hW1.1
      have hne := hW1.own_ne
      have hlt1 := hW1.lt
      have hlen : bs1.length ≤ 1000000008 := by rw [hbs.out, List.length_append, beI_len]; omega
      have hnn := World.new_ne wr ⟨Wb, 0, none⟩ hc
      have hc2 : ∀ w1 : World, (wr.alloc (.cells #[.int .u8 (x / 256 ^ j % 256)] 5)).drew.grownBy w1 v1.ownBlock → w1.cell? ⟨Wb, 0, none⟩ = some v1 ∧ w1.frozen? ⟨Wb, 0, none⟩ = false := fun w1 hgrow =>
        ⟨by rw [hgrow.cell_far _ (by simp; omega) (Ne.symm hne)]; exact (Below.cell (Below.drew (Below.alloc (Below.refl wr.heap.size wr) (Nat.le_refl _) _)) hlt1).trans hc, by rw [hgrow.frozen_far _ (by simp; omega) (Ne.symm hne)]; exact hfa _⟩
      have Hc2 := Lib.hid hc2
      clear hc2
      have Hnw := Lib.hid (World.news_of_block (w := (wr.alloc (.cells #[.int .u8 (x / 256 ^ j % 256)] 5)).drew) (cs := #[.int .u8 (x / 256 ^ j % 256)]) (t := 5) (fr := (0, 0)) (heap_alloc_new wr _))
      have Hown := Lib.hid (hW1.2.same (w' := (wr.alloc (.cells #[.int .u8 (x / 256 ^ j % 256)] 5)).drew) (fun k hk => Below.heap_alloc wr _ k (hW1.2.lt k hk).2))
      go_region_law ((refine step_append_owns _ (by rfl) _ _ _ (by rfl) base i0 Try.underlying28 hi0 hz0 hz1 hz2 v1 bs1 (by rfl) Hown.out ⟨wr.heap.size, 0, none⟩ 1 1 [x / 256 ^ j % 256] (by rfl) (by rfl) Hnw.out (by omega) (by omega) (by simp; omega) ?_; intro gg cap w1 hown1 hgrow hlt; have hcf := Hc2.out w1 hgrow; obtain ⟨hc1, hf1⟩ := hcf))
      all_goals
        obtain ⟨hWn, hKn⟩ := WR_grow (cs := [x / 256 ^ j % 256]) hW1 hK hbw (Below.drew (Below.alloc (Below.refl _ _) (Nat.le_refl _) _)) hgrow hown1 hlt
        (repeat (first | with_reducible refine xThenN ?_ | with_reducible refine xThenE ?_ | with_reducible refine xThenR ?_ | with_reducible refine xThenP ?_ | with_reducible refine xBlockEq ?_ | with_reducible refine xBlockNe rfl ?_ | with_reducible refine xBlockN ?_ | with_reducible refine xBlockR ?_ | with_reducible refine xBlockP ?_ | go_values | go_skip | go_guarded | go_step | go_upon | go_back | (dsimp only)))
        refine ⟨⟨j, _, _, by omega, Lib.hid ?_, by go_num, hWn, hKn⟩, by simp [intOf]⟩
        have en : n - j = (n - (j + 1)) + 1 := by omega
        rw [en, beI_step, ← List.append_assoc, ← hbs.out]

theorem bodyPost_panic {P : Program} {fn : Func} {R : Ending → World → Prop} {ch : List PanicEntry} {a : Act} {w : World} (hd : a.defers = []) (h : R (.panicked ch) w) : bodyPost P fn R (.panic ch) a w := ⟨hd, h⟩
def stopped (E p : Int) : Ending := .panicked [{ v := .iface 76 (.agg #[.int .i64 E, .int .i64 p]), recovered := false }]

set_option maxHeartbeats 400000 in
theorem wnum_no (x n lo hi : Int) (Wb : Nat) (w : World) (h0 : x < lo ∨ hi < x) :
    Calls Try.prog 31 #[.pointer (some ⟨Wb, 0, none⟩), .int .u64 x, .int .i64 n, .int .u64 lo, .int .u64 hi] w fun e w' => e = stopped 3 0 ∧ w = w' := by
  by_cases h : x < lo
  · clear h0
    go_enter Try.func31, Try.ntmps31
    (repeat (first | with_reducible refine xThenN ?_ | with_reducible refine xThenE ?_ | with_reducible refine xThenR ?_ | with_reducible refine xThenP ?_ | with_reducible refine xBlockEq ?_ | with_reducible refine xBlockNe rfl ?_ | with_reducible refine xBlockN ?_ | with_reducible refine xBlockR ?_ | with_reducible refine xBlockP ?_ | go_values | go_skip | go_guarded | go_step | go_upon | go_back | (dsimp only)))
    exact bodyPost_panic rfl ⟨rfl, rfl⟩
  · replace h0 : hi < x := by omega
    go_enter Try.func31, Try.ntmps31
    (repeat (first | with_reducible refine xThenN ?_ | with_reducible refine xThenE ?_ | with_reducible refine xThenR ?_ | with_reducible refine xThenP ?_ | with_reducible refine xBlockEq ?_ | with_reducible refine xBlockNe rfl ?_ | with_reducible refine xBlockN ?_ | with_reducible refine xBlockR ?_ | with_reducible refine xBlockP ?_ | go_values | go_skip | go_guarded | go_step | go_upon | go_back | (dsimp only)))
    exact bodyPost_panic rfl ⟨rfl, rfl⟩

end Go.Proofs.Ytcffgbmgjdhkjaa
