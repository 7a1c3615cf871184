import Derived.Test.YtcffgbmgjdhkjaaT
set_option linter.unusedSimpArgs false
set_option linter.unusedVariables false
namespace Go.Proofs.Ytcffgbmgjdhkjaa
open Go.RowKit

/-- from base on only bytes are written, and new blocks -/
def OKeep (base : Nat) (w w' : World) : Prop := ∀ Wb, WKeep base Wb w w'
section
variable {base : Nat} {w w' w'' : World}
theorem OKeep.refl (base : Nat) (w : World) : OKeep base w w := fun _ => WKeep.refl _ _ _
theorem OKeep.trans (h : OKeep base w w') (k : OKeep base w' w'') : OKeep base w w'' := fun Wb => (h Wb).trans (k Wb)
theorem OKeep.below (h : OKeep base w w') : Below base w w' := (h 0).below
theorem OKeep.box (h : OKeep base w w') {k : Nat} {cs : Array Value} {t : TypeId} {fr : Nat × Nat} (hk : w.heap[k]? = some (.cells cs t fr)) (ht : t ≠ 5) : w'.heap[k]? = some (.cells cs t fr) :=
  (h (k + 1)).box hk (by omega) ht
theorem OKeep.ofBelow (h : Below w.heap.size w w') (hb : base ≤ w.heap.size) : OKeep base w w' := fun _ => WKeep.ofBelow h hb
theorem OKeep.alloc (h : OKeep base w w') (hb : base ≤ w'.heap.size) (o : Obj) : OKeep base w (w'.alloc o) := fun Wb => (h Wb).alloc hb o
end
theorem Owns.alloc {w : World} {base : Nat} {v : Value} {bs : List Int} (h : Owns w base v bs) (o : Obj) : Owns (w.alloc o) base v bs := h.same fun k hk => Below.heap_alloc w o k (h.lt k hk).2
theorem Owns.below {w w' : World} {base : Nat} {v : Value} {bs : List Int} (h : Owns w base v bs) (hb : Below w.heap.size w w') : Owns w' base v bs := h.same fun k hk => hb.block k (h.lt k hk).2
theorem Owns.mono {w : World} {base base' : Nat} {v : Value} {bs : List Int} (h : Owns w base v bs) (hs : base' ≤ base) : Owns w base' v bs := by
  rcases h with ho | ⟨g, cs, fz, rfl, hbb, r⟩
  · left
    refine ⟨ho.1, ?_⟩
    rcases ho.2 with hn | ⟨g, c, cur, rfl, hbb, r⟩
    · exact .inl hn
    · exact .inr ⟨g, c, cur, rfl, Nat.le_trans hs hbb, r⟩
  · exact .inr ⟨g, cs, fz, rfl, Nat.le_trans hs hbb, r⟩
theorem Owns.sl {w : World} {base : Nat} {v : Value} {bs : List Int} (h : Owns w base v bs) : SlIs 1 u8c w v bs := by
  by_cases hn : bs = []
  · subst hn
    rcases h with h | ⟨g, cs, fz, rfl, hb, hg, hc, hne⟩
    · rcases h.2 with ⟨rfl, _⟩ | ⟨g, c, cur, rfl, _⟩
      · exact ⟨none, 0, rfl, by simp, by simp, by simp⟩
      · exact ⟨_, c, rfl, by simp, by simp, by simp⟩
    · exact absurd rfl hne
  · obtain ⟨g, cap, rfl, hc, _, hr⟩ := h.form (List.length_pos_iff.2 hn)
    exact ⟨_, cap, rfl, hc, by simp, fun _ => ⟨g, 0, rfl, hr⟩⟩

theorem SlIs.lit {w : World} (l : List Int) (hl : l ≠ []) : SlIs 1 u8c (w.alloc (.cells (u8s l).toArray 5)) (.slice (some ⟨w.heap.size, 0, none⟩) l.length l.length) l := by
  refine ⟨_, _, rfl, Nat.le_refl _, by simp, fun _ => ⟨w.heap.size, 0, rfl, fun i x hi j u hj => ?_⟩⟩
  obtain ⟨rfl, rfl⟩ : j = 0 ∧ u = .int .u8 x := by
    rcases j with _ | j
    · exact ⟨rfl, by simpa [u8c] using hj.symm⟩
    · simp [u8c] at hj
  have hh : (w.alloc (.cells (u8s l).toArray 5)).heap[w.heap.size]? = _ := heap_alloc_new w _
  simp only [World.cell?, hh]
  simp [u8s, hi]
theorem SlIs.lit1 {w : World} (x : Int) : SlIs 1 u8c (w.alloc (.cells #[.int .u8 x] 5)) (.slice (some ⟨w.heap.size, 0, none⟩) 1 1) [x] := SlIs.lit [x] (by simp)
theorem SlIs.lit2 {w : World} (x y : Int) : SlIs 1 u8c (w.alloc (.cells #[.int .u8 x, .int .u8 y] 5)) (.slice (some ⟨w.heap.size, 0, none⟩) 2 2) [x, y] := SlIs.lit [x, y] (by simp)
theorem SlIs.lit1g {w : World} {g : Nat} (x : Int) (h : w.heap.size = g) : SlIs 1 u8c (w.alloc (.cells #[.int .u8 x] 5)) (.slice (some ⟨g, 0, none⟩) 1 1) [x] := by subst h; exact SlIs.lit1 x
theorem SlIs.lit2g {w : World} {g : Nat} (x y : Int) (h : w.heap.size = g) : SlIs 1 u8c (w.alloc (.cells #[.int .u8 x, .int .u8 y] 5)) (.slice (some ⟨g, 0, none⟩) 2 2) [x, y] := by subst h; exact SlIs.lit2 x y

section
variable {P : Program} {w : World}
theorem wl_append_any {ops : Array Oper} {rest : List Oper} {o : Oper} {a : Act} {Q : Exit → Act → World → Prop} (hgd : o.guard = none) (s x : Operand) (t : TypeId)
    (ho : o.op = .call { callee := .builtin .append, args := #[s, x], argTypes := #[t, t] })
    (base : Nat) (i : TypeInfo) (ht : P.underlying t = some (.slice 5)) (hi : P.info? 5 = some i) (hz : i.zero = some (.int .u8 0)) (hsize : i.size = 1) (hby : i.bytes = 1)
    (v : Value) (bs : List Int) (hs : a.eval s = v) (hown : Owns w base v bs) (hpos : 0 < bs.length)
    (xv : Value) (cs : List Int) (hx : a.eval x = xv) (hsl : SlIs 1 u8c w xv cs) (h63 : bs.length + cs.length ≤ 2000000000) (hbase : base ≤ w.heap.size)
    (h : ∀ v' w', Owns w' base v' (bs ++ cs) → OKeep base w w' → wpList P ops Q rest (a.put o.dst v') w') : wpList P ops Q (o :: rest) a w := by
  rcases hsl.casesA with ⟨ao, cap, rfl, rfl⟩ | ⟨b, off, cap, rfl, hne, _, HR⟩
  · obtain ⟨g, c, rfl, hnc, _, _⟩ := hown.form hpos
    refine wpList_plain hgd fun _ hK => ?_
    unfold Oper.wp execOp
    simp only [ho, resolve, invoke, builtin, Sem.run_bind, Sem.run_pure, Result.andThen_ok, List.map_toArray, List.map_cons, List.map_nil, hs, hx, run_append_zero w t o.type 5 i ht hi g bs.length c hnc ao cap]
    exact hK _ _ (h _ _ (by rw [List.append_nil]; exact hown) (OKeep.refl _ _))
  · have hm := List.length_pos_iff.2 hne
    have hnews : ∀ j u, (u8s cs)[j]? = some u → w.cell? ((⟨b, off, none⟩ : Addr).add j) = some u := by
      intro j u hj
      simp only [u8s, List.getElem?_map, Option.map_eq_some_iff] at hj
      obtain ⟨y, hy, rfl⟩ := hj
      have := HR j y hy 0 _ rfl
      rcases j with _ | j
      · simpa [Addr.add] using this
      · simpa [Addr.add] using this
    obtain ⟨g, c, w', hr, h2, h3, h5⟩ := run_append_owns (P := P) w t o.type base i ht hi hz hsize hby v bs hown _ cs.length cap cs rfl hnews hm h63 hbase
    refine wpList_plain hgd fun _ hK => ?_
    unfold Oper.wp execOp
    simp only [ho, resolve, invoke, builtin, Sem.run_bind, Sem.run_pure, Result.andThen_ok, List.map_toArray, List.map_cons, List.map_nil, hs, hx, hr]
    refine hK _ _ (h _ _ (.inl ?_) ?_)
    · rw [List.length_append, u8s_append]; exact h2
    · intro Wb
      refine ⟨⟨h3.os, h3.tape, h3.output, h3.size, fun k hk => h3.block k (by omega) (fun e => ?_)⟩, fun k hk hn ht => h3.block k hk (fun e => ?_)⟩
      · have := (hown.lt k e.symm).1; omega
      · obtain ⟨cur, fr, hh⟩ := hown.ty k e.symm
        exact ht cur fr hh
end

theorem bytes_anyX (x N : Int) (w : World) (h0 : 0 ≤ x) (h1 : x < 18446744073709551616) (hN0 : 0 ≤ N) (hN1 : N ≤ 8) :
    Calls Try.prog 17 #[.int .u64 x, .int .i64 N] w fun e w' => ∃ v, e = .returned v ∧ SlIs 1 u8c w' v (beI x N.toNat) ∧ Below w.heap.size w w' := by
  obtain ⟨n, rfl⟩ := Int.eq_ofNat_of_zero_le hN0
  refine (bytes_any n x w (by omega) h0 h1).mono ?_
  rintro e w' ⟨⟨v, rfl, hown⟩, hb⟩
  refine ⟨v, rfl, ?_, hb⟩
  have : Owns w' w.heap.size v (beI x n) := .inl (by rw [beI_len]; exact hown)
  exact this.sl

theorem beI1 (x : Int) (h0 : 0 ≤ x) (h1 : x ≤ 255) : beI x 1 = [x] := by
  simp [beI]
  omega

/-- what a report without an error has -/
theorem preE_zero {p : Pr} (h : preE p = 0) : (1 ≤ p.path.length ∧ p.path.length ≤ 65) ∧ (∀ x ∈ p.path, 0 ≤ x ∧ x ≤ 255) ∧ quest p.term = 0 ∧ p.input.length ≤ 16 := by
  unfold preE at h
  split at h
  · cases h
  · rename_i g1
    split at h
    · cases h
    · rename_i g2
      split at h
      · rename_i g3; exact absurd h g3
      · rename_i g3
        split at h
        · cases h
        · rename_i g4
          have g1' : 1 ≤ (p.path.length : Int) ∧ (p.path.length : Int) ≤ 65 := by simpa [inB] using g1
          refine ⟨by omega, ?_, by omega, by omega⟩
          have g2' : p.path.all (inB · 0 255) = true := by simpa using g2
          rw [List.all_eq_true] at g2'
          intro x hx
          simpa [inB] using g2' x hx
theorem presE_zero {l : List Pr} (h : presE l = 0) : ∀ p ∈ l, preE p = 0 := by
  induction l with
  | nil => intro p hp; cases hp
  | cons q l ih =>
    unfold presE at h
    split at h
    · rename_i h1; exact absurd h h1
    · rename_i h1
      intro p hp
      rcases List.mem_cons.1 hp with rfl | hp
      · omega
      · exact ih h p hp
theorem repE_zero {r : Rp} (h : repE r = 0) : (1 ≤ r.v ∧ r.v ≤ 5) ∧ (0 ≤ r.e ∧ r.e ≤ 18) ∧ (0 ≤ r.a ∧ r.a ≤ 65535) ∧ r.pres.length ≤ 4096 ∧ ∀ p ∈ r.pres, preE p = 0 := by
  unfold repE at h
  split at h
  · cases h
  · rename_i g1
    split at h
    · cases h
    · rename_i g2
      split at h
      · cases h
      · rename_i g3
        split at h
        · cases h
        · rename_i g4
          exact ⟨by simpa [inB] using g1, by simpa [inB] using g2, by simpa [inB] using g3, by omega, presE_zero h⟩

end Go.Proofs.Ytcffgbmgjdhkjaa
