import Derived.Test.YtmaogkgjiplckaaLN
import Derived.OrdersHeld
set_option linter.unusedSimpArgs false
set_option linter.unusedVariables false
namespace Go.Proofs.Ytmaogkgjiplckaa
open Go.RowKit

/-! a range over a map: whichever key comes next -/
section
variable {P : Program} {κ : Type} {enc : κ → Value} {ok : κ → Prop} {k e t : TypeId}
open Go.ChangeMaps (setBlock)
def IterV (enc : κ → Value) (ok : κ → Prop) (w : World) (r b : Nat) (m : List (κ × Value)) (L : List κ) : Prop :=
  ∃ (es : Array MapEntry) (clock : Nat) (since : Nat) (seen : Array Nat) (c0 : Nat), w.heap[b]? = some (.map es clock) ∧ es.toList.map (fun e => (e.key, e.val)) = m.map (fun p => (enc p.1, p.2)) ∧ (m.map (·.1)).Nodup ∧ (∀ p ∈ m, ok p.1) ∧
    (es.toList.map (·.born)).Pairwise (· < ·) ∧ (∀ e ∈ es.toList, e.born < clock) ∧ w.heap[r]? = some (.mapIter (some b) since seen c0) ∧ since ≤ c0 ∧ since ≤ clock ∧ (∀ e ∈ es.toList, e.born < since) ∧ (leftOf es seen).toList.map (·.key) = L.map enc
theorem IterV.map {w : World} {r b : Nat} {m : List (κ × Value)} {L : List κ} (h : IterV enc ok w r b m L) : MapV enc ok w b m := by
  obtain ⟨es, clock, since, seen, c0, h1, h2, h3, h4, h5, h6, _⟩ := h
  exact ⟨es, clock, h1, h2, h3, h4, h5, h6⟩
theorem IterV.same {w w' : World} {r b : Nat} {m : List (κ × Value)} {L : List κ} (h : IterV enc ok w r b m L) (hb : w'.heap[b]? = w.heap[b]?) (hr : w'.heap[r]? = w.heap[r]?) : IterV enc ok w' r b m L := by
  obtain ⟨es, clock, since, seen, c0, h1, h2, h3, h4, h5, h6, h7, h8⟩ := h
  exact ⟨es, clock, since, seen, c0, hb.trans h1, h2, h3, h4, h5, h6, hr.trans h7, h8⟩
theorem IterV.lt {w : World} {r b : Nat} {m : List (κ × Value)} {L : List κ} (h : IterV enc ok w r b m L) : r < w.heap.size ∧ b < w.heap.size := by
  obtain ⟨es, clock, since, seen, c0, h1, h2, h3, h4, h5, h6, h7, _⟩ := h
  exact ⟨(Array.getElem?_eq_some_iff.1 h7).1, (Array.getElem?_eq_some_iff.1 h1).1⟩
/-- the range begins -/
theorem MapV.range {w : World} {b : Nat} {m : List (κ × Value)} (h : MapV enc ok w b m) (ht : P.underlying t = some (.map k e)) :
    ∃ w', (Instr.range t (.map (some b))).run P w = .ok (.pointer (some ⟨w.heap.size, 0, none⟩)) w' ∧ IterV enc ok w' w.heap.size b m (m.map (·.1)) ∧ Below w.heap.size w w' := by
  have hl := h.lt
  obtain ⟨es, clock, hb, he, hn, ho, hp, hc⟩ := h
  refine ⟨w.alloc (.mapIter (some b) clock #[] clock), ?_, ⟨es, clock, clock, #[], clock, ?_, he, hn, ho, hp, hc, heap_alloc_new w _, Nat.le_refl _, Nat.le_refl _, hc, ?_⟩, Below.alloc (Below.refl _ _) (Nat.le_refl _) _⟩
  · exact run_range_map w t k e b es clock ht hb
  · rw [Below.heap_alloc w _ _ hl]; exact hb
  · have hf : leftOf es #[] = es := by unfold leftOf; simp
    rw [hf]
    have := congrArg (List.map Prod.fst) he
    simpa [List.map_map, Function.comp_def] using this
theorem IterV.next [DecidableEq κ] {w : World} {r b : Nat} {m : List (κ × Value)} {L : List κ} (h : IterV enc ok w r b m L) (hinj : ∀ x y, enc x = enc y → x = y) (ty : TypeId) :
    (L = [] ∧ (Instr.next (.pointer (some ⟨r, 0, none⟩)) false ty).run P w = .ok (.tuple #[.bool false]) w) ∨
    ∃ x v w', x ∈ L ∧ (x, v) ∈ m ∧ (Instr.next (.pointer (some ⟨r, 0, none⟩)) false ty).run P w = .ok (.tuple #[.bool true, enc x, v]) w' ∧ IterV enc ok w' r b m (L.filter fun y => decide (y ≠ x)) ∧ w.grownBy w' (some r) ∧
      (Instr.entry (.pointer (some ⟨r, 0, none⟩))).run P w' = .ok (.tuple #[enc x, v]) w' := by
  obtain ⟨es, clock, since, seen, c0, hb, he, hn, ho, hp, hc, hr, hsc, hsk, hold, hL⟩ := h
  have hbr : b ≠ r := by rintro rfl; rw [hr] at hb; simp at hb
  rcases run_next_at (P := P) w ty r b since c0 seen es clock hr hb hold hsc with ⟨h1, h2⟩ | ⟨e0, h1, w1, hw1, h2⟩
  · refine .inl ⟨?_, h2⟩
    have : (leftOf es seen).toList = [] := by rw [← Array.length_toList] at h1; exact List.length_eq_zero_iff.1 h1
    rw [this] at hL
    exact List.map_eq_nil_iff.1 hL.symm
  · right
    have hr1 : w1.heap[r]? = some (.mapIter (some b) since seen c0) := by rcases hw1 with rfl | rfl <;> exact hr
    have hb1 : w1.heap[b]? = some (.map es clock) := by rcases hw1 with rfl | rfl <;> exact hb
    have hset : ∀ (o : Obj) (i : Nat), i ≠ r → (setBlock w1 r o).heap[i]? = w1.heap[i]? := by
      intro o i hi
      simp only [setBlock, Array.getElem?_setIfInBounds]
      rw [if_neg (fun e => hi e.symm)]
    have hself : ∀ o : Obj, (setBlock w1 r o).heap[r]? = some o := by
      intro o
      simp only [setBlock, Array.getElem?_setIfInBounds, if_true]
      rw [if_pos (Array.getElem?_eq_some_iff.1 hr1).1]
    have hme : e0 ∈ es.toList := by
      unfold leftOf at h1
      simp at h1 ⊢
      exact h1.1
    obtain ⟨j, hj⟩ := List.mem_iff_getElem?.1 hme
    obtain ⟨p, hp1, hp2, hp3⟩ := keys_nth he hj
    have hbn : (es.toList.map (·.born)).Nodup := hp.imp (fun h => Nat.ne_of_lt h)
    have hkey : enc p.1 ∈ L.map enc := by
      rw [← hL, ← hp2]
      exact List.mem_map.2 ⟨e0, h1, rfl⟩
    obtain ⟨x, hx, hxe⟩ := List.mem_map.1 hkey
    have hxp : x = p.1 := hinj _ _ hxe
    have hent := run_entry_at (P := P) (setBlock w1 r (.mapIter (some b) since (seen.push e0.born) clock)) r b since seen es clock e0 (hself _) (by rw [hset _ _ hbr]; exact hb1) hme hbn
    rw [hp2, hp3] at h2 hent
    refine ⟨p.1, p.2, setBlock w1 r (.mapIter (some b) since (seen.push e0.born) clock), hxp ▸ hx, List.mem_of_getElem? hp1, h2, ⟨es, clock, since, seen.push e0.born, clock, ?_, he, hn, ho, hp, hc, hself _, hsk, hsk, hold, ?_⟩, ?_, hent⟩
    · rw [hset _ _ hbr]; exact hb1
    · classical
      have hl1 : (leftOf es (seen.push e0.born)).toList = (leftOf es seen).toList.filter fun e => decide (e.key ≠ e0.key) := by
        unfold leftOf
        rw [Array.toList_filter, Array.toList_filter, List.filter_filter]
        refine List.filter_congr fun e1 he1 => ?_
        obtain ⟨i, hi⟩ := List.mem_iff_getElem?.1 he1
        have hb2 : e1.born = e0.born ↔ e1.key = e0.key := by
          constructor
          · intro hbb
            have : i = j := nodup_idx hbn (x := e0.born) (by rw [List.getElem?_map, hi]; simp [hbb]) (by rw [List.getElem?_map, hj]; rfl)
            subst this
            rw [hj] at hi
            cases hi; rfl
          · intro hkk
            obtain ⟨p1, hq1, hq2, _⟩ := keys_nth he hi
            have hpp : p1.1 = p.1 := hinj _ _ (by rw [← hq2, ← hp2, hkk])
            have : i = j := nodup_idx hn (x := p.1) (by rw [List.getElem?_map, hq1]; simp [hpp]) (by rw [List.getElem?_map, hp1]; rfl)
            subst this
            rw [hj] at hi
            cases hi; rfl
        simp only [Array.contains_push, Bool.not_or, decide_not, ne_eq]
        rw [Bool.and_comm]
        congr 1
        rw [Bool.eq_iff_iff]
        simp only [Bool.not_eq_true', beq_eq_false_iff_ne, ne_eq, decide_eq_false_iff_not, not_congr hb2]
      rw [hl1]
      have hf : ∀ l : List MapEntry, (l.filter fun e => decide (e.key ≠ e0.key)).map (·.key) = (l.map (·.key)).filter fun v => decide (v ≠ e0.key) := by
        intro l
        rw [List.filter_map]; rfl
      rw [hf, hL, hp2, List.filter_map]
      congr 1
      refine List.filter_congr fun y _ => ?_
      show decide (enc y ≠ enc p.1) = decide (y ≠ p.1)
      by_cases e : y = p.1
      · simp [e]
      · rw [decide_eq_true e]; exact decide_eq_true fun h => e (hinj _ _ h)
    · rcases hw1 with rfl | rfl
      · exact ⟨rfl, rfl, rfl, by simp [setBlock], fun i _ hi => hset _ _ (fun e => hi (by rw [e]))⟩
      · exact ⟨rfl, rfl, rfl, by show _ ≤ (w.heap.setIfInBounds _ _).size; simp, fun i _ hi => hset _ _ (fun e => hi (by rw [e]))⟩
end
section
variable {P : Program} {κ : Type} {enc : κ → Value} {ok : κ → Prop} {k e t : TypeId} {ops : Array Oper} {rest : List Oper} {o : Oper} {a : Act} {w : World} {Q : Exit → Act → World → Prop}
theorem wl_range (hgd : o.guard = none) (m : Operand) (t : TypeId) (hop : o.op = Op.range t m) (k e : TypeId) (ht : P.underlying t = some (.map k e)) (b : Nat) (M : List (κ × Value)) (hm : a.eval m = .map (some b)) (hM : MapV enc ok w b M)
    (h : ∀ w', IterV enc ok w' w.heap.size b M (M.map (·.1)) → Below w.heap.size w w' → wpList P ops Q rest (a.put o.dst (.pointer (some ⟨w.heap.size, 0, none⟩))) w') : wpList P ops Q (o :: rest) a w :=
  wpList_plain hgd fun _ hK => by
    obtain ⟨w', hr, h1, h2⟩ := hM.range ht
    unfold Oper.wp
    simp only [execOp, hop, hm, Sem.run_bind, hr, Result.andThen_ok]
    exact hK _ _ (h w' h1 h2)
theorem wl_next [DecidableEq κ] (hgd : o.guard = none) (it : Operand) (hop : o.op = Op.next it false) (hinj : ∀ x y, enc x = enc y → x = y) (r b : Nat) (M : List (κ × Value)) (L : List κ) (hi : a.eval it = .pointer (some ⟨r, 0, none⟩)) (hI : IterV enc ok w r b M L)
    (h0 : L = [] → wpList P ops Q rest (a.put o.dst (.tuple #[.bool false])) w)
    (h1 : ∀ x v w', x ∈ L → (x, v) ∈ M → IterV enc ok w' r b M (L.filter fun y => decide (y ≠ x)) → w.grownBy w' (some r) → (Instr.entry (.pointer (some ⟨r, 0, none⟩))).run P w' = .ok (.tuple #[enc x, v]) w' → wpList P ops Q rest (a.put o.dst (.tuple #[.bool true, enc x, v])) w') : wpList P ops Q (o :: rest) a w :=
  wpList_plain hgd fun _ hK => by
    rcases hI.next (P := P) hinj o.type with ⟨e, hr⟩ | ⟨x, v, w', a1, a2, hr, a3, a4, a5⟩
    · unfold Oper.wp
      simp only [execOp, hop, hi, Sem.run_bind, hr, Result.andThen_ok]
      exact hK _ _ (h0 e)
    · unfold Oper.wp
      simp only [execOp, hop, hi, Sem.run_bind, hr, Result.andThen_ok]
      exact hK _ _ (h1 x v w' a1 a2 a3 a4 a5)
theorem wl_entry (hgd : o.guard = none) (it : Operand) (hop : o.op = Op.entry it) (r : Nat) (hi : a.eval it = .pointer (some ⟨r, 0, none⟩)) (v : Value) (hr : (Instr.entry (.pointer (some ⟨r, 0, none⟩))).run P w = .ok v w)
    (h : wpList P ops Q rest (a.put o.dst v) w) : wpList P ops Q (o :: rest) a w :=
  wpList_plain hgd fun _ hK => by
    unfold Oper.wp
    simp only [execOp, hop, hi, Sem.run_bind, hr, Result.andThen_ok]
    exact hK _ _ h
end

section
variable {P : Program} {ops : Array Oper} {Q : Exit → Act → World → Prop} {a : Act} {w : World} {o : Oper} {i : Nat} {K : Act → World → Prop}
/-- one operation of a region that draws its order, walked as a list of one -/
theorem wpOp_one (hi : ops[i]? = some o) (h : wpList P ops (Exit.then K Q) [o] a w) : wpOp P ops Q i K a w := by
  unfold wpOp
  simp only [hi]
  unfold wpList at h
  split at h
  · rename_i hw
    rw [if_pos hw]
    rcases h with h | ⟨h1, a0, w0, h2⟩
    · refine .inl ?_
      unfold Oper.wp at *
      generalize (execOp a.eval o).run P w = r at *
      cases r with
      | ok n w' => cases n <;> simp only [Oper.upon] at h ⊢ <;> first | exact h | exact Calls.mono h (fun e w'' he => by cases e <;> first | exact he | (obtain ⟨a1, w1, h1⟩ := he; exact ⟨a1, w1, h1⟩)) | exact Rows.mono h (fun _ _ he => he)
      | halt x w' => cases x <;> simp only [Oper.upon] at h ⊢ <;> exact h
    · exact .inr ⟨h1, a0, w0, h2⟩
  · rename_i hw
    rw [if_neg hw]
    exact h
end

end Go.Proofs.Ytmaogkgjiplckaa
