import Derived.Test.YtcffgbmgjdhkjaaO
set_option linter.unusedSimpArgs false
set_option linter.unusedVariables false
namespace Go.Proofs.Ytcffgbmgjdhkjaa
open Go.RowKit

/-! a right list's numbers are small -/
theorem kidW_bd {has j K x : Int} {ls : List Nd} (h : kidW has j K ls = some x) (hw : ∀ e ∈ ls, 0 ≤ e.w ∧ e.w ≤ 64) : 0 ≤ x ∧ x ≤ 64 ∧ 0 ≤ K ∧ (K = 0 ∨ K < ls.length) := by
  unfold kidW at h
  split at h
  · split at h
    · injection h with h; omega
    · cases h
  · split at h
    · cases h
    · injection h with h
      subst h
      have hlt : K.toNat < ls.length := by omega
      have := hw _ (List.getElem_mem hlt)
      unfold wAt
      rw [List.getElem?_eq_getElem hlt]
      simp only [Option.map_some, Option.getD_some]
      omega

theorem wideB_w {op wd a b c : Int} (h : wideB op wd a b c = true) (ha : 0 ≤ a ∧ a ≤ 64) (hb : 0 ≤ b ∧ b ≤ 64) : 0 ≤ wd ∧ wd ≤ 64 := by
  unfold wideB leafB at h
  repeat' split at h
  all_goals
    simp at h
    omega

theorem right_sm {d : Nd} {ls : List Nd} (h : rightE d ls = 0) (hw : ∀ e ∈ ls, 0 ≤ e.w ∧ e.w ≤ 64) (hl : ls.length ≤ 65536) (hwf : NdWf d) : NdSm d ∧ 0 ≤ d.w ∧ d.w ≤ 64 := by
  unfold rightE at h
  split at h
  · cases h
  · rename_i ho
    split at h
    · cases h
    · rename_i a b c hk
      split at h
      · rename_i hwd
        unfold kidsR at hk
        split at hk
        · rename_i x y z hx hy hz
          injection hk with hk
          injection hk with h1 h2
          injection h2 with h2 h3
          subst h1; subst h2; subst h3
          have p0 := kidW_bd hx hw
          have p1 := kidW_bd hy hw
          have p2 := kidW_bd hz hw
          have p3 := wideB_w hwd ⟨p0.1, p0.2.1⟩ ⟨p1.1, p1.2.1⟩
          have p4 := hwf.2.2.1
          refine ⟨⟨?_, ?_, ?_, ?_, ?_, ?_⟩, p3⟩ <;> omega
        · cases hk
      · cases h

theorem chk_sm (rest : List Nd) : ∀ pre : List Nd, pre.length ≤ 65536 → (∀ e ∈ pre, 0 ≤ e.w ∧ e.w ≤ 64) → (∀ d ∈ rest, NdWf d) → (chk pre rest).1 = 0 → ∀ d ∈ rest, NdSm d := by
  induction rest with
  | nil => intro pre _ _ _ _ d hd; cases hd
  | cons d rest ih =>
    intro pre hp hw hwf h
    unfold chk at h
    split at h
    · cases h
    · split at h
      · rename_i h1; exact absurd h h1
      · rename_i h1 h2
        have h2 : rightE d pre = 0 := by omega
        have hs := right_sm h2 hw hp (hwf d (by simp))
        intro e he
        rcases List.mem_cons.1 he with rfl | he
        · exact hs.1
        · exact ih (pre ++ [d]) (by simp; omega) (by
            intro e he
            rcases List.mem_append.1 he with he | he
            · exact hw e he
            · obtain rfl : e = d := by simpa using he
              exact hs.2) (fun e he => hwf e (by simp [he])) h e he

theorem tchk_sm {ls : List Nd} (h : (tchk ls).1 = 0) (hwf : ∀ d ∈ ls, NdWf d) : ∀ d ∈ ls, NdSm d := by
  have hn := tchk_nil h
  unfold tchk at h
  rw [if_neg hn] at h
  exact chk_sm ls [] (by simp) (by simp) hwf h
theorem quest_tchk {ls : List Nd} (h : quest ls = 0) : (tchk ls).1 = 0 := by
  unfold quest at h
  split at h
  · rename_i h1; exact absurd h h1
  · rename_i h1; omega

/-- a precondition's error, its bytes -/
def inB (n lo hi : Int) : Bool := decide (lo ≤ n ∧ n ≤ hi)
def preE (p : Pr) : Int :=
  if inB p.path.length 1 65 = false then 3 else if p.path.all (inB · 0 255) = false then 3 else if quest p.term ≠ 0 then quest p.term else if 16 < p.input.length then 3 else 0
def pathB (l : List Int) : List Int := l.flatMap (beI · 1)
def termB (l : List Nd) : List Int := l.flatMap nodeB
def preB (p : Pr) : List Int := beI p.path.length 1 ++ (pathB p.path ++ (beI p.term.length 3 ++ (termB p.term ++ (beI p.input.length 1 ++ p.input))))
def PrWf (p : Pr) : Prop := (∀ x ∈ p.path, -9223372036854775808 ≤ x ∧ x ≤ 9223372036854775807) ∧ (∀ d ∈ p.term, NdWf d) ∧ (∀ x ∈ p.input, 0 ≤ x ∧ x < 256)

theorem pathB_len (l : List Int) : (pathB l).length = l.length := by
  induction l with
  | nil => rfl
  | cons a l ih => simp only [pathB, List.flatMap_cons, List.length_append, beI_len, List.length_cons] at *; omega
theorem termB_len (l : List Nd) : (termB l).length = 19 * l.length := by
  induction l with
  | nil => rfl
  | cons a l ih => simp only [termB, List.flatMap_cons, List.length_append, nodeB_len, List.length_cons] at *; omega

def prMed (p : Pr) : Prop := p.path.length ≤ 6000 ∧ p.term.length ≤ 6000 ∧ p.input.length ≤ 6000

def WDone (base Wb : Nat) (w : World) (bs l : List Int) (E : Int) (e : Ending) (w' : World) : Prop :=
  WKeep base Wb w w' ∧ ((E = 0 ∧ e = .returned (.tuple #[]) ∧ ∃ v', WR w' Wb base v' (bs ++ l)) ∨ (E ≠ 0 ∧ e = stopped E 0))

theorem WDone.no {base Wb : Nat} {w w' : World} {bs l : List Int} {X E : Int} (h : WKeep base Wb w w') (hE : X = E) (h0 : E ≠ 0) : WDone base Wb w bs l X (stopped E 0) w' := by
  subst hE; exact ⟨h, .inr ⟨h0, rfl⟩⟩
theorem WDone.yes {base Wb : Nat} {w w' : World} {bs l bs1 : List Int} {X : Int} {v : Value} (h : WKeep base Wb w w') (hX : X = 0) (hW : WR w' Wb base v bs1) (hb : bs1 = bs ++ l) : WDone base Wb w bs l X (.returned (.tuple #[])) w' := by
  subst hb; exact ⟨h, .inl ⟨hX, rfl, v, hW⟩⟩
theorem WKeep.ofBelow {base Wb : Nat} {w w' : World} (h : Below w.heap.size w w') (hb : base ≤ w.heap.size) : WKeep base Wb w w' := ⟨h.mono hb, fun k hk _ _ => h.block k hk⟩
theorem WR.below {w w' : World} {Wb base : Nat} {v : Value} {bs : List Int} (h : WR w Wb base v bs) (hb : Below w.heap.size w w') : WR w' Wb base v bs :=
  ⟨(hb.block _ h.lt).trans h.1, h.2.same fun k hk => hb.block k (h.2.lt k hk).2⟩
/-- the writer's slice stored back as it is -/
theorem WR_same {w wr wa : World} {Wb base : Nat} {v1 : Value} {bs1 : List Int} (h : WR wr Wb base v1 bs1) (hK : WKeep base Wb w wr) (hb : base ≤ Wb) (ha : Below wr.heap.size wr wa) :
    WR (wa.setCell ⟨Wb, 0, none⟩ v1) Wb base v1 bs1 ∧ WKeep base Wb w (wa.setCell ⟨Wb, 0, none⟩ v1) := by
  have h' := h.below ha
  refine ⟨⟨one_setCell h'.1, h'.2.same fun k hk => Below.heap_setCell _ _ _ _ (fun e => h'.own_ne (by rw [hk, e]))⟩, ?_⟩
  refine hK.trans ⟨Below.setCell (ha.mono (by have := h.lt; omega)) hb _, fun k hk hne _ => ?_⟩
  rw [Below.heap_setCell _ _ _ _ hne]
  exact ha.block k hk

theorem question_anyX (ls : List Nd) (v : Value) (w : World) (h : SlIs 6 Nd.cells w v ls) (hwf : ∀ d ∈ ls, NdWf d) (E : Int) (hE : Hid (quest ls = E)) :
    Calls Try.prog 41 #[v] w fun e w' => e = .returned (.int .i64 E) ∧ Below w.heap.size w w' := by
  rw [← hE.out]; exact question_any ls v w h hwf

theorem cells3 {w : World} {b : Nat} {c0 c1 c2 : Value} {t : TypeId} (h : w.heap[b]? = some (.cells #[c0, c1, c2] t (0, 0))) :
    w.cell? ⟨b, 0, none⟩ = some c0 ∧ w.cell? ⟨b, 1, none⟩ = some c1 ∧ w.cell? ⟨b, 2, none⟩ = some c2 := by
  simp [World.cell?, h]

section
variable {P : Program} (w : World)
theorem run_append_zero (t ty e : TypeId) (i : TypeInfo) (ht : P.underlying t = some (.slice e)) (hi : P.info? e = some i)
    (g n cap : Nat) (hnc : n ≤ cap) (ao : Option Addr) (c : Nat) : (Builtin.append_ #[t, t] ty #[.slice (some ⟨g, 0, none⟩) n cap, .slice ao 0 c]).run P w = .ok (.slice (some ⟨g, 0, none⟩) n cap) w := by
  cases ao <;> simp [Builtin.append_, run_underlying ht, sizeOf, typeInfo, hi, Builtin.lenOf, Builtin.firstCells, hnc, storeCells, loadCells, loadCellsFrom]

theorem step_append_zero {ops : Array Oper} {o : Oper} {a : Act} {K : Act → World → Prop} {Q : Exit → Act → World → Prop} {E : Prop} (hgd : o.guard = none) (s x : Operand) (t : TypeId)
    (ho : o.op = .call { callee := .builtin .append, args := #[s, x], argTypes := #[t, t] })
    (e : TypeId) (i : TypeInfo) (ht : P.underlying t = some (.slice e)) (hi : P.info? e = some i)
    (g n cap : Nat) (hs : a.eval s = .slice (some ⟨g, 0, none⟩) n cap) (hnc : n ≤ cap) (ao : Option Addr) (c : Nat) (hx : a.eval x = .slice ao 0 c)
    (h : K (a.put o.dst (.slice (some ⟨g, 0, none⟩) n cap)) w) : if Region.wanted o (yielded ops a.tmps) = true then Oper.wp P o a w K Q else E := by
  have hw : Region.wanted o (yielded ops a.tmps) = true := by simp [Region.wanted, hgd]
  rw [if_pos hw]
  unfold Oper.wp execOp
  simp only [ho, resolve, invoke, builtin, Sem.run_bind, Sem.run_pure, Result.andThen_ok, List.map_toArray, List.map_cons, List.map_nil, hs, hx, run_append_zero w t o.type e i ht hi g n cap hnc ao c]
  exact h
end

end Go.Proofs.Ytcffgbmgjdhkjaa
