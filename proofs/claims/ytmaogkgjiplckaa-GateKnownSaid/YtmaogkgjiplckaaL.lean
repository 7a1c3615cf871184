import Derived.Test.YtmaogkgjiplckaaP4
import Derived.Test.YtmaogkgjiplckaaProg
import Derived.WalkKit
import Derived.WalkSpells
import Derived.WalkLawsBesides
import Derived.Lib.Hide
import Derived.Deep.QuietTactic
import Derived.BigQuiet
import Derived.Deep.RegionHeld3
import Derived.StillTailTactics
import Derived.Deep.DeepCutAuto
import Derived.Deep.DeepFit
import Derived.Laws.Tables
import Derived.Deep.WholeRow
import Derived.Maps.OwnSet
import Derived.Maps.Own
import Derived.OneCell
import Derived.OrdersHeld
import Derived.OpenShut
set_option linter.unusedSimpArgs false
set_option linter.unusedVariables false
namespace Go.Proofs.Ytmaogkgjiplckaa
open Go.RowKit

/-! the walk's own words: exits, what is kept, rows of ints, maps -/
section
variable {K : Act → World → Prop} {Q : Exit → Act → World → Prop} {a : Act} {w : World} {id id' : Nat} {ch : List PanicEntry}
theorem xA (h : K a w) : Exit.then K Q .normal a w := h
theorem xB (h : Q (.exit id) a w) : Exit.then K Q (.exit id) a w := h
theorem xC (h : Q .ret a w) : Exit.then K Q .ret a w := h
theorem xD (h : Q (.panic ch) a w) : Exit.then K Q (.panic ch) a w := h
theorem xE (h : Q .normal a w) : Exit.inBlock id Q .normal a w := h
theorem xF (h : Q .ret a w) : Exit.inBlock id Q .ret a w := h
theorem xG (h : Q (.panic ch) a w) : Exit.inBlock id Q (.panic ch) a w := h
theorem xH (h : Q .normal a w) : Exit.inBlock id Q (.exit id) a w := by simp only [Exit.inBlock, if_true]; exact h
theorem xI (e : (id' == id) = false) (h : Q (.exit id') a w) : Exit.inBlock id Q (.exit id') a w := by
  have : ¬ id' = id := by simpa using e
  simp only [Exit.inBlock, this, if_false]; exact h
end
theorem ret_int {k : IntKind} {a b : Int} (h : a = b) : Ending.returned (.int k a) = .returned (.int k b) := by rw [h]
theorem ret_bool {a b : Bool} (h : a = b) : Ending.returned (.bool a) = .returned (.bool b) := by rw [h]
theorem put_defers (a : Act) (d : Option Tmp) (v : Value) : (a.put d v).defers = a.defers := by cases d <;> rfl
section
variable {P : Program} {ops : Array Oper} {rest : List Oper} {o : Oper} {a : Act} {w : World} {Q : Exit → Act → World → Prop}
theorem wl_id (h : wpList P ops Q (o :: rest) a w) : wpList P ops Q (o :: rest) a w := h
end

/-- nothing is written in the blocks of X that there are; new blocks may be made -/
structure Kept (X : Nat → Prop) (w w' : World) : Prop where
  os : w'.os = w.os
  tape : w'.tape = w.tape
  output : w'.output = w.output
  size : w.heap.size ≤ w'.heap.size
  block : ∀ k, k < w.heap.size → X k → w'.heap[k]? = w.heap[k]?
section
variable {X Y : Nat → Prop} {w w' w'' : World}
theorem Kept.refl (X : Nat → Prop) (w : World) : Kept X w w := ⟨rfl, rfl, rfl, Nat.le_refl _, fun _ _ _ => rfl⟩
theorem Kept.trans (h : Kept X w w') (k : Kept X w' w'') : Kept X w w'' :=
  ⟨k.os.trans h.os, k.tape.trans h.tape, k.output.trans h.output, Nat.le_trans h.size k.size, fun i hi hx => (k.block i (Nat.lt_of_lt_of_le hi h.size) hx).trans (h.block i hi hx)⟩
theorem Kept.mono (h : Kept X w w') (hY : ∀ k, k < w.heap.size → Y k → X k) : Kept Y w w' := ⟨h.os, h.tape, h.output, h.size, fun i hi hy => h.block i hi (hY i hi hy)⟩
theorem Kept.below {B : Nat} (h : Below B w w') (hX : ∀ k, k < w.heap.size → X k → k < B) : Kept X w w' := ⟨h.os, h.tape, h.output, h.size, fun i hi hx => h.block i (hX i hi hx)⟩
theorem Kept.ofBelow (h : Below w.heap.size w w') : Kept X w w' := .below h fun _ hk _ => hk
theorem Kept.toBelow (h : Kept X w w') {B : Nat} (hB : B ≤ w.heap.size) (hX : ∀ k, k < B → X k) : Below B w w' := ⟨h.os, h.tape, h.output, h.size, fun i hi => h.block i (Nat.lt_of_lt_of_le hi hB) (hX i hi)⟩
theorem Kept.alloc (h : Kept X w w') (o : Obj) : Kept X w (w'.alloc o) := h.trans ⟨rfl, rfl, rfl, by simp, fun k hk _ => Below.heap_alloc w' o k hk⟩
theorem Kept.grown {r : Option Nat} (h : Kept X w w') (hg : w'.grownBy w'' r) (hr : ∀ g, r = some g → g < w.heap.size → ¬ X g) : Kept X w w'' :=
  ⟨hg.os.trans h.os, hg.tape.trans h.tape, hg.output.trans h.output, Nat.le_trans h.size hg.size, fun i hi hx => (hg.block i (Nat.lt_of_lt_of_le hi h.size) (fun e => hr i e.symm hi hx)).trans (h.block i hi hx)⟩
theorem Kept.drew (h : Kept X w w') (n : Nat) : Kept X w (w'.drewN n) := h.trans ⟨rfl, rfl, rfl, Nat.le_refl _, fun _ _ _ => rfl⟩
theorem Kept.at (h : Kept X w w') {k : Nat} {o : Obj} (hk : w.heap[k]? = some o) (hx : X k) : w'.heap[k]? = some o := (h.block k (lt_of_block hk) hx).trans hk
theorem Kept.cell (h : Kept X w w') {p : Addr} {c : Value} (hc : w.cell? p = some c) (hx : X p.block) : w'.cell? p = some c :=
  (World.cell?_of_block (h.block p.block (World.block_lt_of_cell? w p hc) hx)).trans hc
end

/-- ints that lie in a row -/
def RowI (w : World) (b o : Nat) (l : List Int) : Prop := ∀ i x, l[i]? = some x → w.cell? ⟨b, o + i, none⟩ = some (.int .i64 x)
theorem RowI.kept {X : Nat → Prop} {w w' : World} {b o : Nat} {l : List Int} (h : RowI w b o l) (hk : Kept X w w') (hx : X b) : RowI w' b o l := fun i x hi => hk.cell (h i x hi) hx
theorem RowI.ofOwns {w : World} {base T : Nat} {g c : Nat} {l : List Int} (h : w.ownsRow base T 1 (.slice (some ⟨g, 0, none⟩) l.length c) l.length (l.map (Value.int .i64))) : RowI w g 0 l := by
  intro i x hi
  have := h.cells (g := g) rfl i (.int .i64 x) (by simp [hi])
  rw [Nat.zero_add]
  rcases i with _ | i
  · simpa [Addr.add] using this
  · simpa [Addr.add] using this

/-- a slice of ints, in blocks of X -/
def SlX (X : Nat → Prop) (w : World) (v : Value) (l : List Int) : Prop :=
  ∃ ao cap, v = .slice ao l.length cap ∧ l.length ≤ cap ∧ (ao = none → cap = 0) ∧ (l ≠ [] → ∃ b o, ao = some ⟨b, o, none⟩ ∧ X b ∧ b < w.heap.size ∧ RowI w b o l)
section
variable {X Y : Nat → Prop} {w w' : World} {v : Value} {l : List Int}
theorem SlX.kept (h : SlX X w v l) (hk : Kept X w w') : SlX X w' v l :=
  let ⟨ao, cap, h1, h2, h3, h4⟩ := h
  ⟨ao, cap, h1, h2, h3, fun hn => let ⟨b, o, e, hx, hb, hr⟩ := h4 hn; ⟨b, o, e, hx, Nat.lt_of_lt_of_le hb hk.size, hr.kept hk hx⟩⟩
theorem SlX.mono (h : SlX X w v l) (hY : ∀ k, k < w.heap.size → X k → Y k) : SlX Y w v l :=
  let ⟨ao, cap, h1, h2, h3, h4⟩ := h
  ⟨ao, cap, h1, h2, h3, fun hn => let ⟨b, o, e, hx, hb, hr⟩ := h4 hn; ⟨b, o, e, hY b hb hx, hb, hr⟩⟩
theorem SlX.nil (X : Nat → Prop) (w : World) : SlX X w (.slice none 0 0) [] := ⟨none, 0, rfl, Nat.le_refl _, fun _ => rfl, fun h => absurd rfl h⟩
theorem SlX.shape (h : SlX X w v l) : ∃ ao cap, v = .slice ao l.length cap := let ⟨ao, cap, e, _⟩ := h; ⟨ao, cap, e⟩
theorem SlX.row {ao : Option Addr} {n c : Nat} (h : SlX X w (.slice ao n c) l) (hp : 0 < l.length) : ∃ b o, ao = some ⟨b, o, none⟩ ∧ X b ∧ b < w.heap.size ∧ l.length ≤ c ∧ RowI w b o l := by
  obtain ⟨ao', cap, e, hc, _, h4⟩ := h
  injection e with e1 e2 e3
  subst e1; subst e3
  obtain ⟨b, o, e, hx, hb, hr⟩ := h4 (List.length_pos_iff.1 hp)
  exact ⟨b, o, e, hx, hb, hc, hr⟩
theorem SlX.ofOwns {base T : Nat} (h : w.ownsRow base T 1 v l.length (l.map (Value.int .i64))) (hX : ∀ g, base ≤ g → some g = v.ownBlock → X g) : SlX X w v l := by
  have h0 := h
  rcases h.2 with ⟨rfl, hn⟩ | ⟨g, cap, cur, rfl, hb, hh, hnc, _⟩
  · obtain rfl : l = [] := List.length_eq_zero_iff.1 hn
    exact .nil _ _
  · exact ⟨_, cap, rfl, hnc, by simp, fun _ => ⟨g, 0, rfl, hX g hb rfl, lt_of_block hh, RowI.ofOwns h0⟩⟩
end

/-! a map, as pairs in the order in which they came -/
structure KeyE (P : Program) (k : TypeId) {κ : Type} (enc : κ → Value) (ok : κ → Prop) : Prop where
  law : Maps.Keyed P k
  key : ∀ x, ok x → ∃ l, keyOf P k (enc x) = some l
  inj : ∀ x y, enc x = enc y → x = y
section
variable {κ : Type} {enc : κ → Value} {ok : κ → Prop}
def getM [DecidableEq κ] (m : List (κ × Value)) (x : κ) : Option Value := (m.find? fun p => decide (p.1 = x)).map (·.2)
def putM [DecidableEq κ] (m : List (κ × Value)) (x : κ) (v : Value) : List (κ × Value) := if x ∈ m.map (·.1) then m.map (fun p => if p.1 = x then (x, v) else p) else m ++ [(x, v)]
def MapV (enc : κ → Value) (ok : κ → Prop) (w : World) (b : Nat) (m : List (κ × Value)) : Prop :=
  ∃ (es : Array MapEntry) (clock : Nat), w.heap[b]? = some (.map es clock) ∧ es.toList.map (fun e => (e.key, e.val)) = m.map (fun p => (enc p.1, p.2)) ∧ (m.map (·.1)).Nodup ∧ (∀ p ∈ m, ok p.1) ∧
    (es.toList.map (·.born)).Pairwise (· < ·) ∧ ∀ e ∈ es.toList, e.born < clock
theorem MapV.lt {w : World} {b : Nat} {m : List (κ × Value)} (h : MapV enc ok w b m) : b < w.heap.size := by
  obtain ⟨es, clock, hb, _⟩ := h
  exact (Array.getElem?_eq_some_iff.1 hb).1
theorem MapV.kept {X : Nat → Prop} {w w' : World} {b : Nat} {m : List (κ × Value)} (h : MapV enc ok w b m) (hk : Kept X w w') (hx : X b) : MapV enc ok w' b m := by
  have hl := h.lt
  obtain ⟨es, clock, hb, r⟩ := h
  exact ⟨es, clock, (hk.block b hl hx).trans hb, r⟩
theorem MapV.same {w w' : World} {b : Nat} {m : List (κ × Value)} (h : MapV enc ok w b m) (hk : w'.heap[b]? = w.heap[b]?) : MapV enc ok w' b m := by
  obtain ⟨es, clock, hb, r⟩ := h
  exact ⟨es, clock, hk.trans hb, r⟩
theorem MapV.made (w : World) : MapV enc ok (w.alloc (.map #[] 0)) w.heap.size [] := ⟨#[], 0, (MapKept.heap_alloc w _).1, by simp, by simp, by simp, by simp, by simp⟩

theorem keys_nth {es : List MapEntry} {m : List (κ × Value)} (h : es.map (fun e => (e.key, e.val)) = m.map (fun p => (enc p.1, p.2))) {j : Nat} {e : MapEntry} (hj : es[j]? = some e) : ∃ p, m[j]? = some p ∧ e.key = enc p.1 ∧ e.val = p.2 := by
  have h1 : (es.map (fun e => (e.key, e.val)))[j]? = some (e.key, e.val) := by rw [List.getElem?_map, hj]; rfl
  rw [h, List.getElem?_map] at h1
  rcases hm : m[j]? with _ | p
  · rw [hm] at h1; simp at h1
  · rw [hm] at h1
    simp only [Option.map_some, Option.some.injEq, Prod.mk.injEq] at h1
    exact ⟨p, rfl, h1.1.symm, h1.2.symm⟩
theorem getM_nth [DecidableEq κ] {m : List (κ × Value)} (hn : (m.map (·.1)).Nodup) {j : Nat} {p : κ × Value} (hj : m[j]? = some p) : getM m p.1 = some p.2 := by
  unfold getM
  induction m generalizing j with
  | nil => simp at hj
  | cons q m ih =>
    rw [List.find?_cons]
    by_cases e : q.1 = p.1
    · rw [decide_eq_true e]
      rcases j with _ | j
      · simp only [List.getElem?_cons_zero, Option.some.injEq] at hj; rw [hj]; rfl
      · exfalso
        simp only [List.getElem?_cons_succ] at hj
        rw [List.map_cons, List.nodup_cons] at hn
        exact hn.1 (List.mem_map.2 ⟨p, List.mem_of_getElem? hj, e.symm⟩)
    · rw [decide_eq_false e]
      rcases j with _ | j
      · simp only [List.getElem?_cons_zero, Option.some.injEq] at hj; rw [hj] at e; exact absurd rfl e
      · rw [List.map_cons, List.nodup_cons] at hn
        exact ih hn.2 (by simpa using hj)
theorem getM_none [DecidableEq κ] {m : List (κ × Value)} {x : κ} (h : ∀ p ∈ m, p.1 ≠ x) : getM m x = none := by
  unfold getM
  rw [List.find?_eq_none.2 (fun p hp => by simpa using h p hp)]
  rfl
/-- where a key stands -/
theorem MapV.find [DecidableEq κ] {P : Program} {k : TypeId} (K : KeyE P k enc ok) {es : Array MapEntry} {m : List (κ × Value)} (he : es.toList.map (fun e => (e.key, e.val)) = m.map (fun p => (enc p.1, p.2))) (hn : (m.map (·.1)).Nodup) (ho : ∀ p ∈ m, ok p.1) {x : κ} (hx : ok x) (w : World) :
    ((Instr.findKey k (enc x) es.toList).run P w = .ok none w ∧ getM m x = none ∧ x ∉ m.map (·.1)) ∨
    ∃ j v, (Instr.findKey k (enc x) es.toList).run P w = .ok (some (j, v)) w ∧ getM m x = some v ∧ m[j]? = some (x, v) := by
  obtain ⟨lx, hlx⟩ := K.key x hx
  have hks : ∀ e ∈ es.toList, ∃ l, keyOf P k e.key = some l := by
    intro e hm
    obtain ⟨j, hj⟩ := List.mem_iff_getElem?.1 hm
    obtain ⟨p, hp, h1, _⟩ := keys_nth he hj
    rw [h1]
    exact K.key _ (ho p (List.mem_of_getElem? hp))
  rcases K.law.find w hlx es.toList hks with ⟨h1, h2⟩ | ⟨j, e, h1, h2, h3⟩
  · have h4 : ∀ p ∈ m, p.1 ≠ x := by
      intro p hp e
      obtain ⟨j, hj⟩ := List.mem_iff_getElem?.1 hp
      have h5 : (m.map (fun p => (enc p.1, p.2)))[j]? = some (enc p.1, p.2) := by rw [List.getElem?_map, hj]; rfl
      rw [← he, List.getElem?_map] at h5
      rcases hm : es.toList[j]? with _ | e0
      · rw [hm] at h5; simp at h5
      · rw [hm] at h5
        simp only [Option.map_some, Option.some.injEq, Prod.mk.injEq] at h5
        exact h2 e0 (List.mem_of_getElem? hm) (by rw [h5.1, e])
    refine .inl ⟨h1, getM_none h4, fun hc => ?_⟩
    obtain ⟨p, hp, e⟩ := List.mem_map.1 hc
    exact h4 p hp e
  · obtain ⟨p, hp, h4, h5⟩ := keys_nth he h2
    have e : p.1 = x := K.inj _ _ (by rw [← h4, h3])
    have hg := getM_nth hn hp
    obtain ⟨px, pv⟩ := p
    dsimp only at e hg h5
    subst e
    exact .inr ⟨j, pv, by rw [h1, h5], hg, hp⟩
end

end Go.Proofs.Ytmaogkgjiplckaa
