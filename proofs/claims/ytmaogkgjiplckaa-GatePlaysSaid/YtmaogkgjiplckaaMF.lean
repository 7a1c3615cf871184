import Derived.Test.YtmaogkgjiplckaaMH
import Derived.WideKeyEntry
import Derived.Deep.Slices
import Derived.Lib.SmallJoins
set_option linter.unusedSimpArgs false
set_option linter.unusedVariables false
namespace Go.Proofs.Ytmaogkgjiplckaa
open Go.RowKit
section
variable {P : Program} {κ : Type} [DecidableEq κ] {enc : κ → Value} {ok : κ → Prop} {k e t : TypeId}
open Go.ChangeMaps (setBlock heap_setBlock_same heap_setBlock_other)
open Go.ChangeShapes Go.WideShapes
/-- a map, one of whose entries bears a stamp -/
def MapS (enc : κ → Value) (ok : κ → Prop) (w : World) (b : Nat) (m : List (κ × Value)) (x : κ) (stamp : Int) : Prop :=
  ∃ (es : Array MapEntry) (clock j : Nat) (e0 : MapEntry) (v : Value), w.heap[b]? = some (.map es clock) ∧ es.toList.map (fun e => (e.key, e.val)) = m.map (fun p => (enc p.1, p.2)) ∧ (m.map (·.1)).Nodup ∧ (∀ p ∈ m, ok p.1) ∧
    (es.toList.map (·.born)).Pairwise (· < ·) ∧ (∀ e ∈ es.toList, e.born < clock) ∧ m[j]? = some (x, v) ∧ es.toList[j]? = some e0 ∧ (e0.born : Int) = stamp
theorem MapV.entry {w : World} {b : Nat} {m : List (κ × Value)} (h : MapV enc ok w b m) (K : KeyE P k enc ok) (ht : P.underlying t = some (.map k e)) {x : κ} (hx : ok x) {z : Value} (hz : ∀ u : World, (zeroValue e).run P u = .ok z u) :
    ∃ w' v stamp m1, (Instr.mapEntry t (.map (some b)) (enc x)).run P w = .ok (.tuple #[v, .int .i64 stamp]) w' ∧ MapS enc ok w' b m1 x stamp ∧ (∀ y, y ≠ x → getM m1 y = getM m y) ∧ w.grownBy w' (some b) := by
  obtain ⟨es, clock, hb, he, hn, ho, hp, hc⟩ := h
  obtain ⟨lx, hlx⟩ := K.key x hx
  have hg : ∀ o, w.grownBy (setBlock w b o) (some b) := fun o => ⟨rfl, rfl, rfl, by simp [setBlock], fun i _ hi => heap_setBlock_other hb _ (fun e => hi (by rw [e]))⟩
  rcases MapV.find K he hn ho hx w with ⟨h1, h2, h3⟩ | ⟨j, v0, h1, h2, h3⟩
  · refine ⟨setBlock w b (.map (es.push { key := enc x, val := z, born := clock }) (clock + 1)), z, clock, m ++ [(x, z)], ?_, ⟨_, _, m.length, { key := enc x, val := z, born := clock }, z, heap_setBlock_same hb _, ?_, ?_, ?_, ?_, ?_, ?_, ?_, rfl⟩, ?_, hg _⟩
    · simp [Instr.mapEntry, run_underlying ht, MapKept.run_getObj_map hb, K.law.check w _ hlx, h1, hz, goInt, MapKept.run_setObj_map _ hb, Result.andThen, setBlock]
    · simp [he]
    · rw [List.map_append]
      refine List.nodup_append.2 ⟨hn, by simp, fun a ha c hc => ?_⟩
      simp at hc
      subst hc
      exact fun e => h3 (e ▸ ha)
    · intro p hp
      rcases List.mem_append.1 hp with hp | hp
      · exact ho p hp
      · simp at hp; subst hp; exact hx
    · rw [Array.toList_push, List.map_append]
      refine List.pairwise_append.2 ⟨hp, by simp, fun a ha c hc' => ?_⟩
      simp at hc'
      subst hc'
      obtain ⟨e0, he0, rfl⟩ := List.mem_map.1 ha
      exact hc e0 he0
    · intro e0 he0
      rw [Array.toList_push] at he0
      rcases List.mem_append.1 he0 with he0 | he0
      · have := hc e0 he0; omega
      · simp at he0; subst he0; simp
    · simp
    · have hl : es.size = m.length := by have := congrArg List.length he; simpa using this
      rw [← hl]; simp
    · intro y hy
      have := get_put m x y z
      unfold putM at this
      rw [if_neg h3, if_neg hy] at this
      exact this
  · have hj : ∃ e0, es.toList[j]? = some e0 ∧ e0.key = enc x := by
      have h5 : (m.map (fun p => (enc p.1, p.2)))[j]? = some (enc x, v0) := by rw [List.getElem?_map, h3]; rfl
      rw [← he, List.getElem?_map] at h5
      rcases hm : es.toList[j]? with _ | e0
      · rw [hm] at h5; simp at h5
      · rw [hm] at h5
        simp only [Option.map_some, Option.some.injEq, Prod.mk.injEq] at h5
        exact ⟨e0, rfl, h5.1⟩
    obtain ⟨e0, hj, hk0⟩ := hj
    have hj' : es[j]? = some e0 := by simpa using hj
    have hself : (es.modify j fun e => { e with key := enc x }) = es := by
      apply Array.ext_getElem?
      intro i
      rw [Array.getElem?_modify]
      by_cases hi : j = i
      · subst hi
        rw [if_pos rfl, hj']
        simp only [Option.map_some, Option.some.injEq]
        rw [← hk0]
      · rw [if_neg hi]
    refine ⟨setBlock w b (.map es clock), v0, e0.born, m, ?_, ⟨es, clock, j, e0, v0, heap_setBlock_same hb _, he, hn, ho, hp, hc, h3, hj, rfl⟩, fun _ _ => rfl, hg _⟩
    simp [Instr.mapEntry, run_underlying ht, MapKept.run_getObj_map hb, K.law.check w _ hlx, h1, hj', hk0, K.law.stays w hlx, hself, goInt, MapKept.run_setObj_map _ hb, Result.andThen, setBlock]
theorem MapS.store {w : World} {b : Nat} {m : List (κ × Value)} {x : κ} {stamp : Int} (h : MapS enc ok w b m x stamp) (u : Value) :
    ∃ w' m', (Instr.entryStore t (.map (some b)) (.int .i64 stamp) u).run P w = .ok () w' ∧ MapV enc ok w' b m' ∧ (∀ y, getM m' y = if y = x then some u else getM m y) ∧ w.grownBy w' (some b) := by
  obtain ⟨es, clock, j, e0, v, hb, he, hn, ho, hp, hc, h3, hj, hs⟩ := h
  have hg : ∀ o, w.grownBy (setBlock w b o) (some b) := fun o => ⟨rfl, rfl, rfl, by simp [setBlock], fun i _ hi => heap_setBlock_other hb _ (fun e => hi (by rw [e]))⟩
  have hbn : (es.toList.map (·.born)).Nodup := hp.imp (fun h => Nat.ne_of_lt h)
  have hf := Go.WideElems.findIdx_born hbn hj
  rw [hs] at hf
  rw [← Go.WideElems.findIdx_arr] at hf
  have hmem : x ∈ m.map (·.1) := List.mem_map.2 ⟨_, List.mem_of_getElem? h3, rfl⟩
  have hset : (es.modify j fun e => { e with val := u }).toList = es.toList.modify j fun e => { e with val := u } := by simp
  refine ⟨setBlock w b (.map (es.modify j fun e => { e with val := u }) clock), putM m x u, ?_, ⟨_, _, heap_setBlock_same hb _, ?_, ?_, ?_, ?_, ?_⟩, fun y => get_put m x y u, hg _⟩
  · simp [Instr.entryStore, MapKept.run_getObj_map hb, asInt, asIntOf, hf, MapKept.run_setObj_map _ hb, Result.andThen, setBlock]
  · unfold putM; rw [if_pos hmem, hset]
    apply List.ext_getElem?
    intro i
    have hi := congrArg (fun l => l[i]?) he
    simp only [List.getElem?_map] at hi
    rw [List.getElem?_map, List.getElem?_map, List.getElem?_map]
    by_cases e : j = i
    · subst e
      rw [mod_eq, hj, h3]
      rw [hj, h3] at hi
      simp at hi ⊢
      exact hi.1
    · rw [mod_ne _ _ e, hi]
      rcases hm : m[i]? with _ | p
      · rfl
      · simp only [Option.map_some]
        have hne : p.1 ≠ x := by
          intro e2
          have h6 : (m.map (·.1))[i]? = some x := by rw [List.getElem?_map, hm]; simp [e2]
          have h7 : (m.map (·.1))[j]? = some x := by rw [List.getElem?_map, h3]; rfl
          exact e (nodup_idx hn h7 h6)
        rw [if_neg hne]
  · unfold putM; rw [if_pos hmem]
    have : (m.map fun p => if p.1 = x then (x, u) else p).map (·.1) = m.map (·.1) := by
      rw [List.map_map]
      refine List.map_congr_left fun p _ => ?_
      show (if p.1 = x then (x, u) else p).1 = p.1
      split
      · rename_i e; exact e.symm
      · rfl
    rw [this]; exact hn
  · unfold putM; rw [if_pos hmem]
    intro p hp
    obtain ⟨q, hq, rfl⟩ := List.mem_map.1 hp
    split
    · exact (show ok x from ho (x, v) (List.mem_of_getElem? h3))
    · exact ho q hq
  · have : (es.modify j fun e => { e with val := u }).toList.map (·.born) = es.toList.map (·.born) := by
      rw [hset]
      apply List.ext_getElem?
      intro i
      rw [List.getElem?_map, List.getElem?_map]
      by_cases e : j = i
      · subst e; rw [mod_eq, hj]; simp
      · rw [mod_ne _ _ e]
    rw [this]; exact hp
  · intro e1 he1
    rw [hset] at he1
    obtain ⟨i, hi⟩ := List.mem_iff_getElem?.1 he1
    by_cases e : j = i
    · subst e; rw [mod_eq, hj] at hi; simp at hi; subst hi; exact hc e0 (List.mem_of_getElem? hj)
    · rw [mod_ne _ _ e] at hi
      exact hc e1 (List.mem_of_getElem? hi)
end

end Go.Proofs.Ytmaogkgjiplckaa

set_option linter.unusedSimpArgs false
set_option linter.unusedVariables false
namespace Go.Proofs.Ytmaogkgjiplckaa
open Go.RowKit
section
variable {P : Program} {κ : Type} [DecidableEq κ] {enc : κ → Value} {ok : κ → Prop} {k e t : TypeId} {ops : Array Oper} {rest : List Oper} {o : Oper} {a : Act} {w : World} {Q : Exit → Act → World → Prop}
theorem wl_mapEntry (hgd : o.guard = none) (m x : Operand) (t : TypeId) (hop : o.op = Op.mapEntry t m x) (k e : TypeId) (K : KeyE P k enc ok) (ht : P.underlying t = some (.map k e)) (z : Value) (hz : ∀ u : World, (zeroValue e).run P u = .ok z u)
    (b : Nat) (M : List (κ × Value)) (hm : a.eval m = .map (some b)) (hM : MapV enc ok w b M) (y : κ) (hx : a.eval x = enc y) (hy : ok y)
    (h : ∀ w' v stamp m1, MapS enc ok w' b m1 y stamp → (∀ u, u ≠ y → getM m1 u = getM M u) → w.grownBy w' (some b) → wpList P ops Q rest (a.put o.dst (.tuple #[v, .int .i64 stamp])) w') : wpList P ops Q (o :: rest) a w :=
  wpList_plain hgd fun _ hK => by
    obtain ⟨w', v, stamp, m1, hr, h1, h2, h3⟩ := hM.entry K ht hy hz
    unfold Oper.wp
    simp only [execOp, hop, hm, hx, Sem.run_bind, hr, Result.andThen_ok]
    exact hK _ _ (h w' v stamp m1 h1 h2 h3)
theorem wl_entryStore (hgd : o.guard = none) (m s x : Operand) (t : TypeId) (hop : o.op = Op.entryStore t m s x) (b : Nat) (M : List (κ × Value)) (y : κ) (stamp : Int) (hm : a.eval m = .map (some b)) (hs : a.eval s = .int .i64 stamp) (hM : MapS enc ok w b M y stamp) (u : Value) (hv : a.eval x = u)
    (h : ∀ w' m', MapV enc ok w' b m' → (∀ v, getM m' v = if v = y then some u else getM M v) → w.grownBy w' (some b) → wpList P ops Q rest (a.put o.dst undef) w') : wpList P ops Q (o :: rest) a w :=
  wpList_plain hgd fun _ hK => by
    obtain ⟨w', m', hr, h1, h2, h3⟩ := hM.store (P := P) (t := t) u
    unfold Oper.wp
    simp only [execOp, hop, hm, hs, hv, Sem.run_bind, hr, Result.andThen_ok]
    exact hK _ _ (h w' m' h1 h2 h3)
theorem wl_insert (hgd : o.guard = none) (m x v : Operand) (t : TypeId) (hop : o.op = Op.insert t m x v) (k e : TypeId) (K : KeyE P k enc ok) (ht : P.underlying t = some (.map k e))
    (b : Nat) (M : List (κ × Value)) (hm : a.eval m = .map (some b)) (hM : MapV enc ok w b M) (y : κ) (hx : a.eval x = enc y) (hy : ok y) (u : Value) (hv : a.eval v = u)
    (h : ∀ w', MapV enc ok w' b (putM M y u) → w.grownBy w' (some b) → wpList P ops Q rest (a.put o.dst undef) w') : wpList P ops Q (o :: rest) a w :=
  wpList_plain hgd fun _ hK => by
    obtain ⟨w', hr, h1, h2⟩ := hM.update K ht hy u
    unfold Oper.wp
    simp only [execOp, hop, hm, hx, hv, Sem.run_bind, hr, Result.andThen_ok]
    exact hK _ _ (h w' h1 h2)
end

/-! the plain law of GatePlays -/
def flagI (b : Bool) : Int := if b then 1 else 2
/-- what is known of all that was answered up to now -/
structure PL (g : G) (fr : List Int) (s : Nat → Bool) (ls : List Int) (bs : List Bool) (M : List (Int × Value)) : Prop where
  gi : GI g fr s
  all : ∀ x ∈ ls, isL g.n x
  eq : bs = ls.map (lit s)
  map : ∀ y v, getM M y = some v → isL g.n y ∧ v = .int .i64 (flagI (lit s y))
theorem PL.step {g g' : G} {fr fr' : List Int} {s s' : Nat → Bool} {ls : List Int} {bs : List Bool} {M M' : List (Int × Value)} (h : PL g fr s ls bs M) (hs : Step g s g' s') (hI : GI g' fr' s') {k : Int} (hk : isL g'.n k) {b : Bool} (hb : lit s' k = b)
    (hM : ∀ y, getM M' y = if y = -k then some (.int .i64 (flagI (!b))) else if y = k then some (.int .i64 (flagI b)) else getM M y) : PL g' fr' s' (ls ++ [k]) (bs ++ [b]) M' := by
  refine ⟨hI, fun x hx => ?_, ?_, fun y v hv => ?_⟩
  · rcases List.mem_append.1 hx with hx | hx
    · exact hs.isL (h.all x hx)
    · rw [List.mem_singleton] at hx; subst hx; exact hk
  · rw [List.map_append, h.eq, step_map hs h.all, List.map_singleton, hb]
  · rw [hM] at hv
    split at hv
    · rename_i e; cases hv; subst e
      exact ⟨hk.neg, by rw [lit_neg hk.1, hb]⟩
    · split at hv
      · rename_i e; cases hv; subst e
        exact ⟨hk, by rw [hb]⟩
      · obtain ⟨h1, h2⟩ := h.map y v hv
        exact ⟨hs.isL h1, by rw [h2, hs.lit h1]⟩
/-- a value that is known -/
theorem PL.val {g : G} {fr : List Int} {s : Nat → Bool} {ls : List Int} {bs : List Bool} {M : List (Int × Value)} (h : PL g fr s ls bs M) (y : Int) : ((getM M y).getD (.int .i64 0) = .int .i64 0 ∧ getM M y = none) ∨ (isL g.n y ∧ (getM M y).getD (.int .i64 0) = .int .i64 (flagI (lit s y))) := by
  rcases hm : getM M y with _ | v
  · exact .inl ⟨rfl, rfl⟩
  · obtain ⟨h1, h2⟩ := h.map y v hm
    exact .inr ⟨h1, h2⟩

end Go.Proofs.Ytmaogkgjiplckaa

set_option linter.unusedSimpArgs false
set_option linter.unusedVariables false
namespace Go.Proofs.Ytmaogkgjiplckaa
open Go.RowKit
def litP (ls : List Int) (raw : Bool) (n : Int) : Int := if raw then n else if n.tmod ls.length < 0 then -(ls.getD (-(n.tmod ls.length)).toNat 0) else ls.getD (n.tmod ls.length).toNat 0
def callR (g : G) (kind x y z : Int) : Option (G × Int) := if kind = 1 then (if allL g.n [x, y] then some (both g x y) else none) else if kind = 2 then (if allL g.n [x, y] then some (odd g x y) else none) else if allL g.n [x, y, z] then some (choice g x y z) else none
def wantP (kind : Int) (x y z : Bool) : Bool := if kind = 1 then x && y else if kind = 2 then x != y else (x && y) || (!x && z)
set_option maxRecDepth 100000 in
theorem flag_any (b : Bool) (w : World) : Calls Try.prog 19 #[.bool b] w fun e w' => e = .returned (.int .i64 (flagI b)) ∧ w' = w := by
  cases b
  · go_enter Try.func19, Try.ntmps19
    (repeat (first | (with_reducible first | refine xA ?_ | refine xB ?_ | refine xC ?_ | refine xD ?_ | refine xH ?_ | refine xI rfl ?_ | refine xE ?_ | refine xF ?_ | refine xG ?_) | go_values | go_skip | go_guarded | go_step | go_upon | go_back | ((with_reducible show Oper.upon _ _ _ _ _ _); go_simp) | (dsimp only)))
    go_ret
    exact ⟨rfl, rfl⟩
  · go_enter Try.func19, Try.ntmps19
    (repeat (first | (with_reducible first | refine xA ?_ | refine xB ?_ | refine xC ?_ | refine xD ?_ | refine xH ?_ | refine xI rfl ?_ | refine xE ?_ | refine xF ?_ | refine xG ?_) | go_values | go_skip | go_guarded | go_step | go_upon | go_back | ((with_reducible show Oper.upon _ _ _ _ _ _); go_simp) | (dsimp only)))
    go_ret
    exact ⟨rfl, rfl⟩
set_option maxRecDepth 100000 in
theorem wanted_any (kind : Int) (x y z : Bool) (w : World) : Calls Try.prog 22 #[.int .i64 kind, .bool x, .bool y, .bool z] w fun e w' => e = .returned (.bool (wantP kind x y z)) ∧ w' = w := by
  unfold wantP
  by_cases h1 : kind = 1
  · subst h1
    cases x <;> cases y
    all_goals
      go_enter Try.func22, Try.ntmps22
      (repeat (first | (with_reducible first | refine xA ?_ | refine xB ?_ | refine xC ?_ | refine xD ?_ | refine xH ?_ | refine xI rfl ?_ | refine xE ?_ | refine xF ?_ | refine xG ?_) | go_values | go_skip | go_guarded | go_step | go_upon | go_back | ((with_reducible show Oper.upon _ _ _ _ _ _); go_simp) | (dsimp only)))
      go_ret
      exact ⟨rfl, rfl⟩
  have f1 : (kind == 1) = false := by simpa using h1
  by_cases h2 : kind = 2
  · subst h2
    cases x <;> cases y
    all_goals
      go_enter Try.func22, Try.ntmps22
      (repeat (first | (with_reducible first | refine xA ?_ | refine xB ?_ | refine xC ?_ | refine xD ?_ | refine xH ?_ | refine xI rfl ?_ | refine xE ?_ | refine xF ?_ | refine xG ?_) | go_values | go_skip | go_guarded | go_step | go_upon | go_back | ((with_reducible show Oper.upon _ _ _ _ _ _); go_simp) | (dsimp only)))
      go_ret
      exact ⟨rfl, rfl⟩
  have f2 : (kind == 2) = false := by simpa using h2
  rw [if_neg h1, if_neg h2]
  clear h1 h2
  cases x <;> cases y <;> cases z
  all_goals
    go_enter Try.func22, Try.ntmps22
    (repeat (first | (with_reducible first | refine xA ?_ | refine xB ?_ | refine xC ?_ | refine xD ?_ | refine xH ?_ | refine xI rfl ?_ | refine xE ?_ | refine xF ?_ | refine xG ?_) | go_values | go_skip | go_guarded | go_step | go_upon | go_back | ((with_reducible show Oper.upon _ _ _ _ _ _); go_simp) | (dsimp only)))
    go_ret
    exact ⟨rfl, rfl⟩
set_option maxRecDepth 100000 in
theorem call_any {X : Nat → Prop} {base gb : Nat} {g : G} {fr : List Int} {s : Nat → Bool} (w : World) (hG : GR X base w gb g) (hba : base ≤ w.heap.size) (kind x y z : Int) (hn : g.n + 3 ≤ 1048576) (hI : GI g fr s) (r : Option (G × Int)) (hr : Hid (callR g kind x y z = r)) :
    Calls Try.prog 21 #[.pointer (some ⟨gb, 0, none⟩), .int .i64 kind, .int .i64 x, .int .i64 y, .int .i64 z] w (IntR X base gb g w r) := by
  by_cases h1 : kind = 1
  · subst h1
    have H := Lib.hid (And_any w hG hba x y hn hI r (Lib.hid (by rw [← hr.out]; rfl)))
    clear hG hba hn hI hr
    go_enter Try.func21, Try.ntmps21
    rcases r with _ | r
    · (repeat (first | (with_reducible first | refine xA ?_ | refine xB ?_ | refine xC ?_ | refine xD ?_ | refine xH ?_ | refine xI rfl ?_ | refine xE ?_ | refine xF ?_ | refine xG ?_) | go_skip | go_guarded | (go_at_call 33; (with_reducible refine (H.out).mono ?_); rintro _ w1 ⟨rfl, h1, h2⟩) | go_values | go_skip | go_guarded | go_step | go_upon | go_back | ((with_reducible show Oper.upon _ _ _ _ _ _); go_simp) | (dsimp only)))
      go_ret
      exact ⟨rfl, h1, h2⟩
    · (repeat (first | (with_reducible first | refine xA ?_ | refine xB ?_ | refine xC ?_ | refine xD ?_ | refine xH ?_ | refine xI rfl ?_ | refine xE ?_ | refine xF ?_ | refine xG ?_) | go_skip | go_guarded | (go_at_call 33; (with_reducible refine (H.out).mono ?_); rintro _ w1 ⟨rfl, h1, h2⟩) | go_values | go_skip | go_guarded | go_step | go_upon | go_back | ((with_reducible show Oper.upon _ _ _ _ _ _); go_simp) | (dsimp only)))
      go_ret
      exact ⟨rfl, h1, h2⟩
  have f1 : (kind == 1) = false := by simpa using h1
  by_cases h2 : kind = 2
  · subst h2
    have H := Lib.hid (Xor_any w hG hba x y hn hI r (Lib.hid (by rw [← hr.out]; rfl)))
    clear hG hba hn hI hr
    go_enter Try.func21, Try.ntmps21
    rcases r with _ | r
    · (repeat (first | (with_reducible first | refine xA ?_ | refine xB ?_ | refine xC ?_ | refine xD ?_ | refine xH ?_ | refine xI rfl ?_ | refine xE ?_ | refine xF ?_ | refine xG ?_) | go_skip | go_guarded | (go_at_call 44; (with_reducible refine (H.out).mono ?_); rintro _ w1 ⟨rfl, h1, h2⟩) | go_values | go_skip | go_guarded | go_step | go_upon | go_back | ((with_reducible show Oper.upon _ _ _ _ _ _); go_simp) | (dsimp only)))
      go_ret
      exact ⟨rfl, h1, h2⟩
    · (repeat (first | (with_reducible first | refine xA ?_ | refine xB ?_ | refine xC ?_ | refine xD ?_ | refine xH ?_ | refine xI rfl ?_ | refine xE ?_ | refine xF ?_ | refine xG ?_) | go_skip | go_guarded | (go_at_call 44; (with_reducible refine (H.out).mono ?_); rintro _ w1 ⟨rfl, h1, h2⟩) | go_values | go_skip | go_guarded | go_step | go_upon | go_back | ((with_reducible show Oper.upon _ _ _ _ _ _); go_simp) | (dsimp only)))
      go_ret
      exact ⟨rfl, h1, h2⟩
  have f2 : (kind == 2) = false := by simpa using h2
  have H := Lib.hid (If_any w hG hba x y z hn hI r (Lib.hid (by rw [← hr.out]; unfold callR; rw [if_neg h1, if_neg h2])))
  clear hG hba hn hI hr h1 h2
  go_enter Try.func21, Try.ntmps21
  rcases r with _ | r
  · (repeat (first | (with_reducible first | refine xA ?_ | refine xB ?_ | refine xC ?_ | refine xD ?_ | refine xH ?_ | refine xI rfl ?_ | refine xE ?_ | refine xF ?_ | refine xG ?_) | go_skip | go_guarded | (go_at_call 45; (with_reducible refine (H.out).mono ?_); rintro _ w1 ⟨rfl, h1, h2⟩) | go_values | go_skip | go_guarded | go_step | go_upon | go_back | ((with_reducible show Oper.upon _ _ _ _ _ _); go_simp) | (dsimp only)))
    go_ret
    exact ⟨rfl, h1, h2⟩
  · (repeat (first | (with_reducible first | refine xA ?_ | refine xB ?_ | refine xC ?_ | refine xD ?_ | refine xH ?_ | refine xI rfl ?_ | refine xE ?_ | refine xF ?_ | refine xG ?_) | go_skip | go_guarded | (go_at_call 45; (with_reducible refine (H.out).mono ?_); rintro _ w1 ⟨rfl, h1, h2⟩) | go_values | go_skip | go_guarded | go_step | go_upon | go_back | ((with_reducible show Oper.upon _ _ _ _ _ _); go_simp) | (dsimp only)))
    go_ret
    exact ⟨rfl, h1, h2⟩

end Go.Proofs.Ytmaogkgjiplckaa

set_option linter.unusedSimpArgs false
set_option linter.unusedVariables false
namespace Go.Proofs.Ytmaogkgjiplckaa
open Go.RowKit
set_option maxRecDepth 100000 in
theorem lit_any {Y : Nat → Prop} (w : World) (v : Value) (ls : List Int) (hl : SlX Y w v ls) (hp : 0 < ls.length) (hle : ls.length ≤ 1000) (hb : ∀ x ∈ ls, -1048576 ≤ x ∧ x ≤ 1048576) (raw : Bool) (n : Int) (hn : -9223372036854775808 ≤ n ∧ n ≤ 9223372036854775807) (r : Int) (hr : Hid (litP ls raw n = r)) :
    Calls Try.prog 17 #[v, .bool raw, .int .i64 n] w fun e w' => e = .returned (.int .i64 r) ∧ w' = w := by
  obtain ⟨b, o, c, rfl, hR⟩ : ∃ b o c, v = .slice (some ⟨b, o, none⟩) ls.length c ∧ RowI w b o ls := by
    obtain ⟨a, c, rfl⟩ := hl.shape
    obtain ⟨b, o, rfl, _, _, _, hR⟩ := hl.row hp
    exact ⟨b, o, c, rfl, hR⟩
  cases raw
  · have hL0 : (0 : Int) < (ls.length : Int) := by omega
    have h1 := Int.tmod_lt_of_pos n hL0
    have h2 := Int.lt_tmod_of_pos n hL0
    obtain ⟨K, hK⟩ : ∃ K, n.tmod (ls.length : Int) = K := ⟨_, rfl⟩
    have hr' := hr.out
    unfold litP at hr'
    simp only [Bool.false_eq_true, if_false] at hr'
    rw [hK] at hr' h1 h2
    by_cases hneg : K < 0
    · rw [if_pos hneg] at hr'
      obtain ⟨x, hx⟩ : ∃ x, ls[(-K).toNat]? = some x := ⟨_, List.getElem?_eq_getElem (by omega)⟩
      have hc := hR _ x hx
      have hxb := hb x (List.mem_of_getElem? hx)
      have e : r = -x := by rw [← hr', List.getD_eq_getElem?_getD, hx]; rfl
      subst e
      clear hr hr' hR hx hb hl
      have hz : ((ls.length : Int) == 0) = false := beq_eq_false_iff_ne.2 (by omega)
      have i1 : (0 : Int) ≤ -K := by omega
      have i2 : -K < (ls.length : Int) := by omega
      go_enter Try.func17, Try.ntmps17
      (repeat (first | (with_reducible first | refine xA ?_ | refine xB ?_ | refine xC ?_ | refine xD ?_ | refine xH ?_ | refine xI rfl ?_ | refine xE ?_ | refine xF ?_ | refine xG ?_) | go_values | go_skip | go_guarded | go_step | go_upon | go_back | ((with_reducible show Oper.upon _ _ _ _ _ _); go_simp) | (dsimp only)))
      go_ret
      exact ⟨rfl, rfl⟩
    · rw [if_neg hneg] at hr'
      obtain ⟨x, hx⟩ : ∃ x, ls[K.toNat]? = some x := ⟨_, List.getElem?_eq_getElem (by omega)⟩
      have hc := hR _ x hx
      have hxb := hb x (List.mem_of_getElem? hx)
      have e : r = x := by rw [← hr', List.getD_eq_getElem?_getD, hx]; rfl
      subst e
      clear hr hr' hR hx hb hl
      have hz : ((ls.length : Int) == 0) = false := beq_eq_false_iff_ne.2 (by omega)
      have i1 : (0 : Int) ≤ K := by omega
      go_enter Try.func17, Try.ntmps17
      (repeat (first | (with_reducible first | refine xA ?_ | refine xB ?_ | refine xC ?_ | refine xD ?_ | refine xH ?_ | refine xI rfl ?_ | refine xE ?_ | refine xF ?_ | refine xG ?_) | go_values | go_skip | go_guarded | go_step | go_upon | go_back | ((with_reducible show Oper.upon _ _ _ _ _ _); go_simp) | (dsimp only)))
      go_ret
      exact ⟨rfl, rfl⟩
  · have e : r = n := by rw [← hr.out]; rfl
    subst e
    clear hr
    go_enter Try.func17, Try.ntmps17
    (repeat (first | (with_reducible first | refine xA ?_ | refine xB ?_ | refine xC ?_ | refine xD ?_ | refine xH ?_ | refine xI rfl ?_ | refine xE ?_ | refine xF ?_ | refine xG ?_) | go_values | go_skip | go_guarded | go_step | go_upon | go_back | ((with_reducible show Oper.upon _ _ _ _ _ _); go_simp) | (dsimp only)))
    go_ret
    exact ⟨rfl, rfl⟩

end Go.Proofs.Ytmaogkgjiplckaa

set_option linter.unusedSimpArgs false
set_option linter.unusedVariables false
namespace Go.Proofs.Ytmaogkgjiplckaa
open Go.RowKit
/-! rows of one's own, several, each in a block of its own -/
structure Rw where
  t : TypeId
  v : Value
  n : Nat
  xs : List Value
def Rw.ok (w : World) (B : Nat) (r : Rw) : Prop := w.ownsRow B r.t 1 r.v r.n r.xs
def Rw.apart (r q : Rw) : Prop := ∀ k, r.v.ownBlock = some k → q.v.ownBlock ≠ some k
structure Bundle (w : World) (B : Nat) (a b c : Rw) : Prop where
  oa : a.ok w B
  ob : b.ok w B
  oc : c.ok w B
  ab : a.apart b
  ac : a.apart c
  bc : b.apart c
theorem Rw.apart.symm {r q : Rw} (h : r.apart q) : q.apart r := fun k e e' => h k e' e
theorem Rw.ok.kept {w w' : World} {B : Nat} {r : Rw} (h : r.ok w B) {Y : Nat → Prop} (hk : Kept Y w w') (hy : ∀ k, r.v.ownBlock = some k → Y k) : r.ok w' B := owns_kept h hk hy
theorem Rw.ok.alloc {w : World} {B : Nat} {r : Rw} (h : r.ok w B) (o : Obj) : r.ok (w.alloc o) B := World.ownsRow.alloc h o
/-- another row grows -/
theorem Rw.ok.beside {w w' : World} {B : Nat} {r q : Rw} (h : r.ok w B) (hg : w.grownBy w' q.v.ownBlock) (ha : q.apart r) : r.ok w' B := by
  refine h.kept (Y := fun k => q.v.ownBlock ≠ some k) ⟨hg.os, hg.tape, hg.output, hg.size, fun i hi hx => hg.block i hi (fun e => hx e.symm)⟩ ?_
  intro k e e'
  exact ha k e' e
theorem Rw.apart.grow {w : World} {B : Nat} {q q' r : Rw} (h : q.apart r) (hr : r.ok w B) (hl : q'.v.ownBlock = q.v.ownBlock ∨ q'.v.ownBlock = some w.heap.size) : q'.apart r := by
  intro k e e'
  rcases hl with hl | hl
  · exact h k (hl ▸ e) e'
  · rw [hl] at e; cases e
    have := (World.ownsRow.lt hr _ e').2
    omega
section
variable {w w' : World} {B : Nat} {a b c q : Rw}
theorem Bundle.alloc (h : Bundle w B a b c) (o : Obj) : Bundle (w.alloc o) B a b c := ⟨h.oa.alloc o, h.ob.alloc o, h.oc.alloc o, h.ab, h.ac, h.bc⟩
theorem Bundle.kept (h : Bundle w B a b c) {Y : Nat → Prop} (hk : Kept Y w w') (h1 : ∀ k, a.v.ownBlock = some k → Y k) (h2 : ∀ k, b.v.ownBlock = some k → Y k) (h3 : ∀ k, c.v.ownBlock = some k → Y k) : Bundle w' B a b c := ⟨h.oa.kept hk h1, h.ob.kept hk h2, h.oc.kept hk h3, h.ab, h.ac, h.bc⟩
theorem Bundle.pushA (h : Bundle w B a b c) (hq : q.ok w' B) (hg : w.grownBy w' a.v.ownBlock) (hl : q.v.ownBlock = a.v.ownBlock ∨ q.v.ownBlock = some w.heap.size) : Bundle w' B q b c :=
  ⟨hq, h.ob.beside hg h.ab, h.oc.beside hg h.ac, h.ab.grow h.ob hl, h.ac.grow h.oc hl, h.bc⟩
theorem Bundle.pushB (h : Bundle w B a b c) (hq : q.ok w' B) (hg : w.grownBy w' b.v.ownBlock) (hl : q.v.ownBlock = b.v.ownBlock ∨ q.v.ownBlock = some w.heap.size) : Bundle w' B a q c :=
  ⟨h.oa.beside hg h.ab.symm, hq, h.oc.beside hg h.bc, (h.ab.symm.grow h.oa hl).symm, h.ac, h.bc.grow h.oc hl⟩
theorem Bundle.pushC (h : Bundle w B a b c) (hq : q.ok w' B) (hg : w.grownBy w' c.v.ownBlock) (hl : q.v.ownBlock = c.v.ownBlock ∨ q.v.ownBlock = some w.heap.size) : Bundle w' B a b q :=
  ⟨h.oa.beside hg h.ac.symm, h.ob.beside hg h.bc.symm, hq, h.ab, (h.ac.symm.grow h.oa hl).symm, (h.bc.symm.grow h.ob hl).symm⟩
end

/-- as app_turn, at rows of any cells of one -/
theorem app_turnX {Y : Nat → Prop} {base gb B n m : Nat} {T : TypeId} {w w' : World} {g : G} {v v' : Value} {l l' : List Value} (ho : w.ownsRow B T 1 v n l) (ho' : w'.ownsRow B T 1 v' m l') (hg : w.grownBy w' v.ownBlock) (hl : v'.ownBlock = v.ownBlock ∨ v'.ownBlock = some w.heap.size) (hG : GR Y base w gb g) (hY : ∀ k, v.ownBlock = some k → Y k) : GR (fun k => Y k ∨ v'.ownBlock = some k) base w' gb g := by
  have hx := hG.xb
  refine hG.turn hg hY ?_ ?_
  · rintro k (h | h)
    · exact .inl h
    · rcases hl with e | e
      · rw [e] at h; exact .inl (hY k h)
      · rw [e] at h; cases h; exact .inr (Nat.le_refl _)
  · rintro k (h | h)
    · exact Nat.lt_of_lt_of_le (hx k h) hg.size
    · exact (ho'.lt k h).2
/-- all that the law keeps while it plays: the rows l, is, from; the map; the gates -/
structure PM (w0 : World) (base gb B mv : Nat) (w : World) (g : G) (ls fr : List Int) (bs : List Bool) (M : List (Int × Value)) (vl vb vf : Value) : Prop where
  bd : Bundle w B ⟨3, vl, ls.length, ls.map (Value.int .i64)⟩ ⟨4, vb, bs.length, bs.map Value.bool⟩ ⟨3, vf, fr.length, fr.map (Value.int .i64)⟩
  mp : MapV encI okI w mv M
  mb : w0.heap.size ≤ mv
  mn : vl.ownBlock ≠ some mv ∧ vb.ownBlock ≠ some mv ∧ vf.ownBlock ≠ some mv
  bz : w0.heap.size ≤ B ∧ B ≤ w.heap.size
  gr : ∃ X : Nat → Prop, GR X base w gb g ∧ (∀ k, k < w0.heap.size → X k) ∧ X mv ∧ (∀ k, vl.ownBlock = some k → X k) ∧ (∀ k, vb.ownBlock = some k → X k) ∧ ∀ k, vf.ownBlock = some k → X k
  kp : Kept (fun k => k < w0.heap.size) w0 w
section
variable {w0 w w' : World} {base gb B mv : Nat} {g g' : G} {ls fr : List Int} {bs : List Bool} {M : List (Int × Value)} {vl vb vf v' : Value}
theorem PM.alloc (h : PM w0 base gb B mv w g ls fr bs M vl vb vf) (o : Obj) : PM w0 base gb B mv (w.alloc o) g ls fr bs M vl vb vf := by
  obtain ⟨X, h1, h2⟩ := h.gr
  exact ⟨h.bd.alloc o, h.mp.kept ((Kept.refl (fun _ => True) w).alloc o) trivial, h.mb, h.mn, ⟨h.bz.1, by have := h.bz.2; simp; omega⟩, ⟨X, h1.alloc o, h2⟩, h.kp.alloc o⟩
theorem PM.below (h : PM w0 base gb B mv w g ls fr bs M vl vb vf) (hb : Below w.heap.size w w') : PM w0 base gb B mv w' g ls fr bs M vl vb vf := by
  obtain ⟨X, h1, h2⟩ := h.gr
  have hk := Kept.ofBelow (X := fun _ => True) hb
  exact ⟨h.bd.kept hk (fun _ _ => trivial) (fun _ _ => trivial) (fun _ _ => trivial), h.mp.kept hk trivial, h.mb, h.mn, ⟨h.bz.1, Nat.le_trans h.bz.2 hb.size⟩, ⟨X, h1.below hb, h2⟩, h.kp.trans (Kept.ofBelow hb)⟩
/-- a gate is made -/
theorem PM.gate (h : PM w0 base gb B mv w g ls fr bs M vl vb vf) {X : Nat → Prop} (hX : (∀ k, k < w0.heap.size → X k) ∧ X mv ∧ (∀ k, vl.ownBlock = some k → X k) ∧ (∀ k, vb.ownBlock = some k → X k) ∧ ∀ k, vf.ownBlock = some k → X k) (hG : GR X base w' gb g') (hk : Kept X w w') : PM w0 base gb B mv w' g' ls fr bs M vl vb vf :=
  ⟨h.bd.kept hk hX.2.2.1 hX.2.2.2.1 hX.2.2.2.2, h.mp.kept hk hX.2.1, h.mb, h.mn, ⟨h.bz.1, Nat.le_trans h.bz.2 hk.size⟩, ⟨X, hG, hX⟩, h.kp.trans (hk.mono fun k _ hx => hX.1 k hx)⟩
theorem PM.keepRow (h : PM w0 base gb B mv w g ls fr bs M vl vb vf) {v : Value} {T n : Nat} {l : List Value} (ho : w.ownsRow B T 1 v n l) (hg : w.grownBy w' v.ownBlock) (hm : v.ownBlock ≠ some mv) : Kept (fun k => k < w0.heap.size) w0 w' ∧ MapV encI okI w' mv M :=
  ⟨h.kp.grown hg (fun q e hl _ => by have := (ho.lt q e).1; have := h.bz.1; omega), h.mp.same (hg.block _ h.mp.lt (fun e => hm e.symm))⟩
theorem PM.new (h : PM w0 base gb B mv w g ls fr bs M vl vb vf) {v : Value} (hl : v'.ownBlock = v.ownBlock ∨ v'.ownBlock = some w.heap.size) (hm : v.ownBlock ≠ some mv) : v'.ownBlock ≠ some mv := by
  have := h.mp.lt
  rcases hl with e | e
  · rw [e]; exact hm
  · rw [e]; intro e; injection e with e; omega
theorem PM.pushL (h : PM w0 base gb B mv w g ls fr bs M vl vb vf) {x : Int} (ho : w'.ownsRow B 3 1 v' (ls.length + 1) ((ls ++ [x]).map (Value.int .i64))) (hg : w.grownBy w' vl.ownBlock) (hl : v'.ownBlock = vl.ownBlock ∨ v'.ownBlock = some w.heap.size) : PM w0 base gb B mv w' g (ls ++ [x]) fr bs M v' vb vf := by
  obtain ⟨X, hG, x0, x1, x2, x3, x4⟩ := h.gr
  obtain ⟨k1, k2⟩ := h.keepRow h.bd.oa hg h.mn.1
  refine ⟨h.bd.pushA (q := ⟨3, v', (ls ++ [x]).length, _⟩) (by rw [List.length_append, List.length_singleton]; exact ho) hg hl, k2, h.mb, ⟨h.new hl h.mn.1, h.mn.2⟩, ⟨h.bz.1, Nat.le_trans h.bz.2 hg.size⟩, ⟨_, app_turnX h.bd.oa ho hg hl hG x2, fun k hk => .inl (x0 k hk), .inl x1, fun k e => .inr e, fun k e => .inl (x3 k e), fun k e => .inl (x4 k e)⟩, k1⟩
theorem PM.pushB (h : PM w0 base gb B mv w g ls fr bs M vl vb vf) {x : Bool} (ho : w'.ownsRow B 4 1 v' (bs.length + 1) ((bs ++ [x]).map Value.bool)) (hg : w.grownBy w' vb.ownBlock) (hl : v'.ownBlock = vb.ownBlock ∨ v'.ownBlock = some w.heap.size) : PM w0 base gb B mv w' g ls fr (bs ++ [x]) M vl v' vf := by
  obtain ⟨X, hG, x0, x1, x2, x3, x4⟩ := h.gr
  obtain ⟨k1, k2⟩ := h.keepRow h.bd.ob hg h.mn.2.1
  refine ⟨h.bd.pushB (q := ⟨4, v', (bs ++ [x]).length, _⟩) (by rw [List.length_append, List.length_singleton]; exact ho) hg hl, k2, h.mb, ⟨h.mn.1, h.new hl h.mn.2.1, h.mn.2.2⟩, ⟨h.bz.1, Nat.le_trans h.bz.2 hg.size⟩, ⟨_, app_turnX h.bd.ob ho hg hl hG x3, fun k hk => .inl (x0 k hk), .inl x1, fun k e => .inl (x2 k e), fun k e => .inr e, fun k e => .inl (x4 k e)⟩, k1⟩
theorem PM.pushF (h : PM w0 base gb B mv w g ls fr bs M vl vb vf) {x : Int} (ho : w'.ownsRow B 3 1 v' (fr.length + 1) ((fr ++ [x]).map (Value.int .i64))) (hg : w.grownBy w' vf.ownBlock) (hl : v'.ownBlock = vf.ownBlock ∨ v'.ownBlock = some w.heap.size) : PM w0 base gb B mv w' g ls (fr ++ [x]) bs M vl vb v' := by
  obtain ⟨X, hG, x0, x1, x2, x3, x4⟩ := h.gr
  obtain ⟨k1, k2⟩ := h.keepRow h.bd.oc hg h.mn.2.2
  refine ⟨h.bd.pushC (q := ⟨3, v', (fr ++ [x]).length, _⟩) (by rw [List.length_append, List.length_singleton]; exact ho) hg hl, k2, h.mb, ⟨h.mn.1, h.mn.2.1, h.new hl h.mn.2.2⟩, ⟨h.bz.1, Nat.le_trans h.bz.2 hg.size⟩, ⟨_, app_turnX h.bd.oc ho hg hl hG x4, fun k hk => .inl (x0 k hk), .inl x1, fun k e => .inl (x2 k e), fun k e => .inl (x3 k e), fun k e => .inr e⟩, k1⟩
theorem PM.map (h : PM w0 base gb B mv w g ls fr bs M vl vb vf) {M' : List (Int × Value)} (hm : MapV encI okI w' mv M') (hg : w.grownBy w' (some mv)) : PM w0 base gb B mv w' g ls fr bs M' vl vb vf := by
  obtain ⟨X, hG, x0, x1, x2, x3, x4⟩ := h.gr
  have hk : Kept (fun k => k ≠ mv) w w' := ⟨hg.os, hg.tape, hg.output, hg.size, fun i hi hx => hg.block i hi (fun e => hx (by injection e))⟩
  have hb := h.mb
  exact ⟨h.bd.kept hk (fun k e e' => h.mn.1 (e' ▸ e)) (fun k e e' => h.mn.2.1 (e' ▸ e)) (fun k e e' => h.mn.2.2 (e' ▸ e)), hm, hb, h.mn, ⟨h.bz.1, Nat.le_trans h.bz.2 hg.size⟩, ⟨X, hG.other hg x1, x0, x1, x2, x3, x4⟩, h.kp.grown hg (fun q e hl _ => by injection e with e; omega)⟩
end

end Go.Proofs.Ytmaogkgjiplckaa

set_option linter.unusedSimpArgs false
set_option linter.unusedVariables false
namespace Go.Proofs.Ytmaogkgjiplckaa
open Go.RowKit
/-! acts as they lie in memory -/
open Go.ChangeShapes Go.WideShapes Go.Deep Go.Joins
structure Ac where
  kind : Int
  raw : Bool
  x : Int
  y : Int
  z : Int
instance : Inhabited Ac := ⟨⟨0, false, 0, 0, 0⟩⟩
def Ac.cells (d : Ac) : List Value := [.int .i64 d.kind, .bool d.raw, .int .i64 d.x, .int .i64 d.y, .int .i64 d.z]
def AcWf (d : Ac) : Prop := (-9223372036854775808 ≤ d.kind ∧ d.kind ≤ 9223372036854775807) ∧ (-9223372036854775808 ≤ d.x ∧ d.x ≤ 9223372036854775807) ∧ (-9223372036854775808 ≤ d.y ∧ d.y ≤ 9223372036854775807) ∧ (-9223372036854775808 ≤ d.z ∧ d.z ≤ 9223372036854775807)
/-- acts lie from b, o on -/
def RowA (w : World) (b o : Nat) (ls : List Ac) : Prop := ∀ i d, ls[i]? = some d → ∀ j c, d.cells[j]? = some c → w.cell? ⟨b, o + (5 * i + j), none⟩ = some c
/-- a slice of acts, in blocks of X -/
def SlA (X : Nat → Prop) (w : World) (v : Value) (ls : List Ac) : Prop :=
  ∃ ao cap, v = .slice ao ls.length cap ∧ (ls ≠ [] → ∃ b o, ao = some ⟨b, o, none⟩ ∧ X b ∧ RowA w b o ls)
theorem RowA.kept {X : Nat → Prop} {w w' : World} {b o : Nat} {ls : List Ac} (h : RowA w b o ls) (hk : Kept X w w') (hx : X b) : RowA w' b o ls :=
  fun i d hi j c hj => hk.cell (h i d hi j c hj) hx
theorem ldA (w : World) (b o : Nat) (d : Ac) (h : ∀ j c, d.cells[j]? = some c → w.cell? ⟨b, o + j, none⟩ = some c) : (Instr.loadAt 41 (.pointer (some ⟨b, o, none⟩))).run Try.prog w = .ok (.agg d.cells.toArray) w := by
  have h0 := h 0 _ rfl
  have h1 := h 1 _ rfl
  have h2 := h 2 _ rfl
  have h3 := h 3 _ rfl
  have h4 := h 4 _ rfl
  clear h
  simp only [Nat.add_zero] at h0
  unfold Ac.cells
  go_simp
theorem sizeA : (Try.prog.info? 41).map (·.size) = some 5 := by kernel_rfl
theorem infoB : (Try.prog.info? 4).map (fun i => (i.zero, i.size, i.bytes)) = some (some (.bool false), 1, 1) := by kernel_rfl
section
variable {ops : Array Oper} {rest : List Oper} {o : Oper} {a : Act} {w : World} {Q : Exit → Act → World → Prop}
/-- an act is read whole -/
theorem wl_ldA (hgd : o.guard = none) (x : Operand) (ho : o.op = .load 41 x) (b q : Nat) (d : Ac) (hx : a.eval x = .pointer (some ⟨b, q, none⟩)) (hc : ∀ j c, d.cells[j]? = some c → w.cell? ⟨b, q + j, none⟩ = some c)
    (h : wpList Try.prog ops Q rest (a.put o.dst (.agg d.cells.toArray)) w) : wpList Try.prog ops Q (o :: rest) a w :=
  wpList_plain hgd fun _ hK => by
    unfold Oper.wp execOp
    simp only [ho, hx, Sem.run_bind, ldA w b q d hc, Result.andThen_ok]
    exact hK _ _ h
/-- one bool, appended to a row of one's own -/
theorem wl_pushB (hgd : o.guard = none) (s x : Operand) (ho : o.op = .call { callee := .builtin .append, args := #[s, x], argTypes := #[38, 38] }) (base : Nat) (v : Value) (n : Nat) (l : List Bool) (hs : a.eval s = v) (hown : w.ownsRow base 4 1 v n (l.map Value.bool)) (b : Nat) (u : Bool) (hx : a.eval x = .slice (some ⟨b, 0, none⟩) 1 1) (hb : w.cell? ⟨b, 0, none⟩ = some (.bool u)) (hn : n ≤ 1000000000) (hbase : base ≤ w.heap.size)
    (h : ∀ v' w', w'.ownsRow base 4 1 v' (n + 1) ((l ++ [u]).map Value.bool) → w.grownBy w' v.ownBlock → (v'.ownBlock = v.ownBlock ∨ v'.ownBlock = some w.heap.size) → wpList Try.prog ops Q rest (a.put o.dst v') w') : wpList Try.prog ops Q (o :: rest) a w := by
  obtain ⟨i0, hi0, hz0, hz1, hz2⟩ := info_parts infoB
  refine wpList_append_own_at _ hgd s x 38 ho base 4 i0 (.bool false) 1 1 Try.underlying38 hi0 hz0 hz1 hz2 rfl (by decide) v n _ hs hown ⟨b, 0, none⟩ 1 1 [.bool u] hx rfl ?_ (by simp [Value.oneCell']) (by simp only [maxLen]; omega) (by omega) hbase ?_
  · intro j y hj
    rcases j with _ | j
    · simp at hj; subst hj
      simpa [Addr.add] using hb
    · simp at hj
  · intro v' w' h1 h2 _ h4
    exact h v' w' (by rw [List.map_append]; exact h1) h2 h4
/-- a whole struct, stored into a block that is known whole -/
theorem wl_store_row {P : Program} (hgd : o.guard = none) (ty : TypeId) (x y : Operand) (ho : o.op = .store ty x y) (g : Nat) (hx : a.eval x = .pointer (some ⟨g, 0, none⟩)) (cs ds : Array Value) (t : TypeId) (hy : a.eval y = .agg ds)
    (hg : w.heap[g]? = some (.cells cs t (0, 0))) (hi : (P.info? ty).map (·.size) = some ds.size) (hs : ds.size = cs.size) (h1 : ds.all (·.oneCell') = true)
    (h : ∀ w', w'.heap[g]? = some (.cells ds t (0, 0)) → w.grownBy w' (some g) → wpList P ops Q rest (a.put o.dst undef) w') : wpList P ops Q (o :: rest) a w :=
  wpList_plain hgd fun _ hK => by
    have hr := run_storeVar_row (P := P) w g t ty cs ds hg hi hs.symm h1
    unfold Oper.wp execOp
    simp only [ho, hx, hy, Instr.storeAt, Instr.sureAddr, Sem.run_bind, Sem.run_pure, Result.andThen_ok, hr]
    exact hK _ _ (h _ (setRow_heap w g cs ds t _ hg) ⟨rfl, rfl, rfl, by simp, fun k hk hn => setRow_other w g k ds (fun e => hn (by rw [e]))⟩)
end

/-! the argument as it is read -/
set_option maxRecDepth 100000
section
variable {H : Type} {enc : TypeId × Value → H} {w : World}
theorem five {l : List Value} (h : l.length = 5) : ∃ a b c d e, l = [a, b, c, d, e] := by
  match l, h with
  | [a, b, c, d, e], _ => exact ⟨a, b, c, d, e, rfl⟩
theorem cells_int : Try.prog.cellsOf 3 = 1 := by kernel_rfl
theorem cells_bool : Try.prog.cellsOf 4 = 1 := by kernel_rfl
theorem cells_Act : Try.prog.cellsOf 41 = 5 := by kernel_rfl
theorem bounds_int {n : Int} (h : (Lit.int .i64 n).wf = true) : -9223372036854775808 ≤ n ∧ n ≤ 9223372036854775807 := by
  simp [Lit.wf, IntKind.min, IntKind.max, IntKind.bits, IntKind.signed] at h; omega
theorem trod_struct5 {P : Program} {spare : Nat → Bool} {held : Bool} {base : Nat} {t : TypeId} {f0 f1 f2 f3 f4 : Field} {fuel : Nat} {cs : List Value} {x : DataW H × List MemPlace} (ht : P.underlying t = some (.struct #[f0, f1, f2, f3, f4])) (h : DataW.trod enc P w base spare held fuel t cs = some x) :
    ∃ y0 y1 y2 y3 y4 n, DataW.trod enc P w base spare held n f0.type ((cs.drop f0.offset).take (P.cellsOf f0.type)) = some y0 ∧ DataW.trod enc P w base spare held n f1.type ((cs.drop f1.offset).take (P.cellsOf f1.type)) = some y1 ∧ DataW.trod enc P w base spare held n f2.type ((cs.drop f2.offset).take (P.cellsOf f2.type)) = some y2 ∧
      DataW.trod enc P w base spare held n f3.type ((cs.drop f3.offset).take (P.cellsOf f3.type)) = some y3 ∧ DataW.trod enc P w base spare held n f4.type ((cs.drop f4.offset).take (P.cellsOf f4.type)) = some y4 := by
  obtain ⟨xs, n, _, rfl, hl, hlen, hf⟩ := DataW.trod_struct ht h
  match xs, hlen with
  | [y0, y1, y2, y3, y4], _ => exact ⟨y0, y1, y2, y3, y4, n, by simpa using hf 0 f0 rfl, by simpa using hf 1 f1 rfl, by simpa using hf 2 f2 rfl, by simpa using hf 3 f3 rfl, by simpa using hf 4 f4 rfl⟩
theorem read_act {n : Nat} {cs : List Value} {y : DataW H × List MemPlace} (hl : cs.length = 5) (h : DataW.trod enc Try.prog w 0 (fun _ => true) true n 41 cs = some y) : ∃ d : Ac, cs = d.cells ∧ AcWf d := by
  obtain ⟨c0, c1, c2, c3, c4, rfl⟩ := five hl
  obtain ⟨y0, y1, y2, y3, y4, m, h0, h1, h2, h3, h4⟩ := trod_struct5 Try.underlying41 h
  try dsimp only at h0 h1 h2 h3 h4
  rw [cells_int] at h0 h2 h3 h4
  rw [cells_bool] at h1
  simp only [List.drop_zero, List.drop_succ_cons, List.take_succ_cons, List.take_zero] at h0 h1 h2 h3 h4
  obtain ⟨k0, e0, _, w0⟩ := DataW.trod_int Try.underlying3 h0
  obtain ⟨k1, e1, _⟩ := DataW.trod_bool Try.underlying4 h1
  obtain ⟨k2, e2, _, w2⟩ := DataW.trod_int Try.underlying3 h2
  obtain ⟨k3, e3, _, w3⟩ := DataW.trod_int Try.underlying3 h3
  obtain ⟨k4, e4, _, w4⟩ := DataW.trod_int Try.underlying3 h4
  injection e0 with e0 _
  injection e1 with e1 _
  injection e2 with e2 _
  injection e3 with e3 _
  injection e4 with e4 _
  subst e0; subst e1; subst e2; subst e3; subst e4
  exact ⟨⟨k0, k1, k2, k3, k4⟩, rfl, bounds_int w0, bounds_int w2, bounds_int w3, bounds_int w4⟩
theorem open_acts {fuel : Nat} {v : Value} {x : DataW H × List MemPlace} (h : DataW.trod enc Try.prog w 0 (fun _ => true) true fuel 37 [v] = some x) : ∃ ls, SlA (fun k => k < w.heap.size) w v ls ∧ ∀ a ∈ ls, AcWf a := by
  rcases Go.Deep.open_slice Try.underlying37 h with ⟨h0, _⟩ | ⟨a, len, cap, m, n, D, Pl, hcs, _, hl, hm, hmm, _, hx⟩
  · injection h0 with h1 _
    subst h1
    exact ⟨[], ⟨none, 0, rfl, fun h => absurd rfl h⟩, by simp⟩
  · injection hcs with h1 _
    subst h1
    simp only [if_true] at hmm
    subst hmm
    obtain ⟨A, hA⟩ := Go.Deep.choose_lt (α := Ac) (p := fun i y => w.cells? 0 (a.add (i * 5)) 5 = some y.cells ∧ AcWf y) (n := len) (fun i hi => by
      obtain ⟨cs', h1, h2⟩ := hx i (by omega)
      rw [cells_Act] at h1
      obtain ⟨y, rfl, hy⟩ := read_act (World.cells?_some h1).2.1 h2
      exact ⟨y, h1, hy⟩)
    refine ⟨(List.range len).map A, ⟨some a, m, by simp, fun hne => ?_⟩, ?_⟩
    · have hp : 0 < len := by
        rcases Nat.eq_zero_or_pos len with h | h
        · subst h; exact absurd rfl hne
        · exact h
      obtain ⟨_, hl0, hc0⟩ := World.cells?_some (hA 0 hp).1
      have h1 := hc0 0 (by decide)
      rw [List.getElem?_eq_getElem (by rw [hl0]; decide)] at h1
      have h2 := World.cell?_spot h1
      have h3 := World.block_lt_of_cell? w _ h1
      have hsp : a.spot = none := by simpa [Addr.add] using h2
      have hbl : a.block < w.heap.size := by simpa [Addr.add] using h3
      obtain ⟨b, o, sp⟩ := a
      dsimp only at hsp
      subst hsp
      refine ⟨b, o, rfl, hbl, fun i d hi j c hj => ?_⟩
      rw [List.getElem?_map] at hi
      have hil : i < len := by
        rcases Nat.lt_or_ge i len with h | h
        · exact h
        · rw [List.getElem?_eq_none (by simpa using h)] at hi; cases hi
      rw [List.getElem?_range hil] at hi
      obtain rfl := Option.some.inj hi
      obtain ⟨_, hln, hcn⟩ := World.cells?_some (hA i hil).1
      have hjl : j < 5 := by
        rcases Nat.lt_or_ge j 5 with h | h
        · exact h
        · rw [List.getElem?_eq_none (by rw [hln]; exact h)] at hj; cases hj
      have h3 := hcn j hjl
      rw [hj, Go.Deep.add_add] at h3
      have e1 : (⟨b, o, none⟩ : Addr).add (i * 5 + j) = ⟨b, o + (5 * i + j), none⟩ := by
        unfold Addr.add
        rw [Nat.mul_comm i 5]
        split
        · rename_i h0; rw [h0]; rfl
        · rfl
      rw [e1] at h3
      exact h3
    · intro y hy
      obtain ⟨i, hi, rfl⟩ := List.mem_map.1 hy
      exact (hA i (List.mem_range.1 hi)).2
end

end Go.Proofs.Ytmaogkgjiplckaa

set_option linter.unusedSimpArgs false
set_option linter.unusedVariables false
namespace Go.Proofs.Ytmaogkgjiplckaa
open Go.RowKit
/-! what the plays keep, plain -/
def valI (M : List (Int × Value)) (y : Int) : Int := match getM M y with
  | some (.int _ v) => v
  | _ => 0
theorem flagI_pos (b : Bool) : (flagI b == 1) = b ∧ (flagI b == 0) = false ∧ (flagI b != 0) = true := by cases b <;> decide
structure PI (k : Nat) (g : G) (fr : List Int) (s : Nat → Bool) (ls : List Int) (bs : List Bool) (M : List (Int × Value)) : Prop where
  pl : PL g fr s ls bs M
  nn : g.n ≤ 1 + 3 * k
  ll : ls.length ≤ 1 + k
  l0 : 0 < ls.length
  ff : fr.length ≤ k
section
variable {k : Nat} {g : G} {fr : List Int} {s : Nat → Bool} {ls : List Int} {bs : List Bool} {M : List (Int × Value)}
theorem PI.val (h : PI k g fr s ls bs M) (y : Int) : (getM M y).getD (.int .i64 0) = .int .i64 (valI M y) ∧ (valI M y = 0 ∨ (isL g.n y ∧ valI M y = flagI (lit s y))) := by
  unfold valI
  rcases hm : getM M y with _ | v
  · exact ⟨rfl, .inl rfl⟩
  · obtain ⟨h1, rfl⟩ := h.pl.map y v hm
    exact ⟨rfl, .inr ⟨h1, rfl⟩⟩
theorem PI.same (h : PI k g fr s ls bs M) : PI (k + 1) g fr s ls bs M := ⟨h.pl, by have := h.nn; omega, by have := h.ll; omega, h.l0, by have := h.ff; omega⟩
theorem PI.start : PI 0 newG [] (fun _ => true) [1] [true] (putM (putM [] 1 (.int .i64 1)) (-1) (.int .i64 2)) := by
  refine ⟨⟨newG_ok, ?_, rfl, ?_⟩, by decide, by decide, by decide, by decide⟩
  · intro x hx; rw [List.mem_singleton] at hx; subst hx; unfold isL newG; decide
  · intro y v hv
    rw [get_put, get_put] at hv
    split at hv
    · rename_i e; subst e; cases hv; exact ⟨by unfold isL newG; decide, rfl⟩
    · split at hv
      · rename_i e; subst e; cases hv; exact ⟨by unfold isL newG; decide, rfl⟩
      · simp [getM] at hv
theorem PI.bl (h : PI k g fr s ls bs M) : bs.length = ls.length := by rw [h.pl.eq, List.length_map]
/-- a free variable -/
theorem PI.free (h : PI k g fr s ls bs M) (b : Bool) {z : Int} (hz : (g.n : Int) + 1 = z) {f : Int} (hf : f = if b then z else -z) :
    ∃ s', isL (g.n + 1) z ∧ ∀ M', (∀ y, getM M' y = if y = -z then some (.int .i64 (flagI (!b))) else if y = z then some (.int .i64 (flagI b)) else getM M y) → PI (k + 1) ⟨g.n + 1, g.cl, g.an, g.xo⟩ (fr ++ [f]) s' (ls ++ [z]) (bs ++ [b]) M' := by
  obtain ⟨s', h1, h2, h3, h4, h5⟩ := free_ok h.pl.gi b
  subst hz
  subst hf
  exact ⟨s', h4, fun M' hM => ⟨h.pl.step h2 h1 h4 h5 hM, by show g.n + 1 ≤ _; have := h.nn; omega, by have := h.ll; simp; omega, by simp, by have := h.ff; simp; omega⟩⟩
theorem allL_ok {n : Nat} {l : List Int} (h : allL n l = true) : ∀ x ∈ l, isL n x := allL_iff.1 h
/-- a gate -/
theorem PI.call (h : PI k g fr s ls bs M) {kind x y z : Int} (hx : isL g.n x) (hy : isL g.n y) (hz : kind < 3 ∨ isL g.n z) (hk : 1 ≤ kind ∧ kind ≤ 3) {b1 b2 b3 : Bool} (h1 : b1 = lit s x) (h2 : b2 = lit s y) (h3 : kind < 3 ∨ b3 = lit s z) :
    ∃ r s', callR g kind x y z = some r ∧ isL r.1.n r.2 ∧ r.1.n ≤ g.n + 3 ∧ (valI M r.2 = 0 ∨ valI M r.2 = flagI (wantP kind b1 b2 b3)) ∧
      ∀ M', (∀ y, getM M' y = if y = -r.2 then some (.int .i64 (flagI (!wantP kind b1 b2 b3))) else if y = r.2 then some (.int .i64 (flagI (wantP kind b1 b2 b3))) else getM M y) → PI (k + 1) r.1 fr s' (ls ++ [r.2]) (bs ++ [wantP kind b1 b2 b3]) M' := by
  have key : ∃ r, callR g kind x y z = some r ∧ Ans g fr s 3 r (wantP kind b1 b2 b3) := by
    have up : ∀ {r : G × Int} {b : Bool}, Ans g fr s 1 r b → Ans g fr s 3 r b := fun ⟨s', a1, a2, a3, a4⟩ => ⟨s', a1, a2, by omega, a4⟩
    unfold callR wantP
    subst h1; subst h2
    by_cases e1 : kind = 1
    · rw [if_pos e1, if_pos e1, if_pos (allL_iff.2 (by intro a ha; simp at ha; rcases ha with rfl | rfl <;> assumption))]
      exact ⟨_, rfl, up (both_ok h.pl.gi hx hy)⟩
    by_cases e2 : kind = 2
    · rw [if_neg e1, if_neg e1, if_pos e2, if_pos e2, if_pos (allL_iff.2 (by intro a ha; simp at ha; rcases ha with rfl | rfl <;> assumption))]
      exact ⟨_, rfl, up (odd_ok h.pl.gi hx hy)⟩
    have e3 : ¬ kind < 3 := by omega
    have hz := hz.resolve_left e3
    have h3 := h3.resolve_left e3
    subst h3
    rw [if_neg e1, if_neg e1, if_neg e2, if_neg e2, if_pos (allL_iff.2 (by intro a ha; simp at ha; rcases ha with rfl | rfl | rfl <;> assumption))]
    refine ⟨_, rfl, ?_⟩
    have := choice_ok h.pl.gi hx hy hz
    have e : (lit s x && lit s y || !lit s x && lit s z) = if lit s x then lit s y else lit s z := by cases lit s x <;> cases lit s y <;> cases lit s z <;> rfl
    rw [e]; exact this
  obtain ⟨r, hr, s', a1, a2, a3, a4, a5⟩ := key
  refine ⟨r, s', hr, a4, a3, ?_, fun M' hM => ⟨h.pl.step a2 a1 a4 a5 hM, by have := h.nn; omega, by have := h.ll; simp; omega, by simp, by have := h.ff; omega⟩⟩
  rcases (h.val r.2).2 with hv | ⟨hv1, hv2⟩
  · exact .inl hv
  · right
    rw [hv2, ← a5, a2.lit hv1]
/-- a refused call -/
theorem call_none {kind x y z : Int} (hk : 1 ≤ kind ∧ kind ≤ 3) (h : ¬ isL g.n x ∨ ¬ isL g.n y ∨ (¬ kind < 3 ∧ ¬ isL g.n z)) : callR g kind x y z = none := by
  have two : ¬ isL g.n x ∨ ¬ isL g.n y → ¬ allL g.n [x, y] = true := by
    rintro (h | h) e
    · exact h (allL_iff.1 e x (by simp))
    · exact h (allL_iff.1 e y (by simp))
  unfold callR
  by_cases e1 : kind = 1
  · rw [if_pos e1, if_neg (two (by rcases h with h | h | ⟨h, _⟩ <;> first | exact .inl h | exact .inr h | omega))]
  by_cases e2 : kind = 2
  · rw [if_neg e1, if_pos e2, if_neg (two (by rcases h with h | h | ⟨h, _⟩ <;> first | exact .inl h | exact .inr h | omega))]
  rw [if_neg e1, if_neg e2, if_neg ?_]
  intro e
  rcases h with h | h | ⟨_, h⟩
  · exact h (allL_iff.1 e x (by simp))
  · exact h (allL_iff.1 e y (by simp))
  · exact h (allL_iff.1 e z (by simp))
end
theorem litP_bound {g : G} {s : Nat → Bool} {fr ls : List Int} {bs : List Bool} {M : List (Int × Value)} {k : Nat} (h : PI k g fr s ls bs M) (hk : k ≤ 100) (raw : Bool) {n : Int} (hn : -9223372036854775808 ≤ n ∧ n ≤ 9223372036854775807) : -9223372036854775808 ≤ litP ls raw n ∧ litP ls raw n ≤ 9223372036854775807 := by
  have hb : ∀ j, -1048576 ≤ ls.getD j 0 ∧ ls.getD j 0 ≤ 1048576 := by
    intro j
    rw [List.getD_eq_getElem?_getD]
    rcases hj : ls[j]? with _ | x
    · exact ⟨by decide, by decide⟩
    · obtain ⟨a, b, c⟩ := h.pl.all x (List.mem_of_getElem? hj)
      have := h.nn
      simp only [Option.getD_some]
      omega
  unfold litP
  split
  · exact hn
  · split
    · have := hb (-(n.tmod ls.length)).toNat; omega
    · have := hb (n.tmod ls.length).toNat; omega

end Go.Proofs.Ytmaogkgjiplckaa

set_option linter.unusedSimpArgs false
set_option linter.unusedVariables false
namespace Go.Proofs.Ytmaogkgjiplckaa
open Go.RowKit
theorem grown_both {a b c : World} {r : Option Nat} (h : a.grownBy b r) (k : b.grownBy c r) : a.grownBy c r :=
  ⟨k.os.trans h.os, k.tape.trans h.tape, k.output.trans h.output, Nat.le_trans h.size k.size, fun i hi hn => (k.block i (Nat.lt_of_lt_of_le hi h.size) hn).trans (h.block i hi hn)⟩
theorem PM.start {w0 w1 w2 w3 : World} {base gb : Nat} {M : List (Int × Value)} (hk : Kept (fun k => k < w0.heap.size) w0 w1) (hG : GR (fun k => k < w0.heap.size) base w1 gb newG)
    (hg2 : ((((w1.alloc (.cells #[.int .i64 1] 3)).alloc (.cells #[.bool true] 4)).alloc (.cells #[] 3)).alloc (.map #[] 0)).grownBy w2 (some (w1.heap.size + 1 + 1 + 1))) (hg3 : w2.grownBy w3 (some (w1.heap.size + 1 + 1 + 1))) (hM : MapV encI okI w3 (w1.heap.size + 1 + 1 + 1) M) :
    PM w0 base gb w1.heap.size (w1.heap.size + 1 + 1 + 1) w3 newG [1] [] [true] M (.slice (some ⟨w1.heap.size, 0, none⟩) 1 1) (.slice (some ⟨w1.heap.size + 1, 0, none⟩) 1 1) (.slice (some ⟨w1.heap.size + 1 + 1, 0, none⟩) 0 0) := by
  obtain ⟨wa, ha⟩ : ∃ wa, w1.alloc (.cells #[.int .i64 1] 3) = wa := ⟨_, rfl⟩
  obtain ⟨wb, hb⟩ : ∃ wb, wa.alloc (.cells #[.bool true] 4) = wb := ⟨_, rfl⟩
  obtain ⟨wc, hc⟩ : ∃ wc, wb.alloc (.cells #[] 3) = wc := ⟨_, rfl⟩
  have sa : wa.heap.size = w1.heap.size + 1 := by rw [← ha]; simp
  have sb : wb.heap.size = w1.heap.size + 1 + 1 := by rw [← hb]; simp [sa]
  have sc : wc.heap.size = w1.heap.size + 1 + 1 + 1 := by rw [← hc]; simp [sb]
  have hg := grown_both hg2 hg3
  rw [ha, hb, hc] at hg
  have oa : wa.ownsRow w1.heap.size 3 1 (.slice (some ⟨w1.heap.size, 0, none⟩) 1 1) 1 [.int .i64 1] := by
    have := World.ownsRow_lit (base := w1.heap.size) (e := 3) (size := 1) w1 #[.int .i64 1] 1 (Nat.le_refl _) (by decide) rfl
    rw [ha] at this; exact this
  have ob : wb.ownsRow w1.heap.size 4 1 (.slice (some ⟨w1.heap.size + 1, 0, none⟩) 1 1) 1 [.bool true] := by
    have := World.ownsRow_lit (base := w1.heap.size) (e := 4) (size := 1) wa #[.bool true] 1 (by omega) (by decide) rfl
    rw [hb, sa] at this; exact this
  have oc : wc.ownsRow w1.heap.size 3 1 (.slice (some ⟨w1.heap.size + 1 + 1, 0, none⟩) 0 0) 0 [] := by
    have := World.ownsRow_lit (base := w1.heap.size) (e := 3) (size := 1) wb #[] 0 (by omega) (by decide) rfl
    rw [hc, sb] at this; exact this
  have al : ∀ {w : World} {T n : Nat} {v : Value} {l : List Value} (o : Obj) {w' : World}, w.alloc o = w' → w.ownsRow w1.heap.size T 1 v n l → w'.ownsRow w1.heap.size T 1 v n l := fun o _ e h => e ▸ h.alloc o
  have wd : (wc.alloc (.map #[] 0)).heap.size = w1.heap.size + 1 + 1 + 1 + 1 := by simp [sc]
  have ka := (((al _ rfl (al _ hc (al _ hb oa)) : (wc.alloc (.map #[] 0)).ownsRow w1.heap.size 3 1 _ 1 _))).kept hg (.inr (by intro e; injection e with e; dsimp only at e; omega))
  have kb := (((al _ rfl (al _ hc ob) : (wc.alloc (.map #[] 0)).ownsRow w1.heap.size 4 1 _ 1 _))).kept hg (.inr (by intro e; injection e with e; dsimp only at e; omega))
  have kc := (((al _ rfl oc : (wc.alloc (.map #[] 0)).ownsRow w1.heap.size 3 1 _ 0 _))).kept hg (.inr (by intro e; injection e with e; dsimp only at e; omega))
  have hk4 : Kept (fun k => k < w0.heap.size) w0 (wc.alloc (.map #[] 0)) := by rw [← hc, ← hb, ← ha]; exact (((hk.alloc _).alloc _).alloc _).alloc _
  have hgn : w1.grownBy (wc.alloc (.map #[] 0)) none := by
    have hk5 : Kept (fun _ => True) w1 (wc.alloc (.map #[] 0)) := by rw [← hc, ← hb, ← ha]; exact ((((Kept.refl _ _).alloc _).alloc _).alloc _).alloc _
    exact ⟨hk5.os, hk5.tape, hk5.output, hk5.size, fun k hk _ => hk5.block k hk trivial⟩
  have hG4 := (hG.turn (Y' := fun k => k < w0.heap.size ∨ (w1.heap.size ≤ k ∧ k < w1.heap.size + 1 + 1 + 1 + 1)) hgn (fun q e => by cases e) (fun k h => h.elim .inl fun h => .inr h.1) (fun k h => by have := hk.size; rw [wd]; omega)).other hg (.inr ⟨by omega, by omega⟩)
  refine ⟨⟨ka, kb, kc, ?_, ?_, ?_⟩, hM, by have := hk.size; omega, ⟨?_, ?_, ?_⟩, ⟨hk.size, by have := hg.size; omega⟩, ⟨_, hG4, fun k h => .inl h, .inr ⟨by omega, by omega⟩, ?_, ?_, ?_⟩, hk4.grown hg (fun q e h => by injection e with e; have := hk.size; omega)⟩
  all_goals first
    | (intro k e e'; injection e with e; injection e' with e'; dsimp only at e e'; omega)
    | (intro e; injection e with e; dsimp only at e; omega)
    | (intro k e; injection e with e; dsimp only at e; right; constructor <;> omega)
/-- an act is laid into a block of its own -/
theorem PM.boxed {w0 w w2 : World} {base gb B mv : Nat} {g : G} {ls fr : List Int} {bs : List Bool} {M : List (Int × Value)} {vl vb vf : Value} (h : PM w0 base gb B mv w g ls fr bs M vl vb vf) {o : Obj} (hg : (w.alloc o).grownBy w2 (some w.heap.size)) :
    Below w.heap.size w w2 ∧ PM w0 base gb B mv w2 g ls fr bs M vl vb vf ∧ ∃ X : Nat → Prop, GR X base w2 gb g ∧ ((∀ k, k < w0.heap.size → X k) ∧ X mv ∧ (∀ k, vl.ownBlock = some k → X k) ∧ (∀ k, vb.ownBlock = some k → X k) ∧ ∀ k, vf.ownBlock = some k → X k) ∧ X w.heap.size := by
  have ha : w.grownBy (w.alloc o) none := ⟨rfl, rfl, rfl, by simp, fun k hk _ => Below.heap_alloc w o k hk⟩
  have hsz : (w.alloc o).heap.size = w.heap.size + 1 := by simp
  have hb : Below w.heap.size w w2 := ⟨hg.os.trans ha.os, hg.tape.trans ha.tape, hg.output.trans ha.output, by have := hg.size; omega, fun k hk => (hg.block k (by omega) (fun e => by injection e with e; omega)).trans (ha.block k hk (by simp))⟩
  refine ⟨hb, h.below hb, ?_⟩
  obtain ⟨X, hG, x0, x1, x2, x3, x4⟩ := h.gr
  have hxb := hG.xb
  refine ⟨fun k => X k ∨ k = w.heap.size, ?_, ⟨fun k a => .inl (x0 k a), .inl x1, fun k a => .inl (x2 k a), fun k a => .inl (x3 k a), fun k a => .inl (x4 k a)⟩, .inr rfl⟩
  exact (hG.turn ha (fun q e => by cases e) (fun k h => h.elim .inl fun h => .inr (by omega)) (fun k h => by rcases h with h | h; have := hxb k h; omega; omega)).other hg (.inr rfl)
theorem PM.lits {w0 w : World} {base gb B mv : Nat} {g : G} {ls fr : List Int} {bs : List Bool} {M : List (Int × Value)} {vl vb vf : Value} (h : PM w0 base gb B mv w g ls fr bs M vl vb vf) {s : Nat → Bool} {k : Nat} (hI : PI k g fr s ls bs M) (hk : k ≤ 60) (raw : Bool) {n : Int} (hn : -9223372036854775808 ≤ n ∧ n ≤ 9223372036854775807) (r : Int) (hr : litP ls raw n = r) :
    ∀ i, Calls Try.prog 17 #[vl, .bool raw, .int .i64 n] (w.drewN i) fun e w' => e = .returned (.int .i64 r) ∧ w' = w.drewN i := fun i => by
  have ho : w.ownsRow B 3 1 vl ls.length (ls.map (Value.int .i64)) := h.bd.oa
  have hs : SlX (fun _ => True) w vl ls := SlX.ofOwns ho fun _ _ _ => trivial
  exact lit_any _ _ ls (hs.kept ((Kept.refl _ w).drew i)) hI.l0 (by have := hI.ll; omega) (fun x hx => rng_of (hI.pl.all x hx) (by have := hI.nn; omega)) raw n hn r (Lib.hid hr)
theorem own_shape {w : World} {B T n : Nat} {v : Value} {l : List Value} (h : w.ownsRow B T 1 v n l) : ∃ a c, v = .slice a n c := by
  rcases h.2 with ⟨e, h0⟩ | ⟨g, cap, cur, e, _⟩
  · exact ⟨none, 0, by rw [e, h0]⟩
  · exact ⟨_, cap, e⟩
theorem map_eq {M m1 m8 : List (Int × Value)} {z : Int} {a b : Value} (hg : ∀ u, u ≠ z → getM m1 u = getM M u) (hE : ∀ v, getM m8 v = if v = z then some a else getM m1 v) : ∀ y, getM (putM m8 (-z) b) y = if y = -z then some b else if y = z then some a else getM M y := by
  intro y
  rw [get_put]
  split
  · rfl
  · rw [hE y]
    split
    · rfl
    · rename_i h; exact hg y h
theorem rem64 {n : Nat} (h : n ≤ 60) : ((n : Int)).tmod 64 = n := Int.tmod_eq_of_lt (by omega) (by omega)
theorem PI.vals {k : Nat} {g : G} {fr : List Int} {s : Nat → Bool} {ls : List Int} {bs : List Bool} {M : List (Int × Value)} (h : PI k g fr s ls bs M) (y : Int) : ∃ (v : Int) (e b : Bool), (getM M y).getD (.int .i64 0) = .int .i64 v ∧ (v == 0) = e ∧ (v == 1) = b ∧ (e = false → isL g.n y ∧ b = lit s y) := by
  obtain ⟨h1, h2⟩ := h.val y
  refine ⟨valI M y, _, _, h1, rfl, rfl, fun he => ?_⟩
  rcases h2 with h2 | ⟨h2, h3⟩
  · rw [h2] at he; simp at he
  · exact ⟨h2, by rw [h3]; exact (flagI_pos _).1⟩
/-- what is known of k, at any draws -/
theorem PM.look {w0 w : World} {base gb B mv : Nat} {g : G} {ls fr : List Int} {bs : List Bool} {M : List (Int × Value)} {vl vb vf : Value} (h : PM w0 base gb B mv w g ls fr bs M vl vb vf) {y v : Int} (hy : okI y) (hv : (getM M y).getD (.int .i64 0) = .int .i64 v) : ∀ i, (Instr.lookup 39 (.map (some mv)) (.int .i64 y) false).run Try.prog (w.drewN i) = .ok (.int .i64 v) (w.drewN i) := by
  intro i
  have hm := h.mp.kept ((Kept.refl (fun _ => True) w).drew i) trivial
  have := hm.lookup keyI Try.underlying39 (z := .int .i64 0) (zero3 _) hy false
  simp only [Bool.false_eq_true, if_false, hv] at this
  exact this
theorem flagI_ne (b : Bool) : (flagI b != flagI b) = false ∧ (flagI b != 0) = true := by cases b <;> decide
theorem PM.look0 {w0 w : World} {base gb B mv : Nat} {g : G} {ls fr : List Int} {bs : List Bool} {M : List (Int × Value)} {vl vb vf : Value} (h : PM w0 base gb B mv w g ls fr bs M vl vb vf) {y v : Int} (hy : okI y) (hv : (getM M y).getD (.int .i64 0) = .int .i64 v) : (Instr.lookup 39 (.map (some mv)) (.int .i64 y) false).run Try.prog w = .ok (.int .i64 v) w := by
  have := h.mp.lookup keyI Try.underlying39 (z := .int .i64 0) (zero3 _) hy false
  simp only [Bool.false_eq_true, if_false, hv] at this
  exact this

end Go.Proofs.Ytmaogkgjiplckaa

set_option linter.unusedSimpArgs false
set_option linter.unusedVariables false
namespace Go.Proofs.Ytmaogkgjiplckaa
open Go.RowKit
/-! the plays, walked -/
set_option maxRecDepth 100000 in
set_option maxHeartbeats 40000000 in
theorem plays_walk (w : World) (va : Value) (acts : List Ac) (hA : SlA (fun k => k < w.heap.size) w va acts) (hwf : ∀ a ∈ acts, AcWf a) (V : Int) (hV0 : 0 ≤ V) (hV1 : V < 18446744073709551616) :
    Calls Try.prog 4 #[va, .int .u64 V] w fun e w' => e = .returned (.bool true) ∧ Below w.heap.size w w' := by
  obtain ⟨ao, cap, rfl, hrow⟩ := hA
  by_cases hhi : (acts.length : Int) > 60
  · clear hrow hwf
    go_enter Try.func4, Try.ntmps4
    (repeat (first | (with_reducible first | refine xA ?_ | refine xB ?_ | refine xC ?_ | refine xD ?_ | refine xH ?_ | refine xI rfl ?_ | refine xE ?_ | refine xF ?_ | refine xG ?_) | go_skip | go_guarded | (go_at_call 9; (with_reducible refine (awake_any _).mono ?_); rintro _ w0 ⟨rfl, hb0⟩; have HB : Kept (fun k => k < w.heap.size) w w0 := Kept.ofBelow hb0; clear hb0) | go_values | go_skip | go_guarded | go_step | go_upon | go_back | ((with_reducible show Oper.upon _ _ _ _ _ _); go_simp) | (dsimp only)))
    go_ret
    exact ⟨rfl, HB.toBelow (Nat.le_refl _) fun _ h => h⟩
  have hmm := @run_makeMap Try.prog
  obtain ⟨n, hn⟩ : ∃ n, acts.length = n := ⟨_, rfl⟩
  rw [hn]
  rw [hn] at hhi
  have HN := Lib.hid hn
  have HR := Lib.hid hrow
  have HW := Lib.hid hwf
  clear hrow hwf hn
  go_enter Try.func4, Try.ntmps4
  (repeat (first | (with_reducible first | refine xA ?_ | refine xB ?_ | refine xC ?_ | refine xD ?_ | refine xH ?_ | refine xI rfl ?_ | refine xE ?_ | refine xF ?_ | refine xG ?_) | go_skip | go_guarded | (go_at_call 9; (with_reducible refine (awake_any _).mono ?_); rintro _ w0 ⟨rfl, hb0⟩; have HB : Kept (fun k => k < w.heap.size) w w0 := Kept.ofBelow hb0; clear hb0) | (go_at_call 10; (with_reducible refine (New_any (X := fun k => k < w.heap.size) _ (fun k h => Nat.lt_of_lt_of_le h HB.size)).mono ?_); rintro _ w1 ⟨gb, rfl, hG, hb1⟩; replace HB := HB.trans (Kept.ofBelow hb1); have HBA := Lib.hid hb1.size; clear hb1; have HM0 : Hid (MapV encI okI ((((w1.alloc (.cells #[.int .i64 1] 3)).alloc (.cells #[.bool true] 4)).alloc (.cells #[] 3)).alloc (.map #[] 0)) (w1.heap.size + 1 + 1 + 1) []) := Lib.hid (by have := MapV.made (enc := encI) (ok := okI) (((w1.alloc (.cells #[.int .i64 1] 3)).alloc (.cells #[.bool true] 4)).alloc (.cells #[] 3)); simpa using this)) | ((with_reducible refine wl_id ?_); refine wl_insert rfl _ _ _ 39 rfl 3 3 keyI Try.underlying39 (w1.heap.size + 1 + 1 + 1) _ rfl hM2 (-1) rfl (by unfold okI; decide) (.int .i64 2) rfl ?_; intro w3 hM3 hg3) | ((with_reducible refine wl_id ?_); refine wl_insert rfl _ _ _ 39 rfl 3 3 keyI Try.underlying39 (w1.heap.size + 1 + 1 + 1) [] rfl HM0.out 1 rfl (by unfold okI; decide) (.int .i64 1) rfl ?_; intro w2 hM2 hg2) | go_values | go_skip | go_guarded | go_step | go_upon | go_back | ((with_reducible show Oper.upon _ _ _ _ _ _); go_simp) | (dsimp only)))
  have HP0 := Lib.hid (PM.start HB hG hg2 hg3 hM3)
  obtain ⟨B, hB⟩ : ∃ B, w1.heap.size = B := ⟨_, rfl⟩
  clear hG hg2 hg3 hM2 hM3 HM0
  rw [hB] at HP0
  rw [hB]
  rw [hB] at HBA
  clear hB
  obtain ⟨mv, hmv⟩ : ∃ mv, B + 1 + 1 + 1 = mv := ⟨_, rfl⟩
  rw [hmv] at HP0
  rw [hmv]
  clear hmv HB
  go_loopw [6, 7, 8, 10] (fun vl vb vf i wr => ∃ k : Nat, k ≤ n ∧ i = .int .i64 k ∧ Hid (∃ g fr s ls bs M, PM w w0.heap.size gb B mv wr g ls fr bs M vl vb vf ∧ PI k g fr s ls bs M)) (fun _ _ _ i _ => n - (intOf i).toNat)
  case atStart => exact ⟨0, Nat.zero_le _, rfl, Lib.hid ⟨_, _, _, _, _, _, HP0.out, PI.start⟩⟩
  case round =>
    clear HP0
    obtain ⟨k, hk, rfl, HI⟩ := hrel
    rcases Nat.lt_or_ge k n with hlt | hge
    · obtain ⟨g, fr, s, ls, bs, M, hP, hI⟩ := HI.out
      obtain ⟨b, o, rfl, hbx, hRA⟩ := HR.out (by intro e; have := HN.out; rw [e] at this; simp at this; omega)
      obtain ⟨d, hd⟩ : ∃ d, acts[k]? = some d := ⟨_, List.getElem?_eq_getElem (by have := HN.out; omega)⟩
      have hdw := HW.out d (List.mem_of_getElem? hd)
      have HC := Lib.hid (show ∀ j c, d.cells[j]? = some c → wr.cell? ⟨b, (o + k * 5) + j, none⟩ = some c from fun j c hj => by
        have := hP.kp.cell (hRA k d hd j c hj) hbx
        rw [Nat.mul_comm k 5, Nat.add_assoc]; exact this)
      have HPM := Lib.hid hP
      have HPI := Lib.hid hI
      have hn60 : (n : Int) ≤ 60 := by omega
      have i0 : (0 : Int) ≤ (k : Int) := by omega
      have i1 : (k : Int) < (n : Int) := by omega
      clear hP hI HI hRA hbx hd
      (repeat (first | (with_reducible first | refine xA ?_ | refine xB ?_ | refine xC ?_ | refine xD ?_ | refine xH ?_ | refine xI rfl ?_ | refine xE ?_ | refine xF ?_ | refine xG ?_) | go_skip | go_guarded | ((with_reducible refine wl_id ?_); refine wl_ldA rfl _ rfl b (o + k * 5) d rfl HC.out ?_) | ((with_reducible refine wl_id ?_); refine wl_store_row rfl 41 _ _ rfl wr.heap.size rfl _ d.cells.toArray 41 rfl (heap_alloc_new wr _) sizeA rfl (by simp [Value.oneCell', Ac.cells]) ?_; intro w2 HY hg2) | go_values | go_skip | go_guarded | go_step | go_upon | go_back | ((with_reducible show Oper.upon _ _ _ _ _ _); go_simp) | (dsimp only)))
      obtain ⟨hbel, hP2, X, hGX, hX, hXq⟩ := HPM.out.boxed hg2
      have c0 := (cell_of_row w2 wr.heap.size 0 d.cells.toArray 41 _ HY).trans (rfl : _ = some (Value.int .i64 d.kind))
      have c1 := (cell_of_row w2 wr.heap.size 1 d.cells.toArray 41 _ HY).trans (rfl : _ = some (Value.bool d.raw))
      have c2 := (cell_of_row w2 wr.heap.size 2 d.cells.toArray 41 _ HY).trans (rfl : _ = some (Value.int .i64 d.x))
      have c3 := (cell_of_row w2 wr.heap.size 3 d.cells.toArray 41 _ HY).trans (rfl : _ = some (Value.int .i64 d.y))
      have c4 := (cell_of_row w2 wr.heap.size 4 d.cells.toArray 41 _ HY).trans (rfl : _ = some (Value.int .i64 d.z))
      obtain ⟨q, hq⟩ : ∃ q, wr.heap.size = q := ⟨_, rfl⟩
      rw [hq] at hXq c0 c1 c2 c3 c4
      rw [hq]
      obtain ⟨x, hx⟩ : ∃ x, litP ls d.raw d.x = x := ⟨_, rfl⟩
      obtain ⟨y, hy⟩ : ∃ y, litP ls d.raw d.y = y := ⟨_, rfl⟩
      obtain ⟨z, hz⟩ : ∃ z, litP ls d.raw d.z = z := ⟨_, rfl⟩
      have h1 := hP2.lits HPI.out (by omega) d.raw hdw.2.1 x hx
      have h2 := hP2.lits HPI.out (by omega) d.raw hdw.2.2.1 y hy
      have h3 := hP2.lits HPI.out (by omega) d.raw hdw.2.2.2 z hz
      have HX1 := Lib.hid (hx ▸ litP_bound HPI.out (by omega) d.raw hdw.2.1 : -9223372036854775808 ≤ x ∧ x ≤ 9223372036854775807)
      have HX2 := Lib.hid (hy ▸ litP_bound HPI.out (by omega) d.raw hdw.2.2.1 : -9223372036854775808 ≤ y ∧ y ≤ 9223372036854775807)
      have HX3 := Lib.hid (hz ▸ litP_bound HPI.out (by omega) d.raw hdw.2.2.2 : -9223372036854775808 ≤ z ∧ z ≤ 9223372036854775807)
      have HHP := Lib.hid hP2
      have HHG := Lib.hid hGX
      have HHX := Lib.hid hX
      have HHQ := Lib.hid hXq
      obtain ⟨kind, raw, dx, dy, dz⟩ := d
      dsimp only at c0 c1 c2 c3 c4 h1 h2 h3
      have hkb := hdw.1
      dsimp only at hkb
      clear hx hy hz hP2 hGX hX hXq HPM hbel HY hg2 HC hdw hq
      go_quiet (first | (go_at_call 17; with_reducible first | (refine Calls.quiet_of_same (h1 _)) | (refine Calls.quiet_of_same (h2 _)) | (refine Calls.quiet_of_same (h3 _))))
      clear h1 h2 h3 c1 c2 c3 c4
      have hbd : Below w2.heap.size w2 (w2.drewN nq) := ⟨rfl, rfl, rfl, Nat.le_refl _, fun _ _ => rfl⟩
      have HP := Lib.hid (HHP.out.below hbd)
      have HG := Lib.hid (HHG.out.below hbd)
      have hc0 := ((Kept.refl (fun _ => True) w2).drew nq).cell c0 trivial
      clear HHP HHG c0 hbd
      obtain ⟨u, hu⟩ : ∃ u, w2.drewN nq = u := ⟨_, rfl⟩
      rw [hu] at HP HG hc0
      rw [hu]
      clear hu
      obtain ⟨af, cf, rfl⟩ := own_shape (show u.ownsRow B 3 1 u8 fr.length _ from HP.out.bd.oc)
      have HNN := Lib.hid HPI.out.nn
      have hfl : fr.length ≤ 60 := by have := HPI.out.ff; omega
      have HFN := Lib.hid (show fr.length ≤ 1000000000 by omega)
      have HLN := Lib.hid (show ls.length ≤ 1000000000 by have := HPI.out.ll; omega)
      have HBN := Lib.hid (show bs.length ≤ 1000000000 by have := HPI.out.ll; have := HPI.out.bl; omega)
      by_cases hfree : kind < 1 ∨ kind > 3
      · obtain ⟨z', hz'⟩ : ∃ z' : Int, (g.n : Int) + 1 = z' := ⟨_, rfl⟩
        have hzb : 2 ≤ z' ∧ z' ≤ 1000 := by have := HPI.out.pl.gi.pos; have := HNN.out; omega
        have hgn := Lib.hid (show g.n < 1048576 by omega)
        have HZ := Lib.hid hz'
        have HZ2 := Lib.hid (show ((((⟨g.n + 1, g.cl, g.an, g.xo⟩ : G).n : Nat)) : Int) = z' by show ((g.n + 1 : Nat) : Int) = z'; omega)
        have HOK := Lib.hid (show okI z' ∧ okI (-z') by unfold okI; omega)
        clear hz'
        have hrm := rem64 hfl
        have hbt := bit_one hV0 hV1 fr.length
        rw [Nat.min_eq_left (by omega)] at hbt
        clear hkb
        rcases hb : V.toNat.testBit fr.length with _ | _
        all_goals rw [hb] at hbt
        · obtain ⟨s', hL', hF'⟩ := HPI.out.free false HZ.out (f := -z') (by simp)
          have HF' := Lib.hid hF'
          clear hF' hL'
          rcases hfree with hf | hf
          all_goals
            as_aux_lemma =>
              (repeat (first | (with_reducible first | refine xA ?_ | refine xB ?_ | refine xC ?_ | refine xD ?_ | refine xH ?_ | refine xI rfl ?_ | refine xE ?_ | refine xF ?_ | refine xG ?_) | go_skip | go_guarded | (go_at_call 12; (with_reducible refine (Free_at _ z' HG.out hgn.out HZ.out).mono ?_); rintro _ w3 ⟨rfl, hG3, hk3⟩; replace HP := Lib.hid (HP.out.gate HHX.out hG3 hk3); replace HG := Lib.hid hG3; clear hG3 hk3) | (go_at_call 18; (with_reducible refine (Vars_any _ HG.out).mono ?_); rintro _ w4 ⟨rfl, rfl⟩; (rw [HZ2.out])) | ((with_reducible refine wl_id ?_); refine wl_push rfl _ _ rfl B u6 ls.length ls rfl ((HP.out.alloc _).bd.oa) _ z' rfl (cell_new _ _ _) HLN.out (by have := HP.out.bz.2; simp; omega) ?_; intro v5 w5 hO5 hg5 hl5; replace HP := Lib.hid ((HP.out.alloc _).pushL hO5 hg5 hl5); clear hO5 hg5 hl5; (try simp only [Act.put, List.setIfInBounds_toArray, List.set_cons_succ, List.set_cons_zero])) | ((with_reducible refine wl_id ?_); refine wl_pushB rfl _ _ rfl B u7 bs.length bs rfl ((HP.out.alloc _).bd.ob) _ false rfl (cell_new _ _ _) HBN.out (by have := HP.out.bz.2; simp; omega) ?_; intro v6 w6 hO6 hg6 hl6; replace HP := Lib.hid ((HP.out.alloc _).pushB hO6 hg6 hl6); clear hO6 hg6 hl6; (try simp only [Act.put, List.setIfInBounds_toArray, List.set_cons_succ, List.set_cons_zero])) | ((with_reducible refine wl_id ?_); refine wl_push rfl _ _ rfl B (.slice af fr.length cf) fr.length fr rfl ((HP.out.alloc _).bd.oc) _ (-z') rfl (cell_new _ _ _) HFN.out (by have := HP.out.bz.2; simp; omega) ?_; intro v4 w4 hO4 hg4 hl4; replace HP := Lib.hid ((HP.out.alloc _).pushF hO4 hg4 hl4); clear hO4 hg4 hl4; (try simp only [Act.put, List.setIfInBounds_toArray, List.set_cons_succ, List.set_cons_zero])) | (go_at_call 19; (with_reducible refine (flag_any _ _).mono ?_); rintro _ w7 ⟨rfl, rfl⟩) | ((with_reducible refine wl_id ?_); refine wl_mapEntry rfl _ _ 39 rfl 3 3 keyI Try.underlying39 (.int .i64 0) (fun _ => zero3 _) mv M rfl HP.out.mp z' rfl HOK.out.1 ?_; intro w7 v7 st m1 hS7 hgM hg7; (try simp only [Act.put, List.setIfInBounds_toArray, List.set_cons_succ, List.set_cons_zero])) | ((with_reducible refine wl_id ?_); refine wl_entryStore rfl _ _ _ 39 rfl mv m1 z' st rfl rfl hS7 (.int .i64 (flagI false)) rfl ?_; intro w8 m8 hM8 hE8 hg8; (try simp only [Act.put, List.setIfInBounds_toArray, List.set_cons_succ, List.set_cons_zero])) | ((with_reducible refine wl_id ?_); refine wl_mapUpdate rfl _ _ _ 39 rfl _ _ keyI Try.underlying39 mv m8 rfl hM8 (-z') rfl HOK.out.2 (.int .i64 (flagI true)) rfl ?_; intro w9 hM9 hg9; replace HP := Lib.hid (HP.out.map hM9 (grown_both (grown_both hg7 hg8) hg9)); have HE := Lib.hid (map_eq (b := .int .i64 (flagI true)) hgM hE8); clear hM9 hg7 hg8 hg9 hgM hE8 hM8 hS7; (try simp only [Act.put, List.setIfInBounds_toArray, List.set_cons_succ, List.set_cons_zero])) | go_values | go_skip | go_guarded | go_step | go_upon | go_back | ((with_reducible show Oper.upon _ _ _ _ _ _); go_simp) | (dsimp only)))
              exact ⟨⟨k + 1, by omega, by go_num, Lib.hid ⟨_, _, _, _, _, _, HP.out, HF'.out _ HE.out⟩⟩, by simp [intOf]; omega⟩
        · obtain ⟨s', hL', hF'⟩ := HPI.out.free true HZ.out (f := z') (by simp)
          have HF' := Lib.hid hF'
          clear hF' hL'
          rcases hfree with hf | hf
          all_goals
            as_aux_lemma =>
              (repeat (first | (with_reducible first | refine xA ?_ | refine xB ?_ | refine xC ?_ | refine xD ?_ | refine xH ?_ | refine xI rfl ?_ | refine xE ?_ | refine xF ?_ | refine xG ?_) | go_skip | go_guarded | (go_at_call 12; (with_reducible refine (Free_at _ z' HG.out hgn.out HZ.out).mono ?_); rintro _ w3 ⟨rfl, hG3, hk3⟩; replace HP := Lib.hid (HP.out.gate HHX.out hG3 hk3); replace HG := Lib.hid hG3; clear hG3 hk3) | (go_at_call 18; (with_reducible refine (Vars_any _ HG.out).mono ?_); rintro _ w4 ⟨rfl, rfl⟩; (rw [HZ2.out])) | ((with_reducible refine wl_id ?_); refine wl_push rfl _ _ rfl B u6 ls.length ls rfl ((HP.out.alloc _).bd.oa) _ z' rfl (cell_new _ _ _) HLN.out (by have := HP.out.bz.2; simp; omega) ?_; intro v5 w5 hO5 hg5 hl5; replace HP := Lib.hid ((HP.out.alloc _).pushL hO5 hg5 hl5); clear hO5 hg5 hl5; (try simp only [Act.put, List.setIfInBounds_toArray, List.set_cons_succ, List.set_cons_zero])) | ((with_reducible refine wl_id ?_); refine wl_pushB rfl _ _ rfl B u7 bs.length bs rfl ((HP.out.alloc _).bd.ob) _ true rfl (cell_new _ _ _) HBN.out (by have := HP.out.bz.2; simp; omega) ?_; intro v6 w6 hO6 hg6 hl6; replace HP := Lib.hid ((HP.out.alloc _).pushB hO6 hg6 hl6); clear hO6 hg6 hl6; (try simp only [Act.put, List.setIfInBounds_toArray, List.set_cons_succ, List.set_cons_zero])) | ((with_reducible refine wl_id ?_); refine wl_push rfl _ _ rfl B (.slice af fr.length cf) fr.length fr rfl ((HP.out.alloc _).bd.oc) _ z' rfl (cell_new _ _ _) HFN.out (by have := HP.out.bz.2; simp; omega) ?_; intro v4 w4 hO4 hg4 hl4; replace HP := Lib.hid ((HP.out.alloc _).pushF hO4 hg4 hl4); clear hO4 hg4 hl4; (try simp only [Act.put, List.setIfInBounds_toArray, List.set_cons_succ, List.set_cons_zero])) | (go_at_call 19; (with_reducible refine (flag_any _ _).mono ?_); rintro _ w7 ⟨rfl, rfl⟩) | ((with_reducible refine wl_id ?_); refine wl_mapEntry rfl _ _ 39 rfl 3 3 keyI Try.underlying39 (.int .i64 0) (fun _ => zero3 _) mv M rfl HP.out.mp z' rfl HOK.out.1 ?_; intro w7 v7 st m1 hS7 hgM hg7; (try simp only [Act.put, List.setIfInBounds_toArray, List.set_cons_succ, List.set_cons_zero])) | ((with_reducible refine wl_id ?_); refine wl_entryStore rfl _ _ _ 39 rfl mv m1 z' st rfl rfl hS7 (.int .i64 (flagI true)) rfl ?_; intro w8 m8 hM8 hE8 hg8; (try simp only [Act.put, List.setIfInBounds_toArray, List.set_cons_succ, List.set_cons_zero])) | ((with_reducible refine wl_id ?_); refine wl_mapUpdate rfl _ _ _ 39 rfl _ _ keyI Try.underlying39 mv m8 rfl hM8 (-z') rfl HOK.out.2 (.int .i64 (flagI false)) rfl ?_; intro w9 hM9 hg9; replace HP := Lib.hid (HP.out.map hM9 (grown_both (grown_both hg7 hg8) hg9)); have HE := Lib.hid (map_eq (b := .int .i64 (flagI false)) hgM hE8); clear hM9 hg7 hg8 hg9 hgM hE8 hM8 hS7; (try simp only [Act.put, List.setIfInBounds_toArray, List.set_cons_succ, List.set_cons_zero])) | go_values | go_skip | go_guarded | go_step | go_upon | go_back | ((with_reducible show Oper.upon _ _ _ _ _ _); go_simp) | (dsimp only)))
              exact ⟨⟨k + 1, by omega, by go_num, Lib.hid ⟨_, _, _, _, _, _, HP.out, HF'.out _ HE.out⟩⟩, by simp [intOf]; omega⟩
      · have hk1 : ¬ kind < 1 := fun h => hfree (.inl h)
        have hk2 : ¬ kind > 3 := fun h => hfree (.inr h)
        obtain ⟨m1, hm1⟩ : ∃ m, (!badL g.n x) = m := ⟨_, rfl⟩
        obtain ⟨m2, hm2⟩ : ∃ m, (!badL g.n y) = m := ⟨_, rfl⟩
        obtain ⟨m3, hm3⟩ : ∃ m, (!badL g.n z) = m := ⟨_, rfl⟩
        have HM1 := Lib.hid hm1
        have HM2 := Lib.hid hm2
        have HM3 := Lib.hid hm3
        obtain ⟨vx, ex, bx, gx, fx0, fx1, lx⟩ := HPI.out.vals x
        obtain ⟨vy, ey, by', gy, fy0, fy1, ly⟩ := HPI.out.vals y
        obtain ⟨vz, ez, bz, gz, fz0, fz1, lz⟩ := HPI.out.vals z
        have HGX := Lib.hid gx
        have HGY := Lib.hid gy
        have HGZ := Lib.hid gz
        have HLX := Lib.hid lx
        have HLY := Lib.hid ly
        have HLZ := Lib.hid lz
        obtain ⟨gn, hgn⟩ : ∃ gn : Int, (g.n : Int) = gn := ⟨_, rfl⟩
        have HZ2 := Lib.hid hgn
        have HN3 := Lib.hid (show g.n + 3 ≤ 1048576 by have := HNN.out; omega)
        have hba : w0.heap.size ≤ u.heap.size := Nat.le_trans HBA.out HP.out.bz.2
        clear hm1 hm2 hm3 gx gy gz lx ly lz hgn hfree
        have hlx := HP.out.look0 HX1.out HGX.out
        have hly := HP.out.look0 HX2.out HGY.out
        have hlz := HP.out.look0 HX3.out HGZ.out
        by_cases hk3 : kind < 3
        · rcases m1 with _ | _
          · have HCR : Hid (callR g kind x y z = none) := Lib.hid (call_none (z := z) ⟨Int.not_lt.1 hk1, Int.not_lt.1 hk2⟩ (.inl (fun h => by have := HM1.out; rw [mayT h] at this; cases this)))
            as_aux_lemma =>
              (repeat (first | (with_reducible first | refine xA ?_ | refine xB ?_ | refine xC ?_ | refine xD ?_ | refine xH ?_ | refine xI rfl ?_ | refine xE ?_ | refine xF ?_ | refine xG ?_) | go_skip | go_guarded | (go_at_call 20; (with_reducible refine (may_any _ HG.out x HX1.out _ HM1).mono ?_); rintro _ w4 ⟨rfl, rfl⟩) | (go_at_call 20; (with_reducible refine (may_any _ HG.out y HX2.out _ HM2).mono ?_); rintro _ w4 ⟨rfl, rfl⟩) | (go_at_call 20; (with_reducible refine (may_any _ HG.out z HX3.out _ HM3).mono ?_); rintro _ w4 ⟨rfl, rfl⟩) | (go_at_call 18; (with_reducible refine (Vars_any _ HG.out).mono ?_); rintro _ w4 ⟨rfl, rfl⟩; (rw [HZ2.out])) | (go_at_call 21; (with_reducible refine (call_any _ HG.out hba _ x y z HN3.out HPI.out.pl.gi none HCR).mono ?_); rintro _ w5 ⟨rfl, hG5, hk5⟩; replace HP := Lib.hid (HP.out.gate HHX.out hG5 hk5); replace HG := Lib.hid hG5; clear hG5 hk5) | go_values | go_skip | go_guarded | go_step | go_upon | go_back | ((with_reducible show Oper.upon _ _ _ _ _ _); go_simp) | (dsimp only)))
              exact ⟨⟨k + 1, by omega, by go_num, Lib.hid ⟨_, _, _, _, _, _, HP.out, HPI.out.same⟩⟩, by simp [intOf]; omega⟩
          · rcases m2 with _ | _
            · have HCR : Hid (callR g kind x y z = none) := Lib.hid (call_none (z := z) ⟨Int.not_lt.1 hk1, Int.not_lt.1 hk2⟩ (.inr (.inl (fun h => by have := HM2.out; rw [mayT h] at this; cases this))))
              as_aux_lemma =>
                (repeat (first | (with_reducible first | refine xA ?_ | refine xB ?_ | refine xC ?_ | refine xD ?_ | refine xH ?_ | refine xI rfl ?_ | refine xE ?_ | refine xF ?_ | refine xG ?_) | go_skip | go_guarded | (go_at_call 20; (with_reducible refine (may_any _ HG.out x HX1.out _ HM1).mono ?_); rintro _ w4 ⟨rfl, rfl⟩) | (go_at_call 20; (with_reducible refine (may_any _ HG.out y HX2.out _ HM2).mono ?_); rintro _ w4 ⟨rfl, rfl⟩) | (go_at_call 20; (with_reducible refine (may_any _ HG.out z HX3.out _ HM3).mono ?_); rintro _ w4 ⟨rfl, rfl⟩) | (go_at_call 18; (with_reducible refine (Vars_any _ HG.out).mono ?_); rintro _ w4 ⟨rfl, rfl⟩; (rw [HZ2.out])) | (go_at_call 21; (with_reducible refine (call_any _ HG.out hba _ x y z HN3.out HPI.out.pl.gi none HCR).mono ?_); rintro _ w5 ⟨rfl, hG5, hk5⟩; replace HP := Lib.hid (HP.out.gate HHX.out hG5 hk5); replace HG := Lib.hid hG5; clear hG5 hk5) | go_values | go_skip | go_guarded | go_step | go_upon | go_back | ((with_reducible show Oper.upon _ _ _ _ _ _); go_simp) | (dsimp only)))
                exact ⟨⟨k + 1, by omega, by go_num, Lib.hid ⟨_, _, _, _, _, _, HP.out, HPI.out.same⟩⟩, by simp [intOf]; omega⟩
            · have hk33 : (kind == 3) = false := by simp; omega
              rcases ex with _ | _
              · rcases ey with _ | _
                · skip
                  have hkx := Lib.hid (HLX.out rfl)
                  have hky := Lib.hid (HLY.out rfl)
                  obtain ⟨⟨g5, kk⟩, s', hr, hrL, hr5, hrv, hF⟩ := HPI.out.call (kind := kind) (z := z) (b3 := bz) hkx.out.1 hky.out.1 (.inl hk3) ⟨Int.not_lt.1 hk1, Int.not_lt.1 hk2⟩ hkx.out.2 hky.out.2 (.inl hk3)
                  dsimp only at hrL hrv hF
                  obtain ⟨on, hon⟩ : ∃ on, wantP kind bx by' bz = on := ⟨_, rfl⟩
                  rw [hon] at hrv hF
                  have HON := Lib.hid hon
                  have HCR := Lib.hid hr
                  have hg5 : g5.n ≤ 1000 := by have := HNN.out; dsimp only at hr5; omega
                  have hkb5 := rng_of hrL (show g5.n ≤ 1048576 by omega)
                  have HMK := Lib.hid (mayT hrL)
                  have HKB := Lib.hid (show -9223372036854775808 ≤ kk ∧ kk ≤ 9223372036854775807 by omega)
                  have HOK := Lib.hid (show okI kk ∧ okI (-kk) by unfold okI; omega)
                  have HF' := Lib.hid hF
                  have hk0 : (kk != 0) = true := by simpa using hrL.1
                  have HV := Lib.hid ((HPI.out.val kk).1)
                  have HHV := Lib.hid hrv
                  have hfl1 := flagI_ne on
                  clear hr hrL hF hon hrv hg5 hr5
                  as_aux_lemma =>
                    (repeat (first | (with_reducible first | refine xA ?_ | refine xB ?_ | refine xC ?_ | refine xD ?_ | refine xH ?_ | refine xI rfl ?_ | refine xE ?_ | refine xF ?_ | refine xG ?_) | go_skip | go_guarded | (go_at_call 20; (with_reducible refine (may_any _ HG.out x HX1.out _ HM1).mono ?_); rintro _ w4 ⟨rfl, rfl⟩) | (go_at_call 20; (with_reducible refine (may_any _ HG.out y HX2.out _ HM2).mono ?_); rintro _ w4 ⟨rfl, rfl⟩) | (go_at_call 20; (with_reducible refine (may_any _ HG.out z HX3.out _ HM3).mono ?_); rintro _ w4 ⟨rfl, rfl⟩) | (go_at_call 20; (with_reducible refine (may_any _ HG.out kk HKB.out true HMK).mono ?_); rintro _ w4 ⟨rfl, rfl⟩) | (go_at_call 18; (with_reducible refine (Vars_any _ HG.out).mono ?_); rintro _ w4 ⟨rfl, rfl⟩; (rw [HZ2.out])) | (go_at_call 21; (with_reducible refine (call_any _ HG.out hba _ x y z HN3.out HPI.out.pl.gi (some (g5, kk)) HCR).mono ?_); rintro _ w5 ⟨rfl, hG5, hk5⟩; replace HP := Lib.hid (HP.out.gate HHX.out hG5 hk5); replace HG := Lib.hid hG5; replace hc0 := hk5.cell hc0 HHQ.out; clear hG5 hk5 hlx hly hlz; have hlx := HP.out.look0 HX1.out HGX.out; have hly := HP.out.look0 HX2.out HGY.out; have hlz := HP.out.look0 HX3.out HGZ.out) | (go_at_call 22; (with_reducible refine (wanted_any _ _ _ _ _).mono ?_); rintro _ w6 ⟨rfl, rfl⟩; (rw [HON.out])) | go_values | go_skip | go_guarded | go_step | go_upon | go_back | ((with_reducible show Oper.upon _ _ _ _ _ _); go_simp) | (dsimp only)))
                    rcases HHV.out with hv | hv
                    all_goals as_aux_lemma =>
                      have hlk := HP.out.look HOK.out.1 HV.out
                      rw [hv] at hlk
                      clear hv
                      go_quiet (first | (go_at_call 19; (with_reducible refine Calls.quiet_of_same (flag_any _ _))))
                      replace HP := Lib.hid (HP.out.below (show Below w6.heap.size w6 (w6.drewN nq) from ⟨rfl, rfl, rfl, Nat.le_refl _, fun _ _ => rfl⟩))
                      obtain ⟨u9, hu9⟩ : ∃ u9, w6.drewN nq = u9 := ⟨_, rfl⟩
                      rw [hu9] at HP
                      rw [hu9]
                      clear hu9 hlk hlx hly hlz HG hc0 hba
                      (repeat (first | (with_reducible first | refine xA ?_ | refine xB ?_ | refine xC ?_ | refine xD ?_ | refine xH ?_ | refine xI rfl ?_ | refine xE ?_ | refine xF ?_ | refine xG ?_) | go_skip | go_guarded | ((with_reducible refine wl_id ?_); refine wl_push rfl _ _ rfl B u6 ls.length ls rfl ((HP.out.alloc _).bd.oa) _ kk rfl (cell_new _ _ _) HLN.out (by have := HP.out.bz.2; simp; omega) ?_; intro v5 w5 hO5 hg5 hl5; replace HP := Lib.hid ((HP.out.alloc _).pushL hO5 hg5 hl5); clear hO5 hg5 hl5; (try simp only [Act.put, List.setIfInBounds_toArray, List.set_cons_succ, List.set_cons_zero])) | ((with_reducible refine wl_id ?_); refine wl_pushB rfl _ _ rfl B u7 bs.length bs rfl ((HP.out.alloc _).bd.ob) _ on rfl (cell_new _ _ _) HBN.out (by have := HP.out.bz.2; simp; omega) ?_; intro v6 w6 hO6 hg6 hl6; replace HP := Lib.hid ((HP.out.alloc _).pushB hO6 hg6 hl6); clear hO6 hg6 hl6; (try simp only [Act.put, List.setIfInBounds_toArray, List.set_cons_succ, List.set_cons_zero])) | (go_at_call 19; (with_reducible refine (flag_any _ _).mono ?_); rintro _ w7 ⟨rfl, rfl⟩) | ((with_reducible refine wl_id ?_); refine wl_mapEntry rfl _ _ 39 rfl 3 3 keyI Try.underlying39 (.int .i64 0) (fun _ => zero3 _) mv M rfl HP.out.mp kk rfl HOK.out.1 ?_; intro w7 v7 st m1 hS7 hgM hg7; (try simp only [Act.put, List.setIfInBounds_toArray, List.set_cons_succ, List.set_cons_zero])) | ((with_reducible refine wl_id ?_); refine wl_entryStore rfl _ _ _ 39 rfl mv m1 kk st rfl rfl hS7 (.int .i64 (flagI on)) rfl ?_; intro w8 m8 hM8 hE8 hg8; (try simp only [Act.put, List.setIfInBounds_toArray, List.set_cons_succ, List.set_cons_zero])) | ((with_reducible refine wl_id ?_); refine wl_mapUpdate rfl _ _ _ 39 rfl _ _ keyI Try.underlying39 mv m8 rfl hM8 (-kk) rfl HOK.out.2 (.int .i64 (flagI (!on))) rfl ?_; intro w9 hM9 hg9; replace HP := Lib.hid (HP.out.map hM9 (grown_both (grown_both hg7 hg8) hg9)); have HE := Lib.hid (map_eq (b := .int .i64 (flagI (!on))) hgM hE8); clear hM9 hg7 hg8 hg9 hgM hE8 hM8 hS7; (try simp only [Act.put, List.setIfInBounds_toArray, List.set_cons_succ, List.set_cons_zero])) | go_values | go_skip | go_guarded | go_step | go_upon | go_back | ((with_reducible show Oper.upon _ _ _ _ _ _); go_simp) | (dsimp only)))
                      exact ⟨⟨k + 1, by omega, by go_num, Lib.hid ⟨_, _, _, _, _, _, HP.out, HF'.out _ HE.out⟩⟩, by simp [intOf]; omega⟩
                · as_aux_lemma =>
                    (repeat (first | (with_reducible first | refine xA ?_ | refine xB ?_ | refine xC ?_ | refine xD ?_ | refine xH ?_ | refine xI rfl ?_ | refine xE ?_ | refine xF ?_ | refine xG ?_) | go_skip | go_guarded | (go_at_call 20; (with_reducible refine (may_any _ HG.out x HX1.out _ HM1).mono ?_); rintro _ w4 ⟨rfl, rfl⟩) | (go_at_call 20; (with_reducible refine (may_any _ HG.out y HX2.out _ HM2).mono ?_); rintro _ w4 ⟨rfl, rfl⟩) | (go_at_call 20; (with_reducible refine (may_any _ HG.out z HX3.out _ HM3).mono ?_); rintro _ w4 ⟨rfl, rfl⟩) | go_values | go_skip | go_guarded | go_step | go_upon | go_back | ((with_reducible show Oper.upon _ _ _ _ _ _); go_simp) | (dsimp only)))
                    exact ⟨⟨k + 1, by omega, by go_num, Lib.hid ⟨_, _, _, _, _, _, HP.out, HPI.out.same⟩⟩, by simp [intOf]; omega⟩
              · as_aux_lemma =>
                  (repeat (first | (with_reducible first | refine xA ?_ | refine xB ?_ | refine xC ?_ | refine xD ?_ | refine xH ?_ | refine xI rfl ?_ | refine xE ?_ | refine xF ?_ | refine xG ?_) | go_skip | go_guarded | (go_at_call 20; (with_reducible refine (may_any _ HG.out x HX1.out _ HM1).mono ?_); rintro _ w4 ⟨rfl, rfl⟩) | (go_at_call 20; (with_reducible refine (may_any _ HG.out y HX2.out _ HM2).mono ?_); rintro _ w4 ⟨rfl, rfl⟩) | (go_at_call 20; (with_reducible refine (may_any _ HG.out z HX3.out _ HM3).mono ?_); rintro _ w4 ⟨rfl, rfl⟩) | go_values | go_skip | go_guarded | go_step | go_upon | go_back | ((with_reducible show Oper.upon _ _ _ _ _ _); go_simp) | (dsimp only)))
                  exact ⟨⟨k + 1, by omega, by go_num, Lib.hid ⟨_, _, _, _, _, _, HP.out, HPI.out.same⟩⟩, by simp [intOf]; omega⟩
        · obtain rfl : kind = 3 := by omega
          have hk3' : ¬ (3 : Int) < 3 := by decide
          rcases m1 with _ | _
          · have HCR : Hid (callR g 3 x y z = none) := Lib.hid (call_none (z := z) ⟨by decide, by decide⟩ (.inl (fun h => by have := HM1.out; rw [mayT h] at this; cases this)))
            as_aux_lemma =>
              (repeat (first | (with_reducible first | refine xA ?_ | refine xB ?_ | refine xC ?_ | refine xD ?_ | refine xH ?_ | refine xI rfl ?_ | refine xE ?_ | refine xF ?_ | refine xG ?_) | go_skip | go_guarded | (go_at_call 20; (with_reducible refine (may_any _ HG.out x HX1.out _ HM1).mono ?_); rintro _ w4 ⟨rfl, rfl⟩) | (go_at_call 20; (with_reducible refine (may_any _ HG.out y HX2.out _ HM2).mono ?_); rintro _ w4 ⟨rfl, rfl⟩) | (go_at_call 20; (with_reducible refine (may_any _ HG.out z HX3.out _ HM3).mono ?_); rintro _ w4 ⟨rfl, rfl⟩) | (go_at_call 18; (with_reducible refine (Vars_any _ HG.out).mono ?_); rintro _ w4 ⟨rfl, rfl⟩; (rw [HZ2.out])) | (go_at_call 21; (with_reducible refine (call_any _ HG.out hba _ x y z HN3.out HPI.out.pl.gi none HCR).mono ?_); rintro _ w5 ⟨rfl, hG5, hk5⟩; replace HP := Lib.hid (HP.out.gate HHX.out hG5 hk5); replace HG := Lib.hid hG5; clear hG5 hk5) | go_values | go_skip | go_guarded | go_step | go_upon | go_back | ((with_reducible show Oper.upon _ _ _ _ _ _); go_simp) | (dsimp only)))
              exact ⟨⟨k + 1, by omega, by go_num, Lib.hid ⟨_, _, _, _, _, _, HP.out, HPI.out.same⟩⟩, by simp [intOf]; omega⟩
          · rcases m2 with _ | _
            · have HCR : Hid (callR g 3 x y z = none) := Lib.hid (call_none (z := z) ⟨by decide, by decide⟩ (.inr (.inl (fun h => by have := HM2.out; rw [mayT h] at this; cases this))))
              as_aux_lemma =>
                (repeat (first | (with_reducible first | refine xA ?_ | refine xB ?_ | refine xC ?_ | refine xD ?_ | refine xH ?_ | refine xI rfl ?_ | refine xE ?_ | refine xF ?_ | refine xG ?_) | go_skip | go_guarded | (go_at_call 20; (with_reducible refine (may_any _ HG.out x HX1.out _ HM1).mono ?_); rintro _ w4 ⟨rfl, rfl⟩) | (go_at_call 20; (with_reducible refine (may_any _ HG.out y HX2.out _ HM2).mono ?_); rintro _ w4 ⟨rfl, rfl⟩) | (go_at_call 20; (with_reducible refine (may_any _ HG.out z HX3.out _ HM3).mono ?_); rintro _ w4 ⟨rfl, rfl⟩) | (go_at_call 18; (with_reducible refine (Vars_any _ HG.out).mono ?_); rintro _ w4 ⟨rfl, rfl⟩; (rw [HZ2.out])) | (go_at_call 21; (with_reducible refine (call_any _ HG.out hba _ x y z HN3.out HPI.out.pl.gi none HCR).mono ?_); rintro _ w5 ⟨rfl, hG5, hk5⟩; replace HP := Lib.hid (HP.out.gate HHX.out hG5 hk5); replace HG := Lib.hid hG5; clear hG5 hk5) | go_values | go_skip | go_guarded | go_step | go_upon | go_back | ((with_reducible show Oper.upon _ _ _ _ _ _); go_simp) | (dsimp only)))
                exact ⟨⟨k + 1, by omega, by go_num, Lib.hid ⟨_, _, _, _, _, _, HP.out, HPI.out.same⟩⟩, by simp [intOf]; omega⟩
            · rcases m3 with _ | _
              · have HCR : Hid (callR g 3 x y z = none) := Lib.hid (call_none (z := z) ⟨by decide, by decide⟩ (.inr (.inr ⟨hk3', (fun h => by have := HM3.out; rw [mayT h] at this; cases this)⟩)))
                as_aux_lemma =>
                  (repeat (first | (with_reducible first | refine xA ?_ | refine xB ?_ | refine xC ?_ | refine xD ?_ | refine xH ?_ | refine xI rfl ?_ | refine xE ?_ | refine xF ?_ | refine xG ?_) | go_skip | go_guarded | (go_at_call 20; (with_reducible refine (may_any _ HG.out x HX1.out _ HM1).mono ?_); rintro _ w4 ⟨rfl, rfl⟩) | (go_at_call 20; (with_reducible refine (may_any _ HG.out y HX2.out _ HM2).mono ?_); rintro _ w4 ⟨rfl, rfl⟩) | (go_at_call 20; (with_reducible refine (may_any _ HG.out z HX3.out _ HM3).mono ?_); rintro _ w4 ⟨rfl, rfl⟩) | (go_at_call 18; (with_reducible refine (Vars_any _ HG.out).mono ?_); rintro _ w4 ⟨rfl, rfl⟩; (rw [HZ2.out])) | (go_at_call 21; (with_reducible refine (call_any _ HG.out hba _ x y z HN3.out HPI.out.pl.gi none HCR).mono ?_); rintro _ w5 ⟨rfl, hG5, hk5⟩; replace HP := Lib.hid (HP.out.gate HHX.out hG5 hk5); replace HG := Lib.hid hG5; clear hG5 hk5) | go_values | go_skip | go_guarded | go_step | go_upon | go_back | ((with_reducible show Oper.upon _ _ _ _ _ _); go_simp) | (dsimp only)))
                  exact ⟨⟨k + 1, by omega, by go_num, Lib.hid ⟨_, _, _, _, _, _, HP.out, HPI.out.same⟩⟩, by simp [intOf]; omega⟩
              · rcases ex with _ | _
                · rcases ey with _ | _
                  · rcases ez with _ | _
                    · have hkz := Lib.hid (HLZ.out rfl)
                      have hkx := Lib.hid (HLX.out rfl)
                      have hky := Lib.hid (HLY.out rfl)
                      obtain ⟨⟨g5, kk⟩, s', hr, hrL, hr5, hrv, hF⟩ := HPI.out.call (kind := 3) (z := z) (b3 := bz) hkx.out.1 hky.out.1 (.inr hkz.out.1) ⟨by decide, by decide⟩ hkx.out.2 hky.out.2 (.inr hkz.out.2)
                      dsimp only at hrL hrv hF
                      obtain ⟨on, hon⟩ : ∃ on, wantP 3 bx by' bz = on := ⟨_, rfl⟩
                      rw [hon] at hrv hF
                      have HON := Lib.hid hon
                      have HCR := Lib.hid hr
                      have hg5 : g5.n ≤ 1000 := by have := HNN.out; dsimp only at hr5; omega
                      have hkb5 := rng_of hrL (show g5.n ≤ 1048576 by omega)
                      have HMK := Lib.hid (mayT hrL)
                      have HKB := Lib.hid (show -9223372036854775808 ≤ kk ∧ kk ≤ 9223372036854775807 by omega)
                      have HOK := Lib.hid (show okI kk ∧ okI (-kk) by unfold okI; omega)
                      have HF' := Lib.hid hF
                      have hk0 : (kk != 0) = true := by simpa using hrL.1
                      have HV := Lib.hid ((HPI.out.val kk).1)
                      have HHV := Lib.hid hrv
                      have hfl1 := flagI_ne on
                      clear hr hrL hF hon hrv hg5 hr5
                      as_aux_lemma =>
                        (repeat (first | (with_reducible first | refine xA ?_ | refine xB ?_ | refine xC ?_ | refine xD ?_ | refine xH ?_ | refine xI rfl ?_ | refine xE ?_ | refine xF ?_ | refine xG ?_) | go_skip | go_guarded | (go_at_call 20; (with_reducible refine (may_any _ HG.out x HX1.out _ HM1).mono ?_); rintro _ w4 ⟨rfl, rfl⟩) | (go_at_call 20; (with_reducible refine (may_any _ HG.out y HX2.out _ HM2).mono ?_); rintro _ w4 ⟨rfl, rfl⟩) | (go_at_call 20; (with_reducible refine (may_any _ HG.out z HX3.out _ HM3).mono ?_); rintro _ w4 ⟨rfl, rfl⟩) | (go_at_call 20; (with_reducible refine (may_any _ HG.out kk HKB.out true HMK).mono ?_); rintro _ w4 ⟨rfl, rfl⟩) | (go_at_call 18; (with_reducible refine (Vars_any _ HG.out).mono ?_); rintro _ w4 ⟨rfl, rfl⟩; (rw [HZ2.out])) | (go_at_call 21; (with_reducible refine (call_any _ HG.out hba _ x y z HN3.out HPI.out.pl.gi (some (g5, kk)) HCR).mono ?_); rintro _ w5 ⟨rfl, hG5, hk5⟩; replace HP := Lib.hid (HP.out.gate HHX.out hG5 hk5); replace HG := Lib.hid hG5; replace hc0 := hk5.cell hc0 HHQ.out; clear hG5 hk5 hlx hly hlz; have hlx := HP.out.look0 HX1.out HGX.out; have hly := HP.out.look0 HX2.out HGY.out; have hlz := HP.out.look0 HX3.out HGZ.out) | (go_at_call 22; (with_reducible refine (wanted_any _ _ _ _ _).mono ?_); rintro _ w6 ⟨rfl, rfl⟩; (rw [HON.out])) | go_values | go_skip | go_guarded | go_step | go_upon | go_back | ((with_reducible show Oper.upon _ _ _ _ _ _); go_simp) | (dsimp only)))
                        rcases HHV.out with hv | hv
                        all_goals as_aux_lemma =>
                          have hlk := HP.out.look HOK.out.1 HV.out
                          rw [hv] at hlk
                          clear hv
                          go_quiet (first | (go_at_call 19; (with_reducible refine Calls.quiet_of_same (flag_any _ _))))
                          replace HP := Lib.hid (HP.out.below (show Below w6.heap.size w6 (w6.drewN nq) from ⟨rfl, rfl, rfl, Nat.le_refl _, fun _ _ => rfl⟩))
                          obtain ⟨u9, hu9⟩ : ∃ u9, w6.drewN nq = u9 := ⟨_, rfl⟩
                          rw [hu9] at HP
                          rw [hu9]
                          clear hu9 hlk hlx hly hlz HG hc0 hba
                          (repeat (first | (with_reducible first | refine xA ?_ | refine xB ?_ | refine xC ?_ | refine xD ?_ | refine xH ?_ | refine xI rfl ?_ | refine xE ?_ | refine xF ?_ | refine xG ?_) | go_skip | go_guarded | ((with_reducible refine wl_id ?_); refine wl_push rfl _ _ rfl B u6 ls.length ls rfl ((HP.out.alloc _).bd.oa) _ kk rfl (cell_new _ _ _) HLN.out (by have := HP.out.bz.2; simp; omega) ?_; intro v5 w5 hO5 hg5 hl5; replace HP := Lib.hid ((HP.out.alloc _).pushL hO5 hg5 hl5); clear hO5 hg5 hl5; (try simp only [Act.put, List.setIfInBounds_toArray, List.set_cons_succ, List.set_cons_zero])) | ((with_reducible refine wl_id ?_); refine wl_pushB rfl _ _ rfl B u7 bs.length bs rfl ((HP.out.alloc _).bd.ob) _ on rfl (cell_new _ _ _) HBN.out (by have := HP.out.bz.2; simp; omega) ?_; intro v6 w6 hO6 hg6 hl6; replace HP := Lib.hid ((HP.out.alloc _).pushB hO6 hg6 hl6); clear hO6 hg6 hl6; (try simp only [Act.put, List.setIfInBounds_toArray, List.set_cons_succ, List.set_cons_zero])) | (go_at_call 19; (with_reducible refine (flag_any _ _).mono ?_); rintro _ w7 ⟨rfl, rfl⟩) | ((with_reducible refine wl_id ?_); refine wl_mapEntry rfl _ _ 39 rfl 3 3 keyI Try.underlying39 (.int .i64 0) (fun _ => zero3 _) mv M rfl HP.out.mp kk rfl HOK.out.1 ?_; intro w7 v7 st m1 hS7 hgM hg7; (try simp only [Act.put, List.setIfInBounds_toArray, List.set_cons_succ, List.set_cons_zero])) | ((with_reducible refine wl_id ?_); refine wl_entryStore rfl _ _ _ 39 rfl mv m1 kk st rfl rfl hS7 (.int .i64 (flagI on)) rfl ?_; intro w8 m8 hM8 hE8 hg8; (try simp only [Act.put, List.setIfInBounds_toArray, List.set_cons_succ, List.set_cons_zero])) | ((with_reducible refine wl_id ?_); refine wl_mapUpdate rfl _ _ _ 39 rfl _ _ keyI Try.underlying39 mv m8 rfl hM8 (-kk) rfl HOK.out.2 (.int .i64 (flagI (!on))) rfl ?_; intro w9 hM9 hg9; replace HP := Lib.hid (HP.out.map hM9 (grown_both (grown_both hg7 hg8) hg9)); have HE := Lib.hid (map_eq (b := .int .i64 (flagI (!on))) hgM hE8); clear hM9 hg7 hg8 hg9 hgM hE8 hM8 hS7; (try simp only [Act.put, List.setIfInBounds_toArray, List.set_cons_succ, List.set_cons_zero])) | go_values | go_skip | go_guarded | go_step | go_upon | go_back | ((with_reducible show Oper.upon _ _ _ _ _ _); go_simp) | (dsimp only)))
                          exact ⟨⟨k + 1, by omega, by go_num, Lib.hid ⟨_, _, _, _, _, _, HP.out, HF'.out _ HE.out⟩⟩, by simp [intOf]; omega⟩
                    · as_aux_lemma =>
                        (repeat (first | (with_reducible first | refine xA ?_ | refine xB ?_ | refine xC ?_ | refine xD ?_ | refine xH ?_ | refine xI rfl ?_ | refine xE ?_ | refine xF ?_ | refine xG ?_) | go_skip | go_guarded | (go_at_call 20; (with_reducible refine (may_any _ HG.out x HX1.out _ HM1).mono ?_); rintro _ w4 ⟨rfl, rfl⟩) | (go_at_call 20; (with_reducible refine (may_any _ HG.out y HX2.out _ HM2).mono ?_); rintro _ w4 ⟨rfl, rfl⟩) | (go_at_call 20; (with_reducible refine (may_any _ HG.out z HX3.out _ HM3).mono ?_); rintro _ w4 ⟨rfl, rfl⟩) | go_values | go_skip | go_guarded | go_step | go_upon | go_back | ((with_reducible show Oper.upon _ _ _ _ _ _); go_simp) | (dsimp only)))
                        exact ⟨⟨k + 1, by omega, by go_num, Lib.hid ⟨_, _, _, _, _, _, HP.out, HPI.out.same⟩⟩, by simp [intOf]; omega⟩
                  · as_aux_lemma =>
                      (repeat (first | (with_reducible first | refine xA ?_ | refine xB ?_ | refine xC ?_ | refine xD ?_ | refine xH ?_ | refine xI rfl ?_ | refine xE ?_ | refine xF ?_ | refine xG ?_) | go_skip | go_guarded | (go_at_call 20; (with_reducible refine (may_any _ HG.out x HX1.out _ HM1).mono ?_); rintro _ w4 ⟨rfl, rfl⟩) | (go_at_call 20; (with_reducible refine (may_any _ HG.out y HX2.out _ HM2).mono ?_); rintro _ w4 ⟨rfl, rfl⟩) | (go_at_call 20; (with_reducible refine (may_any _ HG.out z HX3.out _ HM3).mono ?_); rintro _ w4 ⟨rfl, rfl⟩) | go_values | go_skip | go_guarded | go_step | go_upon | go_back | ((with_reducible show Oper.upon _ _ _ _ _ _); go_simp) | (dsimp only)))
                      exact ⟨⟨k + 1, by omega, by go_num, Lib.hid ⟨_, _, _, _, _, _, HP.out, HPI.out.same⟩⟩, by simp [intOf]; omega⟩
                · as_aux_lemma =>
                    (repeat (first | (with_reducible first | refine xA ?_ | refine xB ?_ | refine xC ?_ | refine xD ?_ | refine xH ?_ | refine xI rfl ?_ | refine xE ?_ | refine xF ?_ | refine xG ?_) | go_skip | go_guarded | (go_at_call 20; (with_reducible refine (may_any _ HG.out x HX1.out _ HM1).mono ?_); rintro _ w4 ⟨rfl, rfl⟩) | (go_at_call 20; (with_reducible refine (may_any _ HG.out y HX2.out _ HM2).mono ?_); rintro _ w4 ⟨rfl, rfl⟩) | (go_at_call 20; (with_reducible refine (may_any _ HG.out z HX3.out _ HM3).mono ?_); rintro _ w4 ⟨rfl, rfl⟩) | go_values | go_skip | go_guarded | go_step | go_upon | go_back | ((with_reducible show Oper.upon _ _ _ _ _ _); go_simp) | (dsimp only)))
                    exact ⟨⟨k + 1, by omega, by go_num, Lib.hid ⟨_, _, _, _, _, _, HP.out, HPI.out.same⟩⟩, by simp [intOf]; omega⟩
    · obtain rfl : k = n := by omega
      as_aux_lemma =>
        obtain ⟨g, fr, s, ls, bs, M, hP, hI⟩ := HI.out
        obtain ⟨al, cl, rfl⟩ := own_shape (show wr.ownsRow B 3 1 u6 ls.length _ from hP.bd.oa)
        obtain ⟨ab, cb, rfl⟩ := own_shape (show wr.ownsRow B 4 1 u7 bs.length _ from hP.bd.ob)
        have hbl := hI.bl
        have hoa : wr.ownsRow B 3 1 (.slice al ls.length cl) ls.length (ls.map (Value.int .i64)) := hP.bd.oa
        have hob : wr.ownsRow B 4 1 (.slice ab bs.length cb) bs.length (bs.map Value.bool) := hP.bd.ob
        have hof : wr.ownsRow B 3 1 u8 fr.length (fr.map (Value.int .i64)) := hP.bd.oc
        obtain ⟨gl, rfl⟩ : ∃ gl, al = some ⟨gl, 0, none⟩ := by
          rcases hoa.2 with ⟨e, h0⟩ | ⟨g, cap, cur, e, _⟩
          · have := hI.l0; omega
          · injection e with e; exact ⟨g, e⟩
        obtain ⟨gb', rfl⟩ : ∃ gl, ab = some ⟨gl, 0, none⟩ := by
          rcases hob.2 with ⟨e, h0⟩ | ⟨g, cap, cur, e, _⟩
          · have := hI.l0; omega
          · injection e with e; exact ⟨g, e⟩
        obtain ⟨X, hGX, _⟩ := hP.gr
        have HT := Lib.hid (told_any (Y := fun _ => True) wr hGX hI.pl.gi u8 (SlX.ofOwns hof fun _ _ _ => trivial) (by have := hI.ff; omega))
        have hgb : g.n ≤ 1048576 := hGX.n1
        have HKP := Lib.hid hP.kp
        have HAL := Lib.hid hI.pl.all
        have HEQ := Lib.hid hI.pl.eq
        have HOA := Lib.hid hoa
        have HOB := Lib.hid hob
        have hll : (ls.length : Int) ≤ 100 := by have := hI.ll; omega
        obtain ⟨L, hL⟩ : ∃ L, ls.length = L := ⟨_, rfl⟩
        rw [hbl, hL]
        rw [hL] at hll
        have HL := Lib.hid hL
        have HBL := Lib.hid hbl
        have HGB := Lib.hid hgb
        clear hP hI HI hoa hob hof hGX hL hbl hgb
        (repeat (first | (with_reducible first | refine xA ?_ | refine xB ?_ | refine xC ?_ | refine xD ?_ | refine xH ?_ | refine xI rfl ?_ | refine xE ?_ | refine xF ?_ | refine xG ?_) | go_skip | go_guarded | (go_at_call 14; (with_reducible refine (HT.out).mono ?_); rintro _ w9 ⟨v9, rfl, ⟨a9, c9, rfl⟩, hO9, -, hb9⟩) | go_values | go_skip | go_guarded | go_step | go_upon | go_back | ((with_reducible show Oper.upon _ _ _ _ _ _); go_simp) | (dsimp only)))
        have hS9 := Lib.hid (told_sl hO9)
        have HK9 := Lib.hid (HKP.out.trans (Kept.ofBelow hb9))
        have HOA9 := Lib.hid (owns_kept HOA.out (Kept.ofBelow (X := fun _ => True) hb9) (fun _ _ => trivial))
        have HOB9 := Lib.hid (owns_kept HOB.out (Kept.ofBelow (X := fun _ => True) hb9) (fun _ _ => trivial))
        clear HKP HOA HOB hO9 hb9 HT
        go_loopw [23] (fun i wj => ∃ j : Nat, j ≤ L ∧ i = .int .i64 j ∧ wj = w9) (fun i _ => L - (intOf i).toNat)
        case atStart => exact ⟨0, Nat.zero_le _, rfl, rfl⟩
        case round =>
          obtain ⟨j, hj, rfl, rfl⟩ := hrel
          rcases Nat.lt_or_ge j L with hlt | hge
          · obtain ⟨x, hx⟩ : ∃ x, ls[j]? = some x := ⟨_, List.getElem?_eq_getElem (by rw [HL.out]; exact hlt)⟩
            have hxL := HAL.out x (List.mem_of_getElem? hx)
            have hca := HOA9.out.cellAt j (by rw [HL.out]; omega)
            rw [List.getElem?_map, hx] at hca
            have hcb := HOB9.out.cellAt j (by rw [HBL.out, HL.out]; omega)
            rw [List.getElem?_map, HEQ.out, List.getElem?_map, hx] at hcb
            simp only [Option.map_some] at hca hcb
            obtain ⟨r, hr⟩ : ∃ r, lit s x = r := ⟨_, rfl⟩
            rw [hr] at hcb
            have HRR := Lib.hid hr
            have HXL := Lib.hid hxL
            have i0 : (0 : Int) ≤ (j : Int) := by omega
            have i1 : (j : Int) < (L : Int) := by omega
            clear hr hxL hx
            (repeat (first | (with_reducible first | refine xA ?_ | refine xB ?_ | refine xC ?_ | refine xD ?_ | refine xH ?_ | refine xI rfl ?_ | refine xE ?_ | refine xF ?_ | refine xG ?_) | go_skip | go_guarded | (go_at_call 23; (with_reducible refine (Is_any _ _ g.n s hS9.out x HXL.out HGB.out r HRR).mono ?_); rintro _ wa ⟨rfl, rfl⟩) | go_values | go_skip | go_guarded | go_step | go_upon | go_back | ((with_reducible show Oper.upon _ _ _ _ _ _); go_simp) | (dsimp only)))
            exact ⟨⟨j + 1, by omega, by go_num, rfl⟩, by simp [intOf]; omega⟩
          · (repeat (first | (with_reducible first | refine xA ?_ | refine xB ?_ | refine xC ?_ | refine xD ?_ | refine xH ?_ | refine xI rfl ?_ | refine xE ?_ | refine xF ?_ | refine xG ?_) | go_values | go_skip | go_guarded | go_step | go_upon | go_back | ((with_reducible show Oper.upon _ _ _ _ _ _); go_simp) | (dsimp only)))
            go_ret
            exact ⟨rfl, HK9.out.toBelow (Nat.le_refl _) fun _ h => h⟩

end Go.Proofs.Ytmaogkgjiplckaa

