import Derived.Test.YtmaogkgjiplckaaKA
import Derived.Deep.AppendLies
import Derived.Laws.OwnMore
set_option linter.unusedSimpArgs false
set_option linter.unusedVariables false
namespace Go.Proofs.Ytmaogkgjiplckaa
open Go.RowKit

/-! a Gates value in memory -/
def mapOf (m : List ((Int × Int) × Int)) : List ((Int × Int) × Value) := m.map fun e => (e.1, .int .i64 e.2)
theorem look_get (m : List ((Int × Int) × Int)) (a b : Int) : getM (mapOf m) (a, b) = (look m a b).map (Value.int .i64) := by
  unfold getM mapOf look
  rw [List.find?_map, Option.map_map, Option.map_map]
  rfl
theorem put_new {m : List ((Int × Int) × Int)} {a b : Int} (h : look m a b = none) (z : Int) : putM (mapOf m) (a, b) (.int .i64 z) = mapOf (m ++ [((a, b), z)]) := by
  unfold putM
  rw [if_neg]
  · simp [mapOf]
  · intro hm
    obtain ⟨p, hp, e⟩ := List.mem_map.1 hm
    obtain ⟨q, hq, rfl⟩ := List.mem_map.1 hp
    unfold look at h
    rw [Option.map_eq_none_iff, List.find?_eq_none] at h
    exact h q hq (by simpa using e)

/-- slices of ints, one by one -/
def SlsX (Y : Nat → Prop) (w : World) (xs : List Value) (cl : List (List Int)) : Prop := xs.length = cl.length ∧ ∀ (i : Nat) (x : Value) (l : List Int), xs[i]? = some x → cl[i]? = some l → SlX Y w x l
theorem SlsX.kept {Y : Nat → Prop} {w w' : World} {xs : List Value} {cl : List (List Int)} (h : SlsX Y w xs cl) (hk : Kept Y w w') : SlsX Y w' xs cl := ⟨h.1, fun i x l a b => (h.2 i x l a b).kept hk⟩
theorem SlsX.mono {Y Z : Nat → Prop} {w : World} {xs : List Value} {cl : List (List Int)} (h : SlsX Y w xs cl) (hY : ∀ k, k < w.heap.size → Y k → Z k) : SlsX Z w xs cl := ⟨h.1, fun i x l a b => (h.2 i x l a b).mono hY⟩
theorem SlsX.append {Y : Nat → Prop} {w : World} {xs ys : List Value} {cl dl : List (List Int)} (h : SlsX Y w xs cl) (k : SlsX Y w ys dl) : SlsX Y w (xs ++ ys) (cl ++ dl) := by
  refine ⟨by simp [h.1, k.1], fun i x l a b => ?_⟩
  rw [List.getElem?_append] at a b
  rw [h.1] at a
  split at a
  · rename_i hlt
    rw [if_pos hlt] at b
    exact h.2 i x l a b
  · rename_i hlt
    rw [if_neg hlt] at b
    exact k.2 _ x l a b

structure GRep (X : Nat → Prop) (base : Nat) (w : World) (gb : Nat) (g : G) (v : Value) (ma mx : Nat) (xs : List Value) : Prop where
  box : w.heap[gb]? = some (.cells #[.int .i64 g.n, v, .map (some ma), .map (some mx)] 72 (0, 0))
  row : w.ownsRow base 26 1 v xs.length xs
  cls : SlsX (fun k => ¬ X k ∧ k ≠ gb ∧ some k ≠ v.ownBlock) w xs g.cl
  an : MapV encP okP w ma (mapOf g.an)
  xo : MapV encP okP w mx (mapOf g.xo)
  ne : ma ≠ mx
  xb : ∀ k, X k → k < w.heap.size
  xg : ¬ X gb
  xa : ¬ X ma
  xx : ¬ X mx
  xv : ∀ k, some k = v.ownBlock → ¬ X k
  n1 : g.n ≤ 1048576
  cl : g.cl.length ≤ 4 * g.n
/-- there is one -/
def GR (X : Nat → Prop) (base : Nat) (w : World) (gb : Nat) (g : G) : Prop := ∃ v ma mx xs, GRep X base w gb g v ma mx xs

section
variable {X : Nat → Prop} {base gb ma mx : Nat} {w w' : World} {g : G} {v : Value} {xs : List Value}
theorem GRep.lt (h : GRep X base w gb g v ma mx xs) : gb < w.heap.size ∧ ma < w.heap.size ∧ mx < w.heap.size := ⟨lt_of_block h.box, h.an.lt, h.xo.lt⟩
theorem GRep.apart (h : GRep X base w gb g v ma mx xs) : gb ≠ ma ∧ gb ≠ mx ∧ (∀ k, some k = v.ownBlock → k ≠ gb ∧ k ≠ ma ∧ k ≠ mx) := by
  obtain ⟨es, c, ha, _⟩ := h.an
  obtain ⟨es', c', hx, _⟩ := h.xo
  have hg := h.box
  refine ⟨?_, ?_, fun k hk => ?_⟩
  · rintro rfl; rw [hg] at ha; simp at ha
  · rintro rfl; rw [hg] at hx; simp at hx
  · rcases h.row.2 with ⟨rfl, _⟩ | ⟨q, c, cur, rfl, _, hh, _⟩
    · cases hk
    · simp only [Value.ownBlock, Option.some.injEq] at hk
      subst hk
      refine ⟨?_, ?_, ?_⟩
      · rintro rfl; rw [hg] at hh; simp at hh
      · rintro rfl; rw [ha] at hh; simp at hh
      · rintro rfl; rw [hx] at hh; simp at hh
/-- nothing of it is touched -/
theorem GRep.same (h : GRep X base w gb g v ma mx xs) (hg : w.grownBy w' none) : GRep X base w' gb g v ma mx xs := by
  have hk : Kept (fun _ => True) w w' := ⟨hg.os, hg.tape, hg.output, hg.size, fun i hi _ => hg.block i hi (by simp)⟩
  obtain ⟨l1, l2, l3⟩ := h.lt
  exact ⟨hk.at h.box trivial, h.row.kept hg (by cases v.ownBlock <;> simp), h.cls.kept (hk.mono fun _ _ _ => trivial), h.an.kept hk trivial, h.xo.kept hk trivial, h.ne, fun k hx => Nat.lt_of_lt_of_le (h.xb k hx) hg.size, h.xg, h.xa, h.xx, h.xv, h.n1, h.cl⟩
theorem GRep.alloc (h : GRep X base w gb g v ma mx xs) (o : Obj) : GRep X base (w.alloc o) gb g v ma mx xs := h.same ⟨rfl, rfl, rfl, by simp, fun k hk _ => Below.heap_alloc w o k hk⟩
/-- a block of another's is written -/
theorem GRep.other (h : GRep X base w gb g v ma mx xs) {q : Nat} (hg : w.grownBy w' (some q)) (hq : X q) : GRep X base w' gb g v ma mx xs := by
  have hk : Kept (fun k => ¬ X k) w w' := ⟨hg.os, hg.tape, hg.output, hg.size, fun i hi hx => hg.block i hi (fun e => by injection e with e; subst e; exact hx hq)⟩
  refine ⟨hk.at h.box h.xg, h.row.kept hg ?_, h.cls.kept (hk.mono fun _ _ hx => hx.1), h.an.kept hk h.xa, h.xo.kept hk h.xx, h.ne, fun k hx => Nat.lt_of_lt_of_le (h.xb k hx) hg.size, h.xg, h.xa, h.xx, h.xv, h.n1, h.cl⟩
  rcases hv : v.ownBlock with _ | k
  · exact .inl rfl
  · right
    intro e
    injection e with e
    exact h.xv k hv.symm (e ▸ hq)
/-- a block more, another's -/
theorem GRep.own (h : GRep X base w gb g v ma mx xs) (o : Obj) : GRep (fun k => X k ∨ k = w.heap.size) base (w.alloc o) gb g v ma mx xs := by
  obtain ⟨l1, l2, l3⟩ := h.lt
  have h2 := h.alloc o
  refine ⟨h2.box, h2.row, ?_, h2.an, h2.xo, h2.ne, ?_, ?_, ?_, ?_, ?_, h.n1, h.cl⟩
  · have := (h.cls.mono (Z := fun k => ¬ (X k ∨ k = w.heap.size) ∧ k ≠ gb ∧ some k ≠ v.ownBlock) fun k hk hx => ⟨by rintro (h1 | rfl); exact hx.1 h1; omega, hx.2⟩)
    exact this.kept ⟨rfl, rfl, rfl, by simp, fun k hk _ => Below.heap_alloc w o k hk⟩
  · rintro k (h1 | rfl)
    · have := h.xb k h1; simp; omega
    · simp
  · rintro (h1 | rfl)
    · exact h.xg h1
    · omega
  · rintro (h1 | rfl)
    · exact h.xa h1
    · omega
  · rintro (h1 | rfl)
    · exact h.xx h1
    · omega
  · intro k hk
    have hkl := (h.row.lt k hk.symm).2
    rintro (h1 | rfl)
    · exact h.xv k hk h1
    · omega
/-- X shrinks -/
theorem GRep.less (h : GRep X base w gb g v ma mx xs) {Y : Nat → Prop} (hY : ∀ k, Y k → X k) : GRep Y base w gb g v ma mx xs :=
  ⟨h.box, h.row, h.cls.mono fun k _ hx => ⟨fun hy => hx.1 (hY k hy), hx.2⟩, h.an, h.xo, h.ne, fun k hy => h.xb k (hY k hy), fun hy => h.xg (hY _ hy), fun hy => h.xa (hY _ hy), fun hy => h.xx (hY _ hy), fun k hk hy => h.xv k hk (hY _ hy), h.n1, h.cl⟩
/-- clauses more are said -/
theorem GRep.said (h : GRep X base w gb g v ma mx xs) {w1 w2 : World} {q n cap : Nat} {ys : List Value} {cs : List (List Int)} (hown : w1.ownsRow base 26 1 (.slice (some ⟨q, 0, none⟩) n cap) (xs ++ ys).length (xs ++ ys)) (hg : w.grownBy w1 v.ownBlock) (hq : v.ownBlock = some q ∨ q = w.heap.size)
    (hb : w2.heap[gb]? = some (.cells #[.int .i64 g.n, .slice (some ⟨q, 0, none⟩) n cap, .map (some ma), .map (some mx)] 72 (0, 0))) (hg2 : w1.grownBy w2 (some gb)) (hY : SlsX (fun k => ¬ X k ∧ k ≠ gb ∧ some k ≠ v.ownBlock) w ys cs) (hc : g.cl.length + cs.length ≤ 4 * g.n) :
    GRep X base w2 gb ⟨g.n, g.cl ++ cs, g.an, g.xo⟩ (.slice (some ⟨q, 0, none⟩) n cap) ma mx (xs ++ ys) ∧ Kept X w w2 := by
  obtain ⟨a1, a2, a3⟩ := h.apart
  obtain ⟨l1, l2, l3⟩ := h.lt
  have hk1 : Kept (fun k => some k ≠ v.ownBlock) w w1 := ⟨hg.os, hg.tape, hg.output, hg.size, fun i hi hx => hg.block i hi hx⟩
  have hk2 : Kept (fun k => k ≠ gb) w1 w2 := ⟨hg2.os, hg2.tape, hg2.output, hg2.size, fun i hi hx => hg2.block i hi (fun e => hx (by injection e))⟩
  have hk : Kept (fun k => some k ≠ v.ownBlock ∧ k ≠ gb) w w2 := (hk1.mono fun _ _ hx => hx.1).trans (hk2.mono fun _ _ hx => hx.2)
  have hqg : q ≠ gb := by
    rcases hq with e | e
    · exact (a3 q e.symm).1
    · omega
  have hqX : ¬ X q := by
    rcases hq with e | e
    · exact h.xv q e.symm
    · intro hx; have := h.xb q hx; omega
  refine ⟨⟨hb, hown.kept hg2 (.inr (fun e => by simp only [Value.ownBlock, Option.some.injEq] at e; exact hqg e)), ?_, h.an.kept hk ⟨fun e => (a3 _ e).2.1 rfl, Ne.symm a1⟩, h.xo.kept hk ⟨fun e => (a3 _ e).2.2 rfl, Ne.symm a2⟩, h.ne, fun k hx => Nat.lt_of_lt_of_le (h.xb k hx) hk.size, h.xg, h.xa, h.xx, ?_, h.n1, ?_⟩, ?_⟩
  · have hall := h.cls.append hY
    have h2 := hall.mono (Z := fun k => ¬ X k ∧ k ≠ gb ∧ some k ≠ v.ownBlock ∧ k ≠ q) (fun k hk0 hx => ⟨hx.1, hx.2.1, hx.2.2, by
      rcases hq with e | e
      · intro e2; exact hx.2.2 (by rw [e, e2])
      · omega⟩)
    exact (h2.kept (hk.mono fun k _ hx => ⟨hx.2.2.1, hx.2.1⟩)).mono fun k _ hx => ⟨hx.1, hx.2.1, fun e => by simp only [Value.ownBlock, Option.some.injEq] at e; exact hx.2.2.2 e⟩
  · intro k hk0
    simp only [Value.ownBlock, Option.some.injEq] at hk0
    subst hk0
    exact hqX
  · rw [List.length_append]; exact hc
  · exact hk.mono fun k _ hx => ⟨fun e => h.xv k e hx, fun e => h.xg (e ▸ hx)⟩
/-- a pair more -/
theorem GRep.putA (h : GRep X base w gb g v ma mx xs) {an : List ((Int × Int) × Int)} (hg : w.grownBy w' (some ma)) (hm : MapV encP okP w' ma (mapOf an)) : GRep X base w' gb ⟨g.n, g.cl, an, g.xo⟩ v ma mx xs ∧ Kept X w w' := by
  obtain ⟨a1, a2, a3⟩ := h.apart
  have hk : Kept (fun k => k ≠ ma) w w' := ⟨hg.os, hg.tape, hg.output, hg.size, fun i hi hx => hg.block i hi (fun e => hx (by injection e))⟩
  obtain ⟨es, cl0, hma, _⟩ := h.an
  refine ⟨⟨hk.at h.box a1, h.row.kept hg ?_, ?_, hm, h.xo.kept hk (Ne.symm h.ne), h.ne, fun k hx => Nat.lt_of_lt_of_le (h.xb k hx) hg.size, h.xg, h.xa, h.xx, h.xv, h.n1, h.cl⟩, hk.mono fun k _ hx e => h.xa (e ▸ hx)⟩
  · rcases hv : v.ownBlock with _ | k
    · exact .inl rfl
    · right
      intro e
      injection e with e
      exact (a3 k hv.symm).2.1 e
  · refine ⟨h.cls.1, fun i x l hx hl => ?_⟩
    obtain ⟨ao, cap, b1, b2, b3, b4⟩ := h.cls.2 i x l hx hl
    refine ⟨ao, cap, b1, b2, b3, fun hn => ?_⟩
    obtain ⟨b, o, e1, e2, e3, e4⟩ := b4 hn
    refine ⟨b, o, e1, e2, Nat.lt_of_lt_of_le e3 hg.size, e4.kept hk ?_⟩
    rintro rfl
    have hl0 : 0 < l.length := List.length_pos_iff.2 hn
    have := e4 0 _ (List.getElem?_eq_getElem hl0)
    simp [World.cell?, hma] at this
theorem GRep.putX (h : GRep X base w gb g v ma mx xs) {xo : List ((Int × Int) × Int)} (hg : w.grownBy w' (some mx)) (hm : MapV encP okP w' mx (mapOf xo)) : GRep X base w' gb ⟨g.n, g.cl, g.an, xo⟩ v ma mx xs ∧ Kept X w w' := by
  obtain ⟨a1, a2, a3⟩ := h.apart
  have hk : Kept (fun k => k ≠ mx) w w' := ⟨hg.os, hg.tape, hg.output, hg.size, fun i hi hx => hg.block i hi (fun e => hx (by injection e))⟩
  obtain ⟨es, cl0, hma, _⟩ := h.xo
  refine ⟨⟨hk.at h.box a2, h.row.kept hg ?_, ?_, h.an.kept hk h.ne, hm, h.ne, fun k hx => Nat.lt_of_lt_of_le (h.xb k hx) hg.size, h.xg, h.xa, h.xx, h.xv, h.n1, h.cl⟩, hk.mono fun k _ hx e => h.xx (e ▸ hx)⟩
  · rcases hv : v.ownBlock with _ | k
    · exact .inl rfl
    · right
      intro e
      injection e with e
      exact (a3 k hv.symm).2.2 e
  · refine ⟨h.cls.1, fun i x l hx hl => ?_⟩
    obtain ⟨ao, cap, b1, b2, b3, b4⟩ := h.cls.2 i x l hx hl
    refine ⟨ao, cap, b1, b2, b3, fun hn => ?_⟩
    obtain ⟨b, o, e1, e2, e3, e4⟩ := b4 hn
    refine ⟨b, o, e1, e2, Nat.lt_of_lt_of_le e3 hg.size, e4.kept hk ?_⟩
    rintro rfl
    have hl0 : 0 < l.length := List.length_pos_iff.2 hn
    have := e4 0 _ (List.getElem?_eq_getElem hl0)
    simp [World.cell?, hma] at this
end

theorem sizeG : (Try.prog.info? 72).map (·.size) = some 4 := by kernel_rfl
theorem info26 : (Try.prog.info? 26).map (fun i => (i.zero, i.size, i.bytes)) = some (some (.slice none 0 0), 1, 24) := by kernel_rfl
theorem info3 : (Try.prog.info? 3).map (fun i => (i.zero, i.size, i.bytes)) = some (some (.int .i64 0), 1, 8) := by kernel_rfl
theorem box4g {w : World} {g : Nat} {T : TypeId} {a b c d : Value} (H : w.heap[g]? = some (.cells #[a, b, c, d] T (0, 0))) :
    w.cell? ⟨g, 0, none⟩ = some a ∧ w.cell? ⟨g, 1, none⟩ = some b ∧ w.cell? ⟨g, 2, none⟩ = some c ∧ w.cell? ⟨g, 3, none⟩ = some d ∧ (∀ i, w.frozen? ⟨g, i, none⟩ = false) :=
  ⟨by simp [World.cell?, H], by simp [World.cell?, H], by simp [World.cell?, H], by simp [World.cell?, H], fun i => by simp [World.frozen?, H]⟩
theorem set_row {w : World} {g i : Nat} {cs : Array Value} {t : TypeId} (v : Value) (H : w.heap[g]? = some (.cells cs t (0, 0))) : (w.setCell ⟨g, i, none⟩ v).heap[g]? = some (.cells (cs.setIfInBounds i v) t (0, 0)) ∧ w.grownBy (w.setCell ⟨g, i, none⟩ v) (some g) :=
  ⟨heap_setCell_same w g i cs t v H, ⟨rfl, rfl, rfl, by simp, fun k hk hn => heap_setCell_other w _ k v (fun e => hn (by rw [e]))⟩⟩
/-- the box alone is written -/
theorem GRep.boxed {X : Nat → Prop} {base gb ma mx : Nat} {w w' : World} {g : G} {v : Value} {xs : List Value} (h : GRep X base w gb g v ma mx xs) (hg : w.grownBy w' (some gb)) {n : Nat} (hb : w'.heap[gb]? = some (.cells #[.int .i64 n, v, .map (some ma), .map (some mx)] 72 (0, 0))) (hn : g.n ≤ n) (h1 : n ≤ 1048576) :
    GRep X base w' gb ⟨n, g.cl, g.an, g.xo⟩ v ma mx xs := by
  obtain ⟨a1, a2, a3⟩ := h.apart
  have hk : Kept (fun k => k ≠ gb) w w' := ⟨hg.os, hg.tape, hg.output, hg.size, fun i hi hx => hg.block i hi (fun e => hx (by injection e))⟩
  refine ⟨hb, h.row.kept hg ?_, h.cls.kept (hk.mono fun _ _ hx => hx.2.1), h.an.kept hk (Ne.symm a1), h.xo.kept hk (Ne.symm a2), h.ne, fun k hx => Nat.lt_of_lt_of_le (h.xb k hx) hg.size, h.xg, h.xa, h.xx, h.xv, h1, by have := h.cl; show g.cl.length ≤ 4 * n; omega⟩
  rcases hv : v.ownBlock with _ | k
  · exact .inl rfl
  · right
    intro e
    injection e with e
    exact (a3 k hv.symm).1 e

set_option maxRecDepth 100000 in
theorem fresh_any {X : Nat → Prop} {base gb ma mx : Nat} {g : G} {v : Value} {xs : List Value} (w : World) (h : GRep X base w gb g v ma mx xs) (hn : g.n < 1048576) :
    Calls Try.prog 36 #[.pointer (some ⟨gb, 0, none⟩)] w fun e w' => e = .returned (.int .i64 ((g.n : Int) + 1)) ∧ GRep X base w' gb ⟨g.n + 1, g.cl, g.an, g.xo⟩ v ma mx xs ∧ Kept X w w' := by
  obtain ⟨c0, c1, c2, c3, cf⟩ := box4g h.box
  have cf0 := cf 0
  obtain ⟨N, hN⟩ : ∃ N : Int, (g.n : Int) = N := ⟨_, rfl⟩
  have hs := set_row (i := 0) (.int .i64 (N + 1)) h.box
  have H := Lib.hid h
  have Hs := Lib.hid hs
  have Hn := Lib.hid hn
  have hn1 : N < 1048576 := by omega
  have hn0 : 0 ≤ N := by omega
  have HN := Lib.hid hN
  rw [hN] at c0 ⊢
  clear h hs cf c1 c2 c3 hn hN
  go_enter Try.func36, Try.ntmps36
  (repeat (first | (with_reducible first | refine xA ?_ | refine xB ?_ | refine xC ?_ | refine xD ?_ | refine xH ?_ | refine xI rfl ?_ | refine xE ?_ | refine xF ?_ | refine xG ?_) | go_values | go_skip | go_guarded | go_step | go_upon | go_back | ((with_reducible show Oper.upon _ _ _ _ _ _); go_simp) | (dsimp only)))
  go_ret
  obtain rfl := HN.out
  have hg := Hs.out.2
  have hb := Hs.out.1
  refine ⟨rfl, H.out.boxed hg (n := g.n + 1) (by simpa using hb) (by omega) (by have := Hn.out; omega), ?_⟩
  exact (Kept.refl X w).grown hg (fun q e _ => by injection e with e; subst e; exact H.out.xg)

end Go.Proofs.Ytmaogkgjiplckaa
