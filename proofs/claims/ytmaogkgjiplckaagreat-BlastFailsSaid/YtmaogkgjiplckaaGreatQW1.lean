import Derived.Lib.Hide
import Derived.Test.YtmaogkgjiplckaaGreatProg
import Derived.WalkKit
import Derived.WalkSpells
import Derived.WalkLawsBesides
import Derived.Deep.QuietTactic
import Derived.BigQuiet
import Derived.Deep.RegionHeld3
import Derived.StillTailTactics
import Derived.Deep.DeepCutAuto
import Derived.Deep.DeepFit
import Derived.Laws.Tables
import Derived.Deep.WholeRow
import Derived.Maps.OwnSet
import Derived.Maps.Own
import Derived.OneCell
import Derived.OrdersHeld
import Derived.OpenShut
import Derived.Maps.RangeRun
import Derived.Maps.RangeWalk
import Derived.DeepKeys4
import Derived.Deep.AppendLies
import Derived.Laws.OwnMore
namespace Go.Proofs.YtmaogkgjiplckaaGreat
theorem qz1 {α : Type} {l : List α} {i : Nat} (h : i < l.toArray.size) : l.toArray[i] = l[i]'(by simpa using h) := rfl
theorem qz2 {α : Type} {a : α} {l : List α} (h : 0 < (a :: l).length) : (a :: l)[0] = a := rfl
theorem qz3 {α : Type} {a : α} {l : List α} {i : Nat} (h : i + 1 < (a :: l).length) : (a :: l)[i + 1] = l[i]'(by simpa using h) := rfl
theorem qz4 {α : Type} (l : List α) (i : Nat) (a : α) : l.toArray.setIfInBounds i a = (l.set i a).toArray := List.setIfInBounds_toArray l i a
theorem qz5 {α : Type} {a : α} {l : List α} {n : Nat} {x : α} : (a :: l).set (n + 1) x = a :: l.set n x := rfl
theorem qz6 {α : Type} {a : α} {l : List α} {x : α} : (a :: l).set 0 x = x :: l := rfl
end Go.Proofs.YtmaogkgjiplckaaGreat
set_option linter.unusedVariables false
set_option linter.unusedSimpArgs false
namespace Go.Proofs.YtmaogkgjiplckaaGreat
open Go.RowKit
structure G where
  n : Nat
  cl : List (List Int)
  an : List ((Int × Int) × Int)
  xo : List ((Int × Int) × Int)
def look (m : List ((Int × Int) × Int)) (a b : Int) : Option Int := (m.find? fun e => decide (e.1 = (a, b))).map (·.2)
def bothKey (a b : Int) : Option Int :=
  if a = b ∨ b = 1 then some a else if a = -b ∨ a = -1 then some (-1) else if a = 1 then some b else if b = -1 then some (-1) else none
def bothS (g : G) (a b : Int) : G × Int :=
  match bothKey a b with
  | some r => (g, r)
  | none => match look g.an a b with
    | some z => (g, z)
    | none => (⟨g.n + 1, g.cl ++ [[-(g.n + 1 : Int), a], [-(g.n + 1 : Int), b], [(g.n + 1 : Int), -a, -b]], g.an ++ [((a, b), (g.n + 1 : Int))], g.xo⟩, (g.n + 1 : Int))
def both (g : G) (x y : Int) : G × Int := bothS g (min x y) (max x y)
def oddKey (a b s : Int) : Option Int := if a = b then some (-1 * s) else if a = 1 then some (-b * s) else none
def oddS (g : G) (a b s : Int) : G × Int :=
  match oddKey a b s with
  | some r => (g, r)
  | none => match look g.xo a b with
    | some z => (g, z * s)
    | none => (⟨g.n + 1, g.cl ++ [[-(g.n + 1 : Int), a, b], [-(g.n + 1 : Int), -a, -b], [(g.n + 1 : Int), -a, b], [(g.n + 1 : Int), a, -b]], g.an, g.xo ++ [((a, b), (g.n + 1 : Int))]⟩, (g.n + 1 : Int) * s)
def absI (x : Int) : Int := if x < 0 then -x else x
def sgn2 (x y : Int) : Int := (if x < 0 then -1 else 1) * (if y < 0 then -1 else 1)
def odd (g : G) (x y : Int) : G × Int := oddS g (min (absI x) (absI y)) (max (absI x) (absI y)) (sgn2 x y)
def either (g : G) (x y : Int) : G × Int := let r := both g (-x) (-y); (r.1, -r.2)
def choice (g : G) (c x y : Int) : G × Int :=
  if x = y then (g, x) else
  let a := both g c x
  let b := both a.1 (-c) y
  either b.1 a.2 b.2
def free (g : G) : G × Int := (⟨g.n + 1, g.cl, g.an, g.xo⟩, (g.n + 1 : Int))
def newG : G := ⟨1, [[1]], [], []⟩
def lit (s : Nat → Bool) (x : Int) : Bool := if 0 < x then s x.toNat else !s (-x).toNat
def isL (n : Nat) (x : Int) : Prop := x ≠ 0 ∧ x ≤ n ∧ -x ≤ n
inductive Der (cl : List (List Int)) (fr : List Int) : Int → Prop
  | base (x : Int) : x ∈ fr → Der cl fr x
  | unit (c : List Int) (x : Int) : c ∈ cl → x ∈ c → (∀ y ∈ c, y ≠ x → Der cl fr (-y)) → Der cl fr x
theorem Der.mono {cl cl' : List (List Int)} {fr fr' : List Int} {x : Int} (h : Der cl fr x) (h1 : ∀ c ∈ cl, c ∈ cl') (h2 : ∀ x ∈ fr, x ∈ fr') : Der cl' fr' x := by
  induction h with
  | base x hx => exact .base x (h2 x hx)
  | unit c x hc hx _ ih => exact .unit c x (h1 c hc) hx ih
theorem lit_neg {s : Nat → Bool} {x : Int} (h : x ≠ 0) : lit s (-x) = !lit s x := by
  unfold lit
  by_cases h1 : 0 < x
  · rw [if_neg (by omega), if_pos h1, Int.neg_neg]
  · rw [if_pos (by omega), if_neg h1, Bool.not_not]
theorem lit_agree {s t : Nat → Bool} {n : Nat} (h : ∀ v, v ≤ n → t v = s v) {x : Int} (hx : isL n x) : lit t x = lit s x := by
  unfold lit
  obtain ⟨h0, h1, h2⟩ := hx
  split
  · exact h _ (by omega)
  · rw [h _ (by omega)]
theorem isL.neg {n : Nat} {x : Int} (h : isL n x) : isL n (-x) := ⟨by have := h.1; omega, h.2.2, by have := h.2.1; omega⟩
theorem isL.mono {n m : Nat} {x : Int} (h : isL n x) (hm : n ≤ m) : isL m x := ⟨h.1, by have := h.2.1; omega, by have := h.2.2; omega⟩
structure GI (g : G) (fr : List Int) (s : Nat → Bool) : Prop where
  pos : 1 ≤ g.n
  one : s 1 = true
  sat : ∀ c ∈ g.cl, ∃ x ∈ c, lit s x = true
  rng : ∀ c ∈ g.cl, ∀ x ∈ c, isL g.n x
  det : ∀ v : Nat, 1 ≤ v → v ≤ g.n → Der g.cl fr (if s v then (v : Int) else -(v : Int))
  frm : ∀ x ∈ fr, isL g.n x ∧ lit s x = true
  an : ∀ e ∈ g.an, isL g.n e.1.1 ∧ isL g.n e.1.2 ∧ isL g.n e.2 ∧ lit s e.2 = (lit s e.1.1 && lit s e.1.2)
  xo : ∀ e ∈ g.xo, isL g.n e.1.1 ∧ isL g.n e.1.2 ∧ isL g.n e.2 ∧ lit s e.2 = (lit s e.1.1 != lit s e.1.2)
  len : ∀ c ∈ g.cl, c.length ≤ 3
theorem GI.der {g : G} {fr : List Int} {s : Nat → Bool} (h : GI g fr s) {x : Int} (hx : isL g.n x) (ht : lit s x = true) : Der g.cl fr x := by
  obtain ⟨h0, h1, h2⟩ := hx
  unfold lit at ht
  split at ht
  · have := h.det x.toNat (by omega) (by omega)
    rw [ht, if_pos rfl] at this
    rwa [show ((x.toNat : Nat) : Int) = x by omega] at this
  · have := h.det (-x).toNat (by omega) (by omega)
    have hf : s (-x).toNat = false := by simpa using ht
    rw [hf, if_neg (by simp)] at this
    rwa [show -(((-x).toNat : Nat) : Int) = x by omega] at this
theorem GI.derN {g : G} {fr : List Int} {s : Nat → Bool} (h : GI g fr s) {x : Int} (hx : isL g.n x) (ht : lit s x = false) : Der g.cl fr (-x) :=
  h.der hx.neg (by rw [lit_neg hx.1, ht]; rfl)
structure Step (g : G) (s : Nat → Bool) (g' : G) (s' : Nat → Bool) : Prop where
  le : g.n ≤ g'.n
  agree : ∀ v, v ≤ g.n → s' v = s v
theorem Step.refl (g : G) (s : Nat → Bool) : Step g s g s := ⟨Nat.le_refl _, fun _ _ => rfl⟩
theorem Step.trans {g g' g'' : G} {s s' s'' : Nat → Bool} (h : Step g s g' s') (k : Step g' s' g'' s'') : Step g s g'' s'' :=
  ⟨Nat.le_trans h.le k.le, fun v hv => (k.agree v (Nat.le_trans hv h.le)).trans (h.agree v hv)⟩
theorem Step.lit {g g' : G} {s s' : Nat → Bool} (h : Step g s g' s') {x : Int} (hx : isL g.n x) : lit s' x = lit s x := lit_agree h.agree hx
theorem Step.isL {g g' : G} {s s' : Nat → Bool} (h : Step g s g' s') {x : Int} (hx : isL g.n x) : isL g'.n x := hx.mono h.le
theorem GI.grow {g : G} {fr : List Int} {s : Nat → Bool} (h : GI g fr s) (b : Bool) (cs : List (List Int)) (an xo : List ((Int × Int) × Int)) (fr' : List Int) (s' : Nat → Bool) (hs' : s' = fun v => if v = g.n + 1 then b else s v)
    (hsat : ∀ c ∈ cs, ∃ x ∈ c, lit s' x = true) (hrng : ∀ c ∈ cs, ∀ x ∈ c, isL (g.n + 1) x) (hfr : ∀ x ∈ fr, x ∈ fr') (hfr' : ∀ x ∈ fr', x ∉ fr → isL (g.n + 1) x ∧ lit s' x = true)
    (hdet : Der (g.cl ++ cs) fr' (if b then ((g.n + 1 : Nat) : Int) else -((g.n + 1 : Nat) : Int)))
    (hlen : ∀ c ∈ cs, c.length ≤ 3)
    (han : ∀ e ∈ an, isL (g.n + 1) e.1.1 ∧ isL (g.n + 1) e.1.2 ∧ isL (g.n + 1) e.2 ∧ lit s' e.2 = (lit s' e.1.1 && lit s' e.1.2))
    (hxo : ∀ e ∈ xo, isL (g.n + 1) e.1.1 ∧ isL (g.n + 1) e.1.2 ∧ isL (g.n + 1) e.2 ∧ lit s' e.2 = (lit s' e.1.1 != lit s' e.1.2)) :
    GI ⟨g.n + 1, g.cl ++ cs, g.an ++ an, g.xo ++ xo⟩ fr' s' ∧ (∀ v, v ≤ g.n → s' v = s v) := by
  have hag : ∀ v, v ≤ g.n → s' v = s v := by
    intro v hv
    subst hs'
    show (if v = g.n + 1 then b else s v) = s v
    rw [if_neg (by omega)]
  refine ⟨⟨by show 1 ≤ g.n + 1; omega, by rw [hag 1 h.pos]; exact h.one, ?_, ?_, ?_, ?_, ?_, ?_, fun c hc => (List.mem_append.1 hc).elim (h.len c) (hlen c)⟩, hag⟩
  · intro c hc
    rcases List.mem_append.1 hc with hc | hc
    · obtain ⟨x, hx, hl⟩ := h.sat c hc
      exact ⟨x, hx, by rw [lit_agree hag (h.rng c hc x hx)]; exact hl⟩
    · exact hsat c hc
  · intro c hc x hx
    rcases List.mem_append.1 hc with hc | hc
    · exact (h.rng c hc x hx).mono (Nat.le_succ _)
    · exact hrng c hc x hx
  · intro v h1 h2
    by_cases e : v = g.n + 1
    · subst e
      have : s' (g.n + 1) = b := by subst hs'; simp
      rw [this]
      exact hdet
    · have hv : v ≤ g.n := by have : v ≤ g.n + 1 := h2; omega
      rw [hag v hv]
      exact (h.det v h1 hv).mono (fun c hc => List.mem_append_left _ hc) hfr
  · intro x hx
    by_cases e : x ∈ fr
    · have := h.frm x e
      exact ⟨this.1.mono (Nat.le_succ _), by rw [lit_agree hag this.1]; exact this.2⟩
    · exact hfr' x hx e
  · intro e he
    rcases List.mem_append.1 he with he | he
    · obtain ⟨a1, a2, a3, a4⟩ := h.an e he
      exact ⟨a1.mono (Nat.le_succ _), a2.mono (Nat.le_succ _), a3.mono (Nat.le_succ _), by rw [lit_agree hag a1, lit_agree hag a2, lit_agree hag a3]; exact a4⟩
    · exact han e he
  · intro e he
    rcases List.mem_append.1 he with he | he
    · obtain ⟨a1, a2, a3, a4⟩ := h.xo e he
      exact ⟨a1.mono (Nat.le_succ _), a2.mono (Nat.le_succ _), a3.mono (Nat.le_succ _), by rw [lit_agree hag a1, lit_agree hag a2, lit_agree hag a3]; exact a4⟩
    · exact hxo e he
end Go.Proofs.YtmaogkgjiplckaaGreat
namespace Go.Proofs.YtmaogkgjiplckaaGreat
open Go.RowKit
theorem lit_one {g : G} {fr : List Int} {s : Nat → Bool} (h : GI g fr s) : lit s 1 = true := by simp [lit, h.one]
theorem lit_no {g : G} {fr : List Int} {s : Nat → Bool} (h : GI g fr s) : lit s (-1) = false := by simp [lit, h.one]
theorem isL_one {g : G} {fr : List Int} {s : Nat → Bool} (h : GI g fr s) : isL g.n 1 := by have := h.pos; exact ⟨by decide, by omega, by omega⟩
theorem isL_no {g : G} {fr : List Int} {s : Nat → Bool} (h : GI g fr s) : isL g.n (-1) := (isL_one h).neg
theorem bothKey_ok {g : G} {fr : List Int} {s : Nat → Bool} (h : GI g fr s) {a b r : Int} (ha : isL g.n a) (hb : isL g.n b) (hr : bothKey a b = some r) : isL g.n r ∧ lit s r = (lit s a && lit s b) := by
  unfold bothKey at hr
  have l1 := lit_one h
  have l0 := lit_no h
  split at hr
  · rename_i c; cases hr
    rcases c with rfl | rfl
    · exact ⟨ha, by simp⟩
    · exact ⟨ha, by simp [l1]⟩
  split at hr
  · rename_i c; cases hr
    refine ⟨isL_no h, ?_⟩
    rcases c with rfl | rfl
    · rw [l0, lit_neg hb.1]; cases lit s b <;> rfl
    · rw [l0]; rfl
  split at hr
  · rename_i c; cases hr
    subst c
    exact ⟨hb, by simp [l1]⟩
  split at hr
  · rename_i c; cases hr
    subst c
    exact ⟨isL_no h, by simp [l0]⟩
  · cases hr
theorem look_mem {m : List ((Int × Int) × Int)} {a b z : Int} (h : look m a b = some z) : ((a, b), z) ∈ m := by
  unfold look at h
  rw [Option.map_eq_some_iff] at h
  obtain ⟨⟨k, v⟩, he, hv⟩ := h
  have h1 := List.find?_some he
  simp at h1 hv
  have := List.mem_of_find?_eq_some he
  rw [h1, hv] at this
  exact this
theorem lit_self {t : Nat → Bool} {n : Nat} : lit t ((n : Int) + 1) = t (n + 1) := by
  unfold lit
  rw [if_pos (by omega), show ((n : Int) + 1).toNat = n + 1 by omega]
theorem bothS_ok {g : G} {fr : List Int} {s : Nat → Bool} (h : GI g fr s) {a b : Int} (ha : isL g.n a) (hb : isL g.n b) :
    ∃ s', GI (bothS g a b).1 fr s' ∧ Step g s (bothS g a b).1 s' ∧ (bothS g a b).1.n ≤ g.n + 1 ∧ isL (bothS g a b).1.n (bothS g a b).2 ∧ lit s' (bothS g a b).2 = (lit s a && lit s b) := by
  unfold bothS
  rcases hk : bothKey a b with _ | r
  · rcases hl : look g.an a b with _ | z
    · dsimp only
      obtain ⟨t, ht⟩ : ∃ t : Nat → Bool, t = fun v => if v = g.n + 1 then (lit s a && lit s b) else s v := ⟨_, rfl⟩
      have hag : ∀ v, v ≤ g.n → t v = s v := by intro v hv; subst ht; show (if v = g.n + 1 then _ else s v) = s v; rw [if_neg (by omega)]
      have hz : t (g.n + 1) = (lit s a && lit s b) := by subst ht; simp
      have ea := lit_agree hag ha
      have eb := lit_agree hag hb
      have hLz : isL (g.n + 1) ((g.n : Int) + 1) := ⟨by omega, by omega, by omega⟩
      have hza : lit t (-((g.n : Int) + 1)) = !(lit s a && lit s b) := by rw [lit_neg hLz.1, lit_self, hz]
      have hna : lit t (-a) = !lit s a := by rw [lit_neg ha.1, ea]
      have hnb : lit t (-b) = !lit s b := by rw [lit_neg hb.1, eb]
      have G1 := h.grow (lit s a && lit s b) [[-(g.n + 1 : Int), a], [-(g.n + 1 : Int), b], [(g.n + 1 : Int), -a, -b]] [((a, b), (g.n + 1 : Int))] [] fr t ht ?_ ?_ (fun _ hx => hx) (fun x hx hn => absurd hx hn) ?_ (by simp) ?_ (by simp)
      · rw [List.append_nil] at G1
        refine ⟨t, G1.1, ⟨Nat.le_succ _, G1.2⟩, Nat.le_refl _, hLz, ?_⟩
        rw [lit_self, hz]
      · intro c hc
        simp only [List.mem_cons, List.not_mem_nil, or_false] at hc
        cases hA : lit s a <;> cases hB : lit s b <;> rw [hA, hB] at hza <;> rw [hA] at hna ea <;> rw [hB] at hnb eb
        · rcases hc with rfl | rfl | rfl
          · exact ⟨_, List.mem_cons_self, by simpa using hza⟩
          · exact ⟨_, List.mem_cons_self, by simpa using hza⟩
          · exact ⟨-a, by simp, by simpa using hna⟩
        · rcases hc with rfl | rfl | rfl
          · exact ⟨_, List.mem_cons_self, by simpa using hza⟩
          · exact ⟨_, List.mem_cons_self, by simpa using hza⟩
          · exact ⟨-a, by simp, by simpa using hna⟩
        · rcases hc with rfl | rfl | rfl
          · exact ⟨_, List.mem_cons_self, by simpa using hza⟩
          · exact ⟨_, List.mem_cons_self, by simpa using hza⟩
          · exact ⟨-b, by simp, by simpa using hnb⟩
        · rcases hc with rfl | rfl | rfl
          · exact ⟨a, by simp, by simpa using ea⟩
          · exact ⟨b, by simp, by simpa using eb⟩
          · exact ⟨_, List.mem_cons_self, by rw [lit_self, hz, hA, hB]; rfl⟩
      · intro c hc x hx
        simp only [List.mem_cons, List.not_mem_nil, or_false] at hc
        have ha' := ha.mono (Nat.le_succ g.n)
        have hb' := hb.mono (Nat.le_succ g.n)
        rcases hc with rfl | rfl | rfl <;> simp only [List.mem_cons, List.not_mem_nil, or_false] at hx
        · rcases hx with rfl | rfl
          · exact hLz.neg
          · exact ha'
        · rcases hx with rfl | rfl
          · exact hLz.neg
          · exact hb'
        · rcases hx with rfl | rfl | rfl
          · exact hLz
          · exact ha'.neg
          · exact hb'.neg
      · have up : ∀ {x}, Der g.cl fr x → Der (g.cl ++ [[-(g.n + 1 : Int), a], [-(g.n + 1 : Int), b], [(g.n + 1 : Int), -a, -b]]) fr x := fun hd => hd.mono (fun c hc => List.mem_append_left _ hc) (fun _ hx => hx)
        rw [show ((g.n + 1 : Nat) : Int) = (g.n : Int) + 1 by omega]
        cases hA : lit s a
        · simp only [Bool.false_and, Bool.false_eq_true, if_false]
          refine .unit [-(g.n + 1 : Int), a] _ (by simp) (by simp) (fun y hy hne => ?_)
          simp only [List.mem_cons, List.not_mem_nil, or_false] at hy
          rcases hy with rfl | rfl
          · exact absurd rfl hne
          · exact up (h.derN ha hA)
        · cases hB : lit s b
          · simp only [Bool.and_false, Bool.false_eq_true, if_false]
            refine .unit [-(g.n + 1 : Int), b] _ (by simp) (by simp) (fun y hy hne => ?_)
            simp only [List.mem_cons, List.not_mem_nil, or_false] at hy
            rcases hy with rfl | rfl
            · exact absurd rfl hne
            · exact up (h.derN hb hB)
          · simp only [Bool.and_true, if_true]
            refine .unit [(g.n + 1 : Int), -a, -b] _ (by simp) (by simp) (fun y hy hne => ?_)
            simp only [List.mem_cons, List.not_mem_nil, or_false] at hy
            rcases hy with rfl | rfl | rfl
            · exact absurd rfl hne
            · rw [Int.neg_neg]; exact up (h.der ha hA)
            · rw [Int.neg_neg]; exact up (h.der hb hB)
      · intro e he
        simp only [List.mem_cons, List.not_mem_nil, or_false] at he
        subst he
        dsimp only
        exact ⟨ha.mono (Nat.le_succ _), hb.mono (Nat.le_succ _), hLz, by rw [lit_self, hz, ea, eb]⟩
    · dsimp only
      obtain ⟨_, _, a3, a4⟩ := h.an _ (look_mem hl)
      exact ⟨s, h, Step.refl _ _, Nat.le_succ _, a3, a4⟩
  · dsimp only
    obtain ⟨h1, h2⟩ := bothKey_ok h ha hb hk
    exact ⟨s, h, Step.refl _ _, Nat.le_succ _, h1, h2⟩
end Go.Proofs.YtmaogkgjiplckaaGreat
namespace Go.Proofs.YtmaogkgjiplckaaGreat
open Go.RowKit
def sgB (sg : Int) (b : Bool) : Bool := if sg = 1 then b else !b
theorem lit_mul {s : Nat → Bool} {x sg : Int} (h : x ≠ 0) (hs : sg = 1 ∨ sg = -1) : lit s (x * sg) = sgB sg (lit s x) := by
  rcases hs with rfl | rfl
  · simp [sgB]
  · rw [show x * -1 = -x by omega, lit_neg h]; simp [sgB]
theorem isL_mul {n : Nat} {x sg : Int} (h : isL n x) (hs : sg = 1 ∨ sg = -1) : isL n (x * sg) := by
  rcases hs with rfl | rfl
  · simpa using h
  · rw [show x * -1 = -x by omega]; exact h.neg
theorem oddKey_ok {g : G} {fr : List Int} {s : Nat → Bool} (h : GI g fr s) {a b r sg : Int} (ha : isL g.n a) (hb : isL g.n b) (hs : sg = 1 ∨ sg = -1) (hr : oddKey a b sg = some r) : isL g.n r ∧ lit s r = sgB sg (lit s a != lit s b) := by
  unfold oddKey at hr
  split at hr
  · rename_i c; cases hr
    subst c
    exact ⟨isL_mul (isL_no h) hs, by rw [lit_mul (by decide) hs, lit_no h]; simp⟩
  split at hr
  · rename_i c; cases hr
    subst c
    refine ⟨isL_mul hb.neg hs, ?_⟩
    rw [lit_mul hb.neg.1 hs, lit_neg hb.1, lit_one h]
    simp
  · cases hr
theorem oddS_ok {g : G} {fr : List Int} {s : Nat → Bool} (h : GI g fr s) {a b sg : Int} (ha : isL g.n a) (hb : isL g.n b) (hs : sg = 1 ∨ sg = -1) :
    ∃ s', GI (oddS g a b sg).1 fr s' ∧ Step g s (oddS g a b sg).1 s' ∧ (oddS g a b sg).1.n ≤ g.n + 1 ∧ isL (oddS g a b sg).1.n (oddS g a b sg).2 ∧ lit s' (oddS g a b sg).2 = sgB sg (lit s a != lit s b) := by
  unfold oddS
  rcases hk : oddKey a b sg with _ | r
  · rcases hl : look g.xo a b with _ | z
    · dsimp only
      obtain ⟨t, ht⟩ : ∃ t : Nat → Bool, t = fun v => if v = g.n + 1 then (lit s a != lit s b) else s v := ⟨_, rfl⟩
      have hag : ∀ v, v ≤ g.n → t v = s v := by intro v hv; subst ht; show (if v = g.n + 1 then _ else s v) = s v; rw [if_neg (by omega)]
      have hz : t (g.n + 1) = (lit s a != lit s b) := by subst ht; simp
      have ea := lit_agree hag ha
      have eb := lit_agree hag hb
      have hLz : isL (g.n + 1) ((g.n : Int) + 1) := ⟨by omega, by omega, by omega⟩
      have hzp : lit t ((g.n : Int) + 1) = (lit s a != lit s b) := by rw [lit_self, hz]
      have hza : lit t (-((g.n : Int) + 1)) = !(lit s a != lit s b) := by rw [lit_neg hLz.1, hzp]
      have hna : lit t (-a) = !lit s a := by rw [lit_neg ha.1, ea]
      have hnb : lit t (-b) = !lit s b := by rw [lit_neg hb.1, eb]
      have G1 := h.grow (lit s a != lit s b) [[-(g.n + 1 : Int), a, b], [-(g.n + 1 : Int), -a, -b], [(g.n + 1 : Int), -a, b], [(g.n + 1 : Int), a, -b]] [] [((a, b), (g.n + 1 : Int))] fr t ht ?_ ?_ (fun _ hx => hx) (fun x hx hn => absurd hx hn) ?_ (by simp) (by simp) ?_
      · rw [List.append_nil] at G1
        refine ⟨t, G1.1, ⟨Nat.le_succ _, G1.2⟩, Nat.le_refl _, isL_mul hLz hs, ?_⟩
        rw [lit_mul hLz.1 hs, hzp]
      · intro c hc
        simp only [List.mem_cons, List.not_mem_nil, or_false] at hc
        cases hA : lit s a <;> cases hB : lit s b <;> rw [hA, hB] at hza hzp <;> rw [hA] at hna ea <;> rw [hB] at hnb eb <;> rcases hc with rfl | rfl | rfl | rfl <;>
          simp [hza, hzp, hna, hnb, ea, eb]
      · intro c hc x hx
        simp only [List.mem_cons, List.not_mem_nil, or_false] at hc
        have ha' := ha.mono (Nat.le_succ g.n)
        have hb' := hb.mono (Nat.le_succ g.n)
        rcases hc with rfl | rfl | rfl | rfl <;> simp only [List.mem_cons, List.not_mem_nil, or_false] at hx <;> rcases hx with rfl | rfl | rfl <;> first | exact hLz | exact hLz.neg | exact ha' | exact hb' | exact ha'.neg | exact hb'.neg
      · have up : ∀ {x}, Der g.cl fr x → Der (g.cl ++ [[-(g.n + 1 : Int), a, b], [-(g.n + 1 : Int), -a, -b], [(g.n + 1 : Int), -a, b], [(g.n + 1 : Int), a, -b]]) fr x := fun hd => hd.mono (fun c hc => List.mem_append_left _ hc) (fun _ hx => hx)
        rw [show ((g.n + 1 : Nat) : Int) = (g.n : Int) + 1 by omega]
        cases hA : lit s a <;> cases hB : lit s b <;> simp only [bne_self_eq_false, Bool.false_eq_true, if_false, Bool.false_bne, Bool.true_bne, Bool.not_false, Bool.bne_false, Bool.bne_true, if_true]
        · refine .unit [-(g.n + 1 : Int), a, b] _ (by simp) (by simp) (fun y hy hne => ?_)
          simp only [List.mem_cons, List.not_mem_nil, or_false] at hy
          rcases hy with rfl | rfl | rfl
          · exact absurd rfl hne
          · exact up (h.derN ha hA)
          · exact up (h.derN hb hB)
        · refine .unit [(g.n + 1 : Int), a, -b] _ (by simp) (by simp) (fun y hy hne => ?_)
          simp only [List.mem_cons, List.not_mem_nil, or_false] at hy
          rcases hy with rfl | rfl | rfl
          · exact absurd rfl hne
          · exact up (h.derN ha hA)
          · rw [Int.neg_neg]; exact up (h.der hb hB)
        · refine .unit [(g.n + 1 : Int), -a, b] _ (by simp) (by simp) (fun y hy hne => ?_)
          simp only [List.mem_cons, List.not_mem_nil, or_false] at hy
          rcases hy with rfl | rfl | rfl
          · exact absurd rfl hne
          · rw [Int.neg_neg]; exact up (h.der ha hA)
          · exact up (h.derN hb hB)
        · refine .unit [-(g.n + 1 : Int), -a, -b] _ (by simp) (by simp) (fun y hy hne => ?_)
          simp only [List.mem_cons, List.not_mem_nil, or_false] at hy
          rcases hy with rfl | rfl | rfl
          · exact absurd rfl hne
          · rw [Int.neg_neg]; exact up (h.der ha hA)
          · rw [Int.neg_neg]; exact up (h.der hb hB)
      · intro e he
        simp only [List.mem_cons, List.not_mem_nil, or_false] at he
        subst he
        dsimp only
        exact ⟨ha.mono (Nat.le_succ _), hb.mono (Nat.le_succ _), hLz, by rw [hzp, ea, eb]⟩
    · dsimp only
      obtain ⟨_, _, a3, a4⟩ := h.xo _ (look_mem hl)
      exact ⟨s, h, Step.refl _ _, Nat.le_succ _, isL_mul a3 hs, by rw [lit_mul a3.1 hs, a4]⟩
  · dsimp only
    obtain ⟨h1, h2⟩ := oddKey_ok h ha hb hs hk
    exact ⟨s, h, Step.refl _ _, Nat.le_succ _, h1, h2⟩
def Ans (g : G) (fr : List Int) (s : Nat → Bool) (k : Nat) (r : G × Int) (b : Bool) : Prop :=
  ∃ s', GI r.1 fr s' ∧ Step g s r.1 s' ∧ r.1.n ≤ g.n + k ∧ isL r.1.n r.2 ∧ lit s' r.2 = b
theorem isL_min {n : Nat} {x y : Int} (hx : isL n x) (hy : isL n y) : isL n (min x y) := by
  rcases Int.le_total x y with h | h
  · rw [Int.min_eq_left h]; exact hx
  · rw [Int.min_eq_right h]; exact hy
theorem isL_max {n : Nat} {x y : Int} (hx : isL n x) (hy : isL n y) : isL n (max x y) := by
  rcases Int.le_total x y with h | h
  · rw [Int.max_eq_right h]; exact hy
  · rw [Int.max_eq_left h]; exact hx
theorem both_ok {g : G} {fr : List Int} {s : Nat → Bool} (h : GI g fr s) {x y : Int} (hx : isL g.n x) (hy : isL g.n y) : Ans g fr s 1 (both g x y) (lit s x && lit s y) := by
  obtain ⟨s', h1, h2, h3, h4, h5⟩ := bothS_ok h (isL_min hx hy) (isL_max hx hy)
  refine ⟨s', h1, h2, h3, h4, h5.trans ?_⟩
  rcases Int.le_total x y with e | e
  · rw [Int.min_eq_left e, Int.max_eq_right e]
  · rw [Int.min_eq_right e, Int.max_eq_left e, Bool.and_comm]
theorem isL_abs {n : Nat} {x : Int} (h : isL n x) : isL n (absI x) := by
  unfold absI
  split
  · exact h.neg
  · exact h
theorem odd_ok {g : G} {fr : List Int} {s : Nat → Bool} (h : GI g fr s) {x y : Int} (hx : isL g.n x) (hy : isL g.n y) : Ans g fr s 1 (odd g x y) (lit s x != lit s y) := by
  have hs : sgn2 x y = 1 ∨ sgn2 x y = -1 := by unfold sgn2; split <;> split <;> simp
  obtain ⟨s', h1, h2, h3, h4, h5⟩ := oddS_ok h (isL_min (isL_abs hx) (isL_abs hy)) (isL_max (isL_abs hx) (isL_abs hy)) hs
  refine ⟨s', h1, h2, h3, h4, h5.trans ?_⟩
  have e : (lit s (min (absI x) (absI y)) != lit s (max (absI x) (absI y))) = (lit s (absI x) != lit s (absI y)) := by
    rcases Int.le_total (absI x) (absI y) with e | e
    · rw [Int.min_eq_left e, Int.max_eq_right e]
    · rw [Int.min_eq_right e, Int.max_eq_left e]; cases lit s (absI x) <;> cases lit s (absI y) <;> rfl
  rw [e]
  unfold sgn2 absI
  split <;> split <;> simp only [sgB, lit_neg hx.1, lit_neg hy.1] <;> cases lit s x <;> cases lit s y <;> decide
theorem Ans.neg {g : G} {fr : List Int} {s : Nat → Bool} {k : Nat} {r : G × Int} {b : Bool} (h : Ans g fr s k r b) : Ans g fr s k (r.1, -r.2) (!b) := by
  obtain ⟨s', h1, h2, h3, h4, h5⟩ := h
  exact ⟨s', h1, h2, h3, h4.neg, by dsimp only; rw [lit_neg h4.1, h5]⟩
theorem either_ok {g : G} {fr : List Int} {s : Nat → Bool} (h : GI g fr s) {x y : Int} (hx : isL g.n x) (hy : isL g.n y) : Ans g fr s 1 (either g x y) (lit s x || lit s y) := by
  have := (both_ok h hx.neg hy.neg).neg
  rw [lit_neg hx.1, lit_neg hy.1] at this
  have e : (!(!lit s x && !lit s y)) = (lit s x || lit s y) := by cases lit s x <;> cases lit s y <;> rfl
  rw [e] at this
  exact this
theorem choice_ok {g : G} {fr : List Int} {s : Nat → Bool} (h : GI g fr s) {c x y : Int} (hc : isL g.n c) (hx : isL g.n x) (hy : isL g.n y) : Ans g fr s 3 (choice g c x y) (if lit s c then lit s x else lit s y) := by
  unfold choice
  split
  · rename_i e
    subst e
    exact ⟨s, h, Step.refl _ _, by show g.n ≤ g.n + 3; omega, hx, by cases lit s c <;> rfl⟩
  · dsimp only
    obtain ⟨s1, a1, a2, a3, a4, a5⟩ := both_ok h hc hx
    obtain ⟨s2, b1, b2, b3, b4, b5⟩ := both_ok a1 (a2.isL hc).neg (a2.isL hy)
    obtain ⟨s3, c1, c2, c3, c4, c5⟩ := either_ok b1 (b2.isL a4) b4
    refine ⟨s3, c1, (a2.trans b2).trans c2, by omega, c4, c5.trans ?_⟩
    rw [b2.lit a4, a5, b5, a2.lit hc.neg, a2.lit hy, lit_neg hc.1]
    cases lit s c <;> cases lit s x <;> cases lit s y <;> rfl
theorem free_ok {g : G} {fr : List Int} {s : Nat → Bool} (h : GI g fr s) (b : Bool) : ∃ s', GI (free g).1 (fr ++ [if b then (g.n + 1 : Int) else -(g.n + 1 : Int)]) s' ∧ Step g s (free g).1 s' ∧ (free g).1.n = g.n + 1 ∧ isL (free g).1.n (free g).2 ∧ lit s' (free g).2 = b := by
  obtain ⟨t, ht⟩ : ∃ t : Nat → Bool, t = fun v => if v = g.n + 1 then b else s v := ⟨_, rfl⟩
  have hz : t (g.n + 1) = b := by subst ht; simp
  have hLz : isL (g.n + 1) ((g.n : Int) + 1) := ⟨by omega, by omega, by omega⟩
  have G1 := h.grow b [] [] [] (fr ++ [if b then (g.n + 1 : Int) else -(g.n + 1 : Int)]) t ht (by simp) (by simp) (fun x hx => List.mem_append_left _ hx) ?_ ?_ (by simp) (by simp) (by simp)
  · rw [List.append_nil, List.append_nil, List.append_nil] at G1
    exact ⟨t, G1.1, ⟨Nat.le_succ _, G1.2⟩, rfl, hLz, by show lit t ((g.n : Int) + 1) = b; rw [lit_self, hz]⟩
  · intro x hx hn
    rcases List.mem_append.1 hx with hx | hx
    · exact absurd hx hn
    · rw [List.mem_singleton] at hx
      subst hx
      cases b
      · simp only [Bool.false_eq_true, if_false]
        exact ⟨hLz.neg, by rw [lit_neg hLz.1, lit_self, hz]; rfl⟩
      · simp only [if_true]
        exact ⟨hLz, by rw [lit_self, hz]⟩
  · refine .base _ (List.mem_append_right _ ?_)
    rw [show ((g.n + 1 : Nat) : Int) = (g.n : Int) + 1 by omega]
    exact List.mem_singleton.2 rfl
theorem newG_ok : GI newG [] (fun _ => true) := by
  refine ⟨by decide, rfl, ?_, ?_, ?_, by simp, by simp [newG], by simp [newG], by simp [newG]⟩
  · intro c hc
    simp [newG] at hc
    subst hc
    exact ⟨1, by simp, by simp [lit]⟩
  · intro c hc x hx
    simp [newG] at hc
    subst hc
    simp at hx
    subst hx
    exact ⟨by decide, by decide, by decide⟩
  · intro v h1 h2
    have : v = 1 := by have : v ≤ 1 := h2; omega
    subst this
    exact .unit [1] 1 (by simp [newG]) (by simp) (fun y hy hne => by simp at hy; exact absurd hy hne)
end Go.Proofs.YtmaogkgjiplckaaGreat
namespace Go.Proofs.YtmaogkgjiplckaaGreat
open Go.RowKit
def holdP (is wt : List Int) (x : Int) : Option (List Int × List Int) :=
  if -x ∈ is then none else if x ∈ is then some (is, wt) else some (is ++ [x], wt ++ [x])
def askL (is : List Int) : List Int → Int → Option Int
  | [], last => some last
  | x :: c, last => if -x ∈ is ∨ x = last then askL is c last else if x ∈ is ∨ last ≠ 0 then none else askL is c x
def askP (is wt : List Int) (c : List Int) : Option (List Int × List Int) :=
  match askL is c 0 with
  | none => some (is, wt)
  | some l => if l = 0 then none else holdP is wt l
def Conflict (cl : List (List Int)) (fr : List Int) : Prop := (∃ x ∈ fr, Der cl fr (-x)) ∨ ∃ c ∈ cl, ∀ y ∈ c, Der cl fr (-y)
def Closed (is : List Int) (c : List Int) : Prop := (∃ x ∈ c, x ∈ is) ∨ ∃ x ∈ c, ∃ y ∈ c, x ≠ y ∧ -x ∉ is ∧ -y ∉ is
def okL (x : Int) : Prop := x ≠ 0 ∧ -1048576 ≤ x ∧ x ≤ 1048576
structure SQ (cl : List (List Int)) (fr F : List Int) (is wt : List Int) (P : List (List Int)) : Prop where
  sound : ∀ x ∈ is, Der cl fr x
  cons : ∀ x ∈ is, -x ∉ is
  nod : is.Nodup
  nodw : wt.Nodup
  sub : ∀ x ∈ wt, x ∈ is
  rng : ∀ x ∈ is, okL x
  base : ∀ x ∈ F, x ∈ is
  closed : ∀ c ∈ cl, Closed is c ∨ (∃ x ∈ wt, -x ∈ c) ∨ c ∈ P
variable {cl : List (List Int)} {fr F is wt : List Int} {P : List (List Int)}
theorem SQ.start (hcl : True) : SQ cl fr [] [] [] cl :=
  ⟨by simp, by simp, by simp, by simp, by simp, by simp, by simp, fun c hc => .inr (.inr hc)⟩
theorem SQ.hold (h : SQ cl fr F is wt P) {x : Int} (hx : Der cl fr x) (ho : okL x) {r : List Int × List Int} (hr : holdP is wt x = some r) : SQ cl fr (F ++ [x]) r.1 r.2 P ∧ (∀ y ∈ is, y ∈ r.1) := by
  unfold holdP at hr
  split at hr
  · cases hr
  rename_i hn
  split at hr
  · rename_i hin
    cases hr
    refine ⟨⟨h.sound, h.cons, h.nod, h.nodw, h.sub, h.rng, ?_, h.closed⟩, fun y hy => hy⟩
    intro y hy
    rcases List.mem_append.1 hy with hy | hy
    · exact h.base y hy
    · rw [List.mem_singleton] at hy; subst hy; exact hin
  · rename_i hin
    cases hr
    refine ⟨⟨?_, ?_, ?_, ?_, ?_, ?_, ?_, ?_⟩, fun y hy => List.mem_append_left _ hy⟩
    · intro y hy
      rcases List.mem_append.1 hy with hy | hy
      · exact h.sound y hy
      · rw [List.mem_singleton] at hy; subst hy; exact hx
    · intro y hy hy'
      rcases List.mem_append.1 hy with hy | hy <;> rcases List.mem_append.1 hy' with hy' | hy'
      · exact h.cons y hy hy'
      · rw [List.mem_singleton] at hy'
        apply hn
        rw [← hy', Int.neg_neg]; exact hy
      · rw [List.mem_singleton] at hy; rw [hy] at hy'; exact hn hy'
      · rw [List.mem_singleton] at hy hy'
        subst hy
        have := ho.1
        omega
    · refine List.nodup_append.2 ⟨h.nod, by simp, fun a ha b hb => ?_⟩
      rw [List.mem_singleton] at hb
      subst hb
      exact fun e => hin (e ▸ ha)
    · refine List.nodup_append.2 ⟨h.nodw, by simp, fun a ha b hb => ?_⟩
      rw [List.mem_singleton] at hb
      subst hb
      exact fun e => hin (e ▸ h.sub a ha)
    · intro y hy
      rcases List.mem_append.1 hy with hy | hy
      · exact List.mem_append_left _ (h.sub y hy)
      · exact List.mem_append_right _ hy
    · intro y hy
      rcases List.mem_append.1 hy with hy | hy
      · exact h.rng y hy
      · rw [List.mem_singleton] at hy; subst hy; exact ho
    · intro y hy
      rcases List.mem_append.1 hy with hy | hy
      · exact List.mem_append_left _ (h.base y hy)
      · exact List.mem_append_right _ hy
    · intro c hc
      by_cases hxc : -x ∈ c
      · exact .inr (.inl ⟨x, by simp, hxc⟩)
      rcases h.closed c hc with hcl | ⟨y, hy, hyc⟩ | hP
      · left
        rcases hcl with ⟨y, hy, hyi⟩ | ⟨y, hy, z, hz, hne, h1, h2⟩
        · exact .inl ⟨y, hy, List.mem_append_left _ hyi⟩
        · refine .inr ⟨y, hy, z, hz, hne, ?_, ?_⟩
          · intro hm
            rcases List.mem_append.1 hm with hm | hm
            · exact h1 hm
            · rw [List.mem_singleton] at hm
              exact hxc (by rw [← hm, Int.neg_neg]; exact hy)
          · intro hm
            rcases List.mem_append.1 hm with hm | hm
            · exact h2 hm
            · rw [List.mem_singleton] at hm
              exact hxc (by rw [← hm, Int.neg_neg]; exact hz)
      · exact .inr (.inl ⟨y, List.mem_append_left _ hy, hyc⟩)
      · exact .inr (.inr hP)
theorem hold_no (hs : ∀ x ∈ is, Der cl fr x) {x : Int} (hr : holdP is wt x = none) : Der cl fr (-x) := by
  unfold holdP at hr
  split at hr
  · rename_i hn; exact hs _ hn
  · split at hr <;> cases hr
theorem askL_spec (is : List Int) : ∀ (c : List Int) (last : Int), (∀ x ∈ c, x ≠ 0) → (last ≠ 0 → last ∉ is ∧ -last ∉ is) →
    (askL is c last = none → (∃ x ∈ c, x ∈ is ∧ -x ∉ is) ∨ (∃ x ∈ c, -x ∉ is ∧ ((last ≠ 0 ∧ x ≠ last) ∨ ∃ y ∈ c, x ≠ y ∧ -y ∉ is))) ∧
    (∀ l, askL is c last = some l → (∀ x ∈ c, x ≠ l → -x ∈ is) ∧ (l ≠ 0 → l ∉ is ∧ -l ∉ is ∧ (l = last ∨ l ∈ c)) ∧ (last ≠ 0 → l = last)) := by
  intro c
  induction c with
  | nil =>
    intro last _ hl
    refine ⟨by simp [askL], ?_⟩
    intro l h
    simp only [askL, Option.some.injEq] at h
    subst h
    exact ⟨by simp, fun h0 => ⟨(hl h0).1, (hl h0).2, .inl rfl⟩, fun _ => rfl⟩
  | cons x c ih =>
    intro last hz hl
    have hzc : ∀ y ∈ c, y ≠ 0 := fun y hy => hz y (List.mem_cons_of_mem _ hy)
    have hx0 := hz x List.mem_cons_self
    unfold askL
    split
    · rename_i hc
      obtain ⟨i1, i2⟩ := ih last hzc hl
      refine ⟨fun h => ?_, fun l h => ?_⟩
      · rcases i1 h with ⟨y, hy, hyi⟩ | ⟨y, hy, h1, h2⟩
        · exact .inl ⟨y, List.mem_cons_of_mem _ hy, hyi⟩
        · refine .inr ⟨y, List.mem_cons_of_mem _ hy, h1, h2.imp id ?_⟩
          rintro ⟨z, hz, h3⟩
          exact ⟨z, List.mem_cons_of_mem _ hz, h3⟩
      · obtain ⟨j1, j2, j3⟩ := i2 l h
        refine ⟨fun y hy hne => ?_, fun h0 => ?_, j3⟩
        · rcases List.mem_cons.1 hy with rfl | hy
          · rcases hc with hc | hc
            · exact hc
            · subst hc
              exact absurd (j3 hx0).symm hne
          · exact j1 y hy hne
        · obtain ⟨k1, k2, k3⟩ := j2 h0
          exact ⟨k1, k2, k3.imp id (List.mem_cons_of_mem _)⟩
    · rename_i hc
      have hcn : -x ∉ is := fun h => hc (.inl h)
      have hcl : x ≠ last := fun h => hc (.inr h)
      split
      · rename_i hd
        refine ⟨fun _ => ?_, by simp⟩
        rcases hd with hd | hd
        · exact .inl ⟨x, List.mem_cons_self, hd, hcn⟩
        · exact .inr ⟨x, List.mem_cons_self, hcn, .inl ⟨hd, hcl⟩⟩
      · rename_i hd
        have hxi : x ∉ is := fun h => hd (.inl h)
        have hl0 : last = 0 := by
          by_cases e : last = 0
          · exact e
          · exact absurd (.inr e) hd
        subst hl0
        obtain ⟨i1, i2⟩ := ih x hzc (fun _ => ⟨hxi, hcn⟩)
        refine ⟨fun h => ?_, fun l h => ?_⟩
        · rcases i1 h with ⟨y, hy, hyi⟩ | ⟨y, hy, h1, h2⟩
          · exact .inl ⟨y, List.mem_cons_of_mem _ hy, hyi⟩
          · refine .inr ⟨y, List.mem_cons_of_mem _ hy, h1, .inr ?_⟩
            rcases h2 with ⟨_, h2⟩ | ⟨z, hz, h3⟩
            · exact ⟨x, List.mem_cons_self, h2, hcn⟩
            · exact ⟨z, List.mem_cons_of_mem _ hz, h3⟩
        · obtain ⟨j1, j2, j3⟩ := i2 l h
          obtain rfl := j3 hx0
          refine ⟨fun y hy hne => ?_, fun _ => ⟨hxi, hcn, .inr List.mem_cons_self⟩, by simp⟩
          rcases List.mem_cons.1 hy with rfl | hy
          · exact absurd rfl hne
          · exact j1 y hy hne
theorem SQ.ask {c : List Int} (h : SQ cl fr F is wt (c :: P)) (hc : c ∈ cl) (ho : ∀ x ∈ c, okL x) :
    (∀ r, askP is wt c = some r → SQ cl fr F r.1 r.2 P ∧ (∀ y ∈ is, y ∈ r.1)) ∧ (askP is wt c = none → Conflict cl fr) := by
  obtain ⟨a1, a2⟩ := askL_spec is c 0 (fun x hx => (ho x hx).1) (by simp)
  unfold askP
  have drop : Closed is c → SQ cl fr F is wt P := fun hcl => ⟨h.sound, h.cons, h.nod, h.nodw, h.sub, h.rng, h.base, fun d hd => by
    rcases h.closed d hd with k | k | k
    · exact .inl k
    · exact .inr (.inl k)
    · rcases List.mem_cons.1 k with rfl | k
      · exact .inl hcl
      · exact .inr (.inr k)⟩
  rcases hl : askL is c 0 with _ | l
  · dsimp only
    refine ⟨?_, by simp⟩
    intro r hr
    cases hr
    refine ⟨drop ?_, fun y hy => hy⟩
    rcases a1 hl with ⟨x, hx, hxi, _⟩ | ⟨x, hx, h1, ⟨h2, _⟩ | ⟨y, hy, h2, h3⟩⟩
    · exact .inl ⟨x, hx, hxi⟩
    · exact absurd rfl h2
    · exact .inr ⟨x, hx, y, hy, h2, h1, h3⟩
  · dsimp only
    obtain ⟨b1, b2, _⟩ := a2 l hl
    by_cases hl0 : l = 0
    · subst hl0
      refine ⟨by simp, fun _ => .inr ⟨c, hc, fun y hy => h.sound _ (b1 y hy (ho y hy).1)⟩⟩
    · rw [if_neg hl0]
      obtain ⟨c1, c2, c3⟩ := b2 hl0
      have hlc : l ∈ c := c3.resolve_left hl0
      have hd : Der cl fr l := .unit c l hc hlc (fun y hy hne => h.sound _ (b1 y hy hne))
      refine ⟨fun r hr => ?_, fun hr => ?_⟩
      · obtain ⟨k1, k2⟩ := h.hold hd (ho l hlc) hr
        have hlr : l ∈ r.1 := k1.base l (by simp)
        refine ⟨⟨k1.sound, k1.cons, k1.nod, k1.nodw, k1.sub, k1.rng, fun x hx => k1.base x (List.mem_append_left _ hx), fun d hd => ?_⟩, k2⟩
        rcases k1.closed d hd with k | k | k
        · exact .inl k
        · exact .inr (.inl k)
        · rcases List.mem_cons.1 k with rfl | k
          · exact .inl (.inl ⟨l, hlc, hlr⟩)
          · exact .inr (.inr k)
      · unfold holdP at hr
        rw [if_neg c2] at hr
        split at hr <;> cases hr
theorem SQ.pick (h : SQ cl fr F is wt []) {x : Int} (Q : List (List Int)) (hQ : ∀ c ∈ cl, -x ∈ c → c ∈ Q) : SQ cl fr F is (wt.erase x) Q := by
  refine ⟨h.sound, h.cons, h.nod, h.nodw.erase x, fun y hy => h.sub y (List.mem_of_mem_erase hy), h.rng, h.base, fun c hc => ?_⟩
  rcases h.closed c hc with k | ⟨y, hy, hyc⟩ | k
  · exact .inl k
  · by_cases e : y = x
    · subst e; exact .inr (.inr (hQ c hc hyc))
    · exact .inr (.inl ⟨y, (List.mem_erase_of_ne e).2 hy, hyc⟩)
  · cases k
theorem SQ.done (h : SQ cl fr F is [] []) (hF : ∀ x ∈ fr, x ∈ F) : (∀ x, x ∈ is ↔ Der cl fr x) ∧ ¬ Conflict cl fr := by
  have hall : ∀ x, Der cl fr x → x ∈ is := by
    intro x hd
    induction hd with
    | base x hx => exact h.base x (hF x hx)
    | unit c x hc hx _ ih =>
      rcases h.closed c hc with (⟨z, hz, hzi⟩ | ⟨p, hp, q, hq, hne, h1, h2⟩) | ⟨y, hy, _⟩ | k
      · by_cases e : z = x
        · subst e; exact hzi
        · exact absurd (ih z hz e) (h.cons z hzi)
      · by_cases e : p = x
        · subst e
          exact absurd (ih q hq (Ne.symm hne)) h2
        · exact absurd (ih p hp e) h1
      · cases hy
      · cases k
  refine ⟨fun x => ⟨h.sound x, hall x⟩, ?_⟩
  rintro (⟨x, hx, hd⟩ | ⟨c, hc, hd⟩)
  · exact h.cons x (h.base x (hF x hx)) (hall _ hd)
  · rcases h.closed c hc with (⟨z, hz, hzi⟩ | ⟨p, hp, q, hq, hne, h1, h2⟩) | ⟨y, hy, _⟩ | k
    · exact h.cons z hzi (hall _ (hd z hz))
    · exact h1 (hall _ (hd p hp))
    · cases hy
    · cases k
end Go.Proofs.YtmaogkgjiplckaaGreat
namespace Go.Proofs.YtmaogkgjiplckaaGreat
open Go.RowKit
theorem der_true {g : G} {fr : List Int} {s : Nat → Bool} (h : GI g fr s) {x : Int} (hd : Der g.cl fr x) : isL g.n x ∧ lit s x = true := by
  induction hd with
  | base x hx => exact h.frm x hx
  | unit c x hc hx _ ih =>
    have hr := h.rng c hc x hx
    refine ⟨hr, ?_⟩
    obtain ⟨z, hz, hl⟩ := h.sat c hc
    by_cases e : z = x
    · subst e; exact hl
    · have := (ih z hz e).2
      rw [lit_neg (h.rng c hc z hz).1, hl] at this
      cases this
theorem no_conflict {g : G} {fr : List Int} {s : Nat → Bool} (h : GI g fr s) : ¬ Conflict g.cl fr := by
  rintro (⟨x, hx, hd⟩ | ⟨c, hc, hd⟩)
  · have h1 := h.frm x hx
    have h2 := (der_true h hd).2
    rw [lit_neg h1.1.1, h1.2] at h2
    cases h2
  · obtain ⟨z, hz, hl⟩ := h.sat c hc
    have h2 := (der_true h (hd z hz)).2
    rw [lit_neg (h.rng c hc z hz).1, hl] at h2
    cases h2
def toldL (n : Nat) (s : Nat → Bool) : List Int := (List.range n).map fun i => if s (i + 1) then ((i : Int) + 1) else -((i : Int) + 1)
theorem toldL_len (n : Nat) (s : Nat → Bool) : (toldL n s).length = n := by simp [toldL]
theorem toldL_get (n : Nat) (s : Nat → Bool) (i : Nat) (h : i < n) : (toldL n s)[i]? = some (if s (i + 1) then ((i : Int) + 1) else -((i : Int) + 1)) := by
  simp [toldL, h]
theorem mem_told {n : Nat} {s : Nat → Bool} {x : Int} : x ∈ toldL n s ↔ isL n x ∧ lit s x = true := by
  unfold toldL
  rw [List.mem_map]
  constructor
  · rintro ⟨i, hi, rfl⟩
    rw [List.mem_range] at hi
    cases hs : s (i + 1)
    · simp only [Bool.false_eq_true, if_false]
      refine ⟨⟨by omega, by omega, by omega⟩, ?_⟩
      unfold lit
      rw [if_neg (by omega), show (- -((i : Int) + 1)).toNat = i + 1 by omega, hs]; rfl
    · simp only [if_true]
      refine ⟨⟨by omega, by omega, by omega⟩, ?_⟩
      unfold lit
      rw [if_pos (by omega), show ((i : Int) + 1).toNat = i + 1 by omega, hs]
  · rintro ⟨⟨h0, h1, h2⟩, hl⟩
    unfold lit at hl
    split at hl
    · refine ⟨x.toNat - 1, by rw [List.mem_range]; omega, ?_⟩
      rw [show x.toNat - 1 + 1 = x.toNat by omega, hl, if_pos rfl]; omega
    · refine ⟨(-x).toNat - 1, by rw [List.mem_range]; omega, ?_⟩
      have : s (-x).toNat = false := by simpa using hl
      rw [show (-x).toNat - 1 + 1 = (-x).toNat by omega, this, if_neg (by simp)]; omega
theorem rise_eq {f : Int → Int} : ∀ (a b : List Int), a.Pairwise (fun x y => f x < f y) → b.Pairwise (fun x y => f x < f y) → (∀ x, x ∈ a ↔ x ∈ b) → a = b := by
  intro a
  induction a with
  | nil =>
    intro b _ _ h
    cases b with
    | nil => rfl
    | cons y b => exact absurd ((h y).2 List.mem_cons_self) (by simp)
  | cons x a ih =>
    intro b ha hb h
    cases b with
    | nil => exact absurd ((h x).1 List.mem_cons_self) (by simp)
    | cons y b =>
      rw [List.pairwise_cons] at ha hb
      have hxy : x = y := by
        rcases List.mem_cons.1 ((h x).1 List.mem_cons_self) with e | e
        · exact e
        · rcases List.mem_cons.1 ((h y).2 List.mem_cons_self) with e2 | e2
          · exact e2.symm
          · have h1 := hb.1 x e
            have h2 := ha.1 y e2
            omega
      subst hxy
      rw [ih b ha.2 hb.2 ?_]
      intro z
      constructor
      · intro hz
        rcases List.mem_cons.1 ((h z).1 (List.mem_cons_of_mem _ hz)) with e | e
        · subst e; have := ha.1 z hz; omega
        · exact e
      · intro hz
        rcases List.mem_cons.1 ((h z).2 (List.mem_cons_of_mem _ hz)) with e | e
        · subst e; have := hb.1 z hz; omega
        · exact e
theorem told_rise (n : Nat) (s : Nat → Bool) : (toldL n s).Pairwise (fun x y => absI x < absI y) := by
  unfold toldL
  rw [List.pairwise_map]
  refine List.Pairwise.imp ?_ (List.pairwise_lt_range (n := n))
  intro i j hij
  unfold absI
  split <;> split <;> split <;> split <;> omega
theorem told_of {g : G} {fr : List Int} {s : Nat → Bool} (h : GI g fr s) {is out : List Int} (hi : ∀ x, x ∈ is ↔ Der g.cl fr x) (hcons : ∀ x ∈ is, -x ∉ is) (hnod : is.Nodup) (hp : out.Perm is) (hs : out.Pairwise (fun x y => absI x ≤ absI y)) : out = toldL g.n s := by
  have hno : out.Nodup := hp.nodup_iff.2 hnod
  have hmem : ∀ x, x ∈ out ↔ Der g.cl fr x := fun x => (hp.mem_iff).trans (hi x)
  have hst : out.Pairwise (fun x y => absI x < absI y) := by
    have hb : out.Pairwise (fun x y => absI x ≤ absI y ∧ x ≠ y) := List.Pairwise.and hs hno
    refine hb.imp_of_mem ?_
    intro x y hx hy ⟨hle, hne⟩
    have h1 : -x ∉ is := hcons x (hp.mem_iff.1 hx)
    have hy' := hp.mem_iff.1 hy
    have : absI x ≠ absI y := by
      intro e
      have : y = x ∨ y = -x := by unfold absI at e; split at e <;> split at e <;> omega
      rcases this with e | e
      · exact hne e.symm
      · exact h1 (e ▸ hy')
    omega
  refine rise_eq (f := absI) _ _ hst (told_rise _ _) (fun x => ?_)
  rw [hmem x, mem_told]
  constructor
  · exact der_true h
  · rintro ⟨h1, h2⟩; exact h.der h1 h2
def bv : List Bool → Nat
  | [] => 0
  | b :: l => (if b then 1 else 0) + 2 * bv l
theorem bv_lt (l : List Bool) : bv l < 2 ^ l.length := by
  induction l with
  | nil => simp [bv]
  | cons b l ih =>
    rw [bv, List.length_cons, Nat.pow_succ]
    split <;> omega
end Go.Proofs.YtmaogkgjiplckaaGreat
namespace Go.Proofs.YtmaogkgjiplckaaGreat
open Go.RowKit
section
variable {K : Act → World → Prop} {Q : Exit → Act → World → Prop} {a : Act} {w : World} {id id' : Nat} {ch : List PanicEntry}
theorem xA (h : K a w) : Exit.then K Q .normal a w := h
theorem xB (h : Q (.exit id) a w) : Exit.then K Q (.exit id) a w := h
theorem xC (h : Q .ret a w) : Exit.then K Q .ret a w := h
theorem xD (h : Q (.panic ch) a w) : Exit.then K Q (.panic ch) a w := h
theorem xE (h : Q .normal a w) : Exit.inBlock id Q .normal a w := h
theorem xF (h : Q .ret a w) : Exit.inBlock id Q .ret a w := h
theorem xG (h : Q (.panic ch) a w) : Exit.inBlock id Q (.panic ch) a w := h
theorem xH (h : Q .normal a w) : Exit.inBlock id Q (.exit id) a w := by simp only [Exit.inBlock, if_true]; exact h
theorem xI (e : (id' == id) = false) (h : Q (.exit id') a w) : Exit.inBlock id Q (.exit id') a w := by
  have : ¬ id' = id := by simpa using e
  simp only [Exit.inBlock, this, if_false]; exact h
end
theorem ret_int {k : IntKind} {a b : Int} (h : a = b) : Ending.returned (.int k a) = .returned (.int k b) := by rw [h]
theorem ret_bool {a b : Bool} (h : a = b) : Ending.returned (.bool a) = .returned (.bool b) := by rw [h]
theorem put_defers (a : Act) (d : Option Tmp) (v : Value) : (a.put d v).defers = a.defers := by cases d <;> rfl
section
variable {P : Program} {ops : Array Oper} {rest : List Oper} {o : Oper} {a : Act} {w : World} {Q : Exit → Act → World → Prop}
theorem wl_id (h : wpList P ops Q (o :: rest) a w) : wpList P ops Q (o :: rest) a w := h
end
structure Kept (X : Nat → Prop) (w w' : World) : Prop where
  os : w'.os = w.os
  tape : w'.tape = w.tape
  output : w'.output = w.output
  size : w.heap.size ≤ w'.heap.size
  block : ∀ k, k < w.heap.size → X k → w'.heap[k]? = w.heap[k]?
section
variable {X Y : Nat → Prop} {w w' w'' : World}
theorem Kept.refl (X : Nat → Prop) (w : World) : Kept X w w := ⟨rfl, rfl, rfl, Nat.le_refl _, fun _ _ _ => rfl⟩
theorem Kept.trans (h : Kept X w w') (k : Kept X w' w'') : Kept X w w'' :=
  ⟨k.os.trans h.os, k.tape.trans h.tape, k.output.trans h.output, Nat.le_trans h.size k.size, fun i hi hx => (k.block i (Nat.lt_of_lt_of_le hi h.size) hx).trans (h.block i hi hx)⟩
theorem Kept.mono (h : Kept X w w') (hY : ∀ k, k < w.heap.size → Y k → X k) : Kept Y w w' := ⟨h.os, h.tape, h.output, h.size, fun i hi hy => h.block i hi (hY i hi hy)⟩
theorem Kept.below {B : Nat} (h : Below B w w') (hX : ∀ k, k < w.heap.size → X k → k < B) : Kept X w w' := ⟨h.os, h.tape, h.output, h.size, fun i hi hx => h.block i (hX i hi hx)⟩
theorem Kept.ofBelow (h : Below w.heap.size w w') : Kept X w w' := .below h fun _ hk _ => hk
theorem Kept.toBelow (h : Kept X w w') {B : Nat} (hB : B ≤ w.heap.size) (hX : ∀ k, k < B → X k) : Below B w w' := ⟨h.os, h.tape, h.output, h.size, fun i hi => h.block i (Nat.lt_of_lt_of_le hi hB) (hX i hi)⟩
theorem Kept.alloc (h : Kept X w w') (o : Obj) : Kept X w (w'.alloc o) := h.trans ⟨rfl, rfl, rfl, by simp, fun k hk _ => Below.heap_alloc w' o k hk⟩
theorem Kept.grown {r : Option Nat} (h : Kept X w w') (hg : w'.grownBy w'' r) (hr : ∀ g, r = some g → g < w.heap.size → ¬ X g) : Kept X w w'' :=
  ⟨hg.os.trans h.os, hg.tape.trans h.tape, hg.output.trans h.output, Nat.le_trans h.size hg.size, fun i hi hx => (hg.block i (Nat.lt_of_lt_of_le hi h.size) (fun e => hr i e.symm hi hx)).trans (h.block i hi hx)⟩
theorem Kept.drew (h : Kept X w w') (n : Nat) : Kept X w (w'.drewN n) := h.trans ⟨rfl, rfl, rfl, Nat.le_refl _, fun _ _ _ => rfl⟩
theorem Kept.at (h : Kept X w w') {k : Nat} {o : Obj} (hk : w.heap[k]? = some o) (hx : X k) : w'.heap[k]? = some o := (h.block k (lt_of_block hk) hx).trans hk
theorem Kept.cell (h : Kept X w w') {p : Addr} {c : Value} (hc : w.cell? p = some c) (hx : X p.block) : w'.cell? p = some c :=
  (World.cell?_of_block (h.block p.block (World.block_lt_of_cell? w p hc) hx)).trans hc
end
def RowI (w : World) (b o : Nat) (l : List Int) : Prop := ∀ i x, l[i]? = some x → w.cell? ⟨b, o + i, none⟩ = some (.int .i64 x)
theorem RowI.kept {X : Nat → Prop} {w w' : World} {b o : Nat} {l : List Int} (h : RowI w b o l) (hk : Kept X w w') (hx : X b) : RowI w' b o l := fun i x hi => hk.cell (h i x hi) hx
theorem RowI.ofOwns {w : World} {base T : Nat} {g c : Nat} {l : List Int} (h : w.ownsRow base T 1 (.slice (some ⟨g, 0, none⟩) l.length c) l.length (l.map (Value.int .i64))) : RowI w g 0 l := by
  intro i x hi
  have := h.cells (g := g) rfl i (.int .i64 x) (by simp [hi])
  rw [Nat.zero_add]
  rcases i with _ | i
  · simpa [Addr.add] using this
  · simpa [Addr.add] using this
def SlX (X : Nat → Prop) (w : World) (v : Value) (l : List Int) : Prop :=
  ∃ ao cap, v = .slice ao l.length cap ∧ l.length ≤ cap ∧ (ao = none → cap = 0) ∧ (l ≠ [] → ∃ b o, ao = some ⟨b, o, none⟩ ∧ X b ∧ b < w.heap.size ∧ RowI w b o l)
section
variable {X Y : Nat → Prop} {w w' : World} {v : Value} {l : List Int}
theorem SlX.kept (h : SlX X w v l) (hk : Kept X w w') : SlX X w' v l :=
  let ⟨ao, cap, h1, h2, h3, h4⟩ := h
  ⟨ao, cap, h1, h2, h3, fun hn => let ⟨b, o, e, hx, hb, hr⟩ := h4 hn; ⟨b, o, e, hx, Nat.lt_of_lt_of_le hb hk.size, hr.kept hk hx⟩⟩
theorem SlX.mono (h : SlX X w v l) (hY : ∀ k, k < w.heap.size → X k → Y k) : SlX Y w v l :=
  let ⟨ao, cap, h1, h2, h3, h4⟩ := h
  ⟨ao, cap, h1, h2, h3, fun hn => let ⟨b, o, e, hx, hb, hr⟩ := h4 hn; ⟨b, o, e, hY b hb hx, hb, hr⟩⟩
theorem SlX.nil (X : Nat → Prop) (w : World) : SlX X w (.slice none 0 0) [] := ⟨none, 0, rfl, Nat.le_refl _, fun _ => rfl, fun h => absurd rfl h⟩
theorem SlX.shape (h : SlX X w v l) : ∃ ao cap, v = .slice ao l.length cap := let ⟨ao, cap, e, _⟩ := h; ⟨ao, cap, e⟩
theorem SlX.row {ao : Option Addr} {n c : Nat} (h : SlX X w (.slice ao n c) l) (hp : 0 < l.length) : ∃ b o, ao = some ⟨b, o, none⟩ ∧ X b ∧ b < w.heap.size ∧ l.length ≤ c ∧ RowI w b o l := by
  obtain ⟨ao', cap, e, hc, _, h4⟩ := h
  injection e with e1 e2 e3
  subst e1; subst e3
  obtain ⟨b, o, e, hx, hb, hr⟩ := h4 (List.length_pos_iff.1 hp)
  exact ⟨b, o, e, hx, hb, hc, hr⟩
theorem SlX.ofOwns {base T : Nat} (h : w.ownsRow base T 1 v l.length (l.map (Value.int .i64))) (hX : ∀ g, base ≤ g → some g = v.ownBlock → X g) : SlX X w v l := by
  have h0 := h
  rcases h.2 with ⟨rfl, hn⟩ | ⟨g, cap, cur, rfl, hb, hh, hnc, _⟩
  · obtain rfl : l = [] := List.length_eq_zero_iff.1 hn
    exact .nil _ _
  · exact ⟨_, cap, rfl, hnc, by simp, fun _ => ⟨g, 0, rfl, hX g hb rfl, lt_of_block hh, RowI.ofOwns h0⟩⟩
end
structure KeyE (P : Program) (k : TypeId) {κ : Type} (enc : κ → Value) (ok : κ → Prop) : Prop where
  law : Maps.Keyed P k
  key : ∀ x, ok x → ∃ l, keyOf P k (enc x) = some l
  inj : ∀ x y, enc x = enc y → x = y
section
variable {κ : Type} {enc : κ → Value} {ok : κ → Prop}
def getM [DecidableEq κ] (m : List (κ × Value)) (x : κ) : Option Value := (m.find? fun p => decide (p.1 = x)).map (·.2)
def putM [DecidableEq κ] (m : List (κ × Value)) (x : κ) (v : Value) : List (κ × Value) := if x ∈ m.map (·.1) then m.map (fun p => if p.1 = x then (x, v) else p) else m ++ [(x, v)]
def MapV (enc : κ → Value) (ok : κ → Prop) (w : World) (b : Nat) (m : List (κ × Value)) : Prop :=
  ∃ (es : Array MapEntry) (clock : Nat), w.heap[b]? = some (.map es clock) ∧ es.toList.map (fun e => (e.key, e.val)) = m.map (fun p => (enc p.1, p.2)) ∧ (m.map (·.1)).Nodup ∧ (∀ p ∈ m, ok p.1) ∧
    (es.toList.map (·.born)).Pairwise (· < ·) ∧ ∀ e ∈ es.toList, e.born < clock
theorem MapV.lt {w : World} {b : Nat} {m : List (κ × Value)} (h : MapV enc ok w b m) : b < w.heap.size := by
  obtain ⟨es, clock, hb, _⟩ := h
  exact (Array.getElem?_eq_some_iff.1 hb).1
theorem MapV.kept {X : Nat → Prop} {w w' : World} {b : Nat} {m : List (κ × Value)} (h : MapV enc ok w b m) (hk : Kept X w w') (hx : X b) : MapV enc ok w' b m := by
  have hl := h.lt
  obtain ⟨es, clock, hb, r⟩ := h
  exact ⟨es, clock, (hk.block b hl hx).trans hb, r⟩
theorem MapV.same {w w' : World} {b : Nat} {m : List (κ × Value)} (h : MapV enc ok w b m) (hk : w'.heap[b]? = w.heap[b]?) : MapV enc ok w' b m := by
  obtain ⟨es, clock, hb, r⟩ := h
  exact ⟨es, clock, hk.trans hb, r⟩
theorem MapV.made (w : World) : MapV enc ok (w.alloc (.map #[] 0)) w.heap.size [] := ⟨#[], 0, (MapKept.heap_alloc w _).1, by simp, by simp, by simp, by simp, by simp⟩
theorem keys_nth {es : List MapEntry} {m : List (κ × Value)} (h : es.map (fun e => (e.key, e.val)) = m.map (fun p => (enc p.1, p.2))) {j : Nat} {e : MapEntry} (hj : es[j]? = some e) : ∃ p, m[j]? = some p ∧ e.key = enc p.1 ∧ e.val = p.2 := by
  have h1 : (es.map (fun e => (e.key, e.val)))[j]? = some (e.key, e.val) := by rw [List.getElem?_map, hj]; rfl
  rw [h, List.getElem?_map] at h1
  rcases hm : m[j]? with _ | p
  · rw [hm] at h1; simp at h1
  · rw [hm] at h1
    simp only [Option.map_some, Option.some.injEq, Prod.mk.injEq] at h1
    exact ⟨p, rfl, h1.1.symm, h1.2.symm⟩
theorem getM_nth [DecidableEq κ] {m : List (κ × Value)} (hn : (m.map (·.1)).Nodup) {j : Nat} {p : κ × Value} (hj : m[j]? = some p) : getM m p.1 = some p.2 := by
  unfold getM
  induction m generalizing j with
  | nil => simp at hj
  | cons q m ih =>
    rw [List.find?_cons]
    by_cases e : q.1 = p.1
    · rw [decide_eq_true e]
      rcases j with _ | j
      · simp only [List.getElem?_cons_zero, Option.some.injEq] at hj; rw [hj]; rfl
      · exfalso
        simp only [List.getElem?_cons_succ] at hj
        rw [List.map_cons, List.nodup_cons] at hn
        exact hn.1 (List.mem_map.2 ⟨p, List.mem_of_getElem? hj, e.symm⟩)
    · rw [decide_eq_false e]
      rcases j with _ | j
      · simp only [List.getElem?_cons_zero, Option.some.injEq] at hj; rw [hj] at e; exact absurd rfl e
      · rw [List.map_cons, List.nodup_cons] at hn
        exact ih hn.2 (by simpa using hj)
theorem getM_none [DecidableEq κ] {m : List (κ × Value)} {x : κ} (h : ∀ p ∈ m, p.1 ≠ x) : getM m x = none := by
  unfold getM
  rw [List.find?_eq_none.2 (fun p hp => by simpa using h p hp)]
  rfl
theorem MapV.find [DecidableEq κ] {P : Program} {k : TypeId} (K : KeyE P k enc ok) {es : Array MapEntry} {m : List (κ × Value)} (he : es.toList.map (fun e => (e.key, e.val)) = m.map (fun p => (enc p.1, p.2))) (hn : (m.map (·.1)).Nodup) (ho : ∀ p ∈ m, ok p.1) {x : κ} (hx : ok x) (w : World) :
    ((Instr.findKey k (enc x) es.toList).run P w = .ok none w ∧ getM m x = none ∧ x ∉ m.map (·.1)) ∨
    ∃ j v, (Instr.findKey k (enc x) es.toList).run P w = .ok (some (j, v)) w ∧ getM m x = some v ∧ m[j]? = some (x, v) := by
  obtain ⟨lx, hlx⟩ := K.key x hx
  have hks : ∀ e ∈ es.toList, ∃ l, keyOf P k e.key = some l := by
    intro e hm
    obtain ⟨j, hj⟩ := List.mem_iff_getElem?.1 hm
    obtain ⟨p, hp, h1, _⟩ := keys_nth he hj
    rw [h1]
    exact K.key _ (ho p (List.mem_of_getElem? hp))
  rcases K.law.find w hlx es.toList hks with ⟨h1, h2⟩ | ⟨j, e, h1, h2, h3⟩
  · have h4 : ∀ p ∈ m, p.1 ≠ x := by
      intro p hp e
      obtain ⟨j, hj⟩ := List.mem_iff_getElem?.1 hp
      have h5 : (m.map (fun p => (enc p.1, p.2)))[j]? = some (enc p.1, p.2) := by rw [List.getElem?_map, hj]; rfl
      rw [← he, List.getElem?_map] at h5
      rcases hm : es.toList[j]? with _ | e0
      · rw [hm] at h5; simp at h5
      · rw [hm] at h5
        simp only [Option.map_some, Option.some.injEq, Prod.mk.injEq] at h5
        exact h2 e0 (List.mem_of_getElem? hm) (by rw [h5.1, e])
    refine .inl ⟨h1, getM_none h4, fun hc => ?_⟩
    obtain ⟨p, hp, e⟩ := List.mem_map.1 hc
    exact h4 p hp e
  · obtain ⟨p, hp, h4, h5⟩ := keys_nth he h2
    have e : p.1 = x := K.inj _ _ (by rw [← h4, h3])
    have hg := getM_nth hn hp
    obtain ⟨px, pv⟩ := p
    dsimp only at e hg h5
    subst e
    exact .inr ⟨j, pv, by rw [h1, h5], hg, hp⟩
end
end Go.Proofs.YtmaogkgjiplckaaGreat
namespace Go.Proofs.YtmaogkgjiplckaaGreat
open Go.RowKit
section
variable {P : Program} {κ : Type} [DecidableEq κ] {enc : κ → Value} {ok : κ → Prop} {k e t : TypeId}
open Go.ChangeMaps (setBlock heap_setBlock_same heap_setBlock_other)
open Go.ChangeShapes Go.WideShapes
theorem MapV.lookup {w : World} {b : Nat} {m : List (κ × Value)} (h : MapV enc ok w b m) (K : KeyE P k enc ok) (ht : P.underlying t = some (.map k e)) {z : Value} (hz : (zeroValue e).run P w = .ok z w) {x : κ} (hx : ok x) (c : Bool) :
    (Instr.lookup t (.map (some b)) (enc x) c).run P w = .ok (if c then .tuple #[(getM m x).getD z, .bool (getM m x).isSome] else (getM m x).getD z) w := by
  obtain ⟨es, clock, hb, he, hn, ho, _⟩ := h
  obtain ⟨lx, hlx⟩ := K.key x hx
  rcases MapV.find K he hn ho hx w with ⟨h1, h2, _⟩ | ⟨j, v, h1, h2, _⟩
  · rw [h2]
    simp [Instr.lookup, run_underlying ht, MapKept.run_getObj_map hb, K.law.check w _ hlx, h1, hz, Result.andThen]
  · rw [h2]
    simp [Instr.lookup, run_underlying ht, MapKept.run_getObj_map hb, K.law.check w _ hlx, h1, Result.andThen]
theorem nodup_idx {α : Type} {l : List α} (h : l.Nodup) {i j : Nat} {x : α} (hi : l[i]? = some x) (hj : l[j]? = some x) : i = j := by
  obtain ⟨hi', ei⟩ := List.getElem?_eq_some_iff.1 hi
  obtain ⟨hj', ej⟩ := List.getElem?_eq_some_iff.1 hj
  have hp := List.pairwise_iff_getElem.1 h
  rcases Nat.lt_trichotomy i j with hlt | rfl | hlt
  · exact absurd (ei.trans ej.symm) (hp i j hi' hj' hlt)
  · rfl
  · exact absurd (ej.trans ei.symm) (hp j i hj' hi' hlt)
theorem mod_ne {α : Type} (l : List α) (f : α → α) {j i : Nat} (h : j ≠ i) : (l.modify j f)[i]? = l[i]? := by rw [List.getElem?_modify]; simp [h]
theorem mod_eq {α : Type} (l : List α) (f : α → α) (j : Nat) : (l.modify j f)[j]? = (l[j]?).map f := by rw [List.getElem?_modify]; simp
theorem MapV.update {w : World} {b : Nat} {m : List (κ × Value)} (h : MapV enc ok w b m) (K : KeyE P k enc ok) (ht : P.underlying t = some (.map k e)) {x : κ} (hx : ok x) (v : Value) :
    ∃ w', (Instr.mapUpdate t (.map (some b)) (enc x) v).run P w = .ok () w' ∧ MapV enc ok w' b (putM m x v) ∧ w.grownBy w' (some b) := by
  obtain ⟨es, clock, hb, he, hn, ho, hp, hc⟩ := h
  obtain ⟨lx, hlx⟩ := K.key x hx
  have hg : ∀ o, w.grownBy (setBlock w b o) (some b) := fun o => ⟨rfl, rfl, rfl, by simp [setBlock], fun i _ hi => heap_setBlock_other hb _ (fun e => hi (by rw [e]))⟩
  rcases MapV.find K he hn ho hx w with ⟨h1, h2, h3⟩ | ⟨j, v0, h1, h2, h3⟩
  · refine ⟨setBlock w b (.map (es.push { key := enc x, val := v, born := clock }) (clock + 1)), ?_, ⟨_, _, heap_setBlock_same hb _, ?_, ?_, ?_, ?_, ?_⟩, hg _⟩
    · simp [Instr.mapUpdate, run_underlying ht, MapKept.run_getObj_map hb, K.law.check w _ hlx, h1, MapKept.run_setObj_map _ hb, Result.andThen, setBlock]
    · unfold putM; rw [if_neg h3]; simp [he]
    · unfold putM; rw [if_neg h3]
      rw [List.map_append]
      refine List.nodup_append.2 ⟨hn, by simp, fun a ha c hc => ?_⟩
      simp at hc
      subst hc
      exact fun e => h3 (e ▸ ha)
    · unfold putM; rw [if_neg h3]
      intro p hp
      rcases List.mem_append.1 hp with hp | hp
      · exact ho p hp
      · simp at hp; subst hp; exact hx
    · rw [Array.toList_push, List.map_append]
      refine List.pairwise_append.2 ⟨hp, by simp, fun a ha c hc' => ?_⟩
      simp at hc'
      subst hc'
      obtain ⟨e0, he0, rfl⟩ := List.mem_map.1 ha
      exact hc e0 he0
    · intro e0 he0
      rw [Array.toList_push] at he0
      rcases List.mem_append.1 he0 with he0 | he0
      · have := hc e0 he0; omega
      · simp at he0; subst he0; simp
  · have hmem : x ∈ m.map (·.1) := List.mem_map.2 ⟨_, List.mem_of_getElem? h3, rfl⟩
    have hj : ∃ e0, es.toList[j]? = some e0 ∧ e0.key = enc x := by
      have h5 : (m.map (fun p => (enc p.1, p.2)))[j]? = some (enc x, v0) := by rw [List.getElem?_map, h3]; rfl
      rw [← he, List.getElem?_map] at h5
      rcases hm : es.toList[j]? with _ | e0
      · rw [hm] at h5; simp at h5
      · rw [hm] at h5
        simp only [Option.map_some, Option.some.injEq, Prod.mk.injEq] at h5
        exact ⟨e0, rfl, h5.1⟩
    obtain ⟨e0, hj, hk0⟩ := hj
    have hj' : es[j]? = some e0 := by simpa using hj
    have hl : j < es.size := (Array.getElem?_eq_some_iff.1 hj').1
    have hset : (es.modify j fun e => { e with key := enc x, val := v }).toList = es.toList.modify j fun e => { e with key := enc x, val := v } := by simp
    refine ⟨setBlock w b (.map (es.modify j fun e => { e with key := enc x, val := v }) clock), ?_, ⟨_, _, heap_setBlock_same hb _, ?_, ?_, ?_, ?_, ?_⟩, hg _⟩
    · simp [Instr.mapUpdate, run_underlying ht, MapKept.run_getObj_map hb, K.law.check w _ hlx, h1, hj', hk0, K.law.stays w hlx, MapKept.run_setObj_map _ hb, Result.andThen, setBlock]
    · unfold putM; rw [if_pos hmem, hset]
      apply List.ext_getElem?
      intro i
      have hi := congrArg (fun l => l[i]?) he
      simp only [List.getElem?_map] at hi
      rw [List.getElem?_map, List.getElem?_map, List.getElem?_map]
      by_cases e : j = i
      · subst e
        rw [mod_eq, hj, h3]
        simp
      · rw [mod_ne _ _ e, hi]
        rcases hm : m[i]? with _ | p
        · rfl
        · simp only [Option.map_some]
          have hne : p.1 ≠ x := by
            intro e2
            have h6 : (m.map (·.1))[i]? = some x := by rw [List.getElem?_map, hm]; simp [e2]
            have h7 : (m.map (·.1))[j]? = some x := by rw [List.getElem?_map, h3]; rfl
            exact e (nodup_idx hn h7 h6)
          rw [if_neg hne]
    · unfold putM; rw [if_pos hmem]
      have : (m.map fun p => if p.1 = x then (x, v) else p).map (·.1) = m.map (·.1) := by
        rw [List.map_map]
        refine List.map_congr_left fun p _ => ?_
        show (if p.1 = x then (x, v) else p).1 = p.1
        split
        · rename_i e; exact e.symm
        · rfl
      rw [this]; exact hn
    · unfold putM; rw [if_pos hmem]
      intro p hp
      obtain ⟨q, hq, rfl⟩ := List.mem_map.1 hp
      split
      · exact hx
      · exact ho q hq
    · have : (es.modify j fun e => { e with key := enc x, val := v }).toList.map (·.born) = es.toList.map (·.born) := by
        rw [hset]
        apply List.ext_getElem?
        intro i
        rw [List.getElem?_map, List.getElem?_map]
        by_cases e : j = i
        · subst e; rw [mod_eq, hj]; simp
        · rw [mod_ne _ _ e]
      rw [this]; exact hp
    · intro e1 he1
      rw [hset] at he1
      obtain ⟨i, hi⟩ := List.mem_iff_getElem?.1 he1
      by_cases e : j = i
      · subst e; rw [mod_eq, hj] at hi; simp at hi; subst hi; exact hc e0 (List.mem_of_getElem? hj)
      · rw [mod_ne _ _ e] at hi
        exact hc e1 (List.mem_of_getElem? hi)
end
end Go.Proofs.YtmaogkgjiplckaaGreat
namespace Go.Proofs.YtmaogkgjiplckaaGreat
open Go.RowKit
section
variable {P : Program} {κ : Type} {enc : κ → Value} {ok : κ → Prop} {k e t : TypeId}
open Go.ChangeMaps (setBlock heap_setBlock_same heap_setBlock_other)
open Go.ChangeShapes Go.WideShapes
theorem MapV.len {w : World} {b : Nat} {m : List (κ × Value)} (h : MapV enc ok w b m) (ht : P.underlying t = some (.map k e)) (ty : TypeId) : (Builtin.len_ #[t] ty #[.map (some b)]).run P w = .ok (.int .i64 m.length) w := by
  obtain ⟨es, clock, hb, he, _⟩ := h
  have : es.size = m.length := by have := congrArg List.length he; simpa using this
  rw [← this]
  simp [Builtin.len_, run_underlying ht, MapKept.run_getObj_map hb, goInt, Result.andThen]
theorem map_erIdx {α β : Type} (f : α → β) : ∀ (l : List α) (j : Nat), (l.eraseIdx j).map f = (l.map f).eraseIdx j := by
  intro l
  induction l with
  | nil => intro j; rfl
  | cons x l ih => intro j; cases j with
    | zero => rfl
    | succ j => simp [ih]
def remM [DecidableEq κ] (m : List (κ × Value)) (x : κ) : List (κ × Value) := m.filter fun p => decide (p.1 ≠ x)
theorem eraseIdx_rem [DecidableEq κ] {m : List (κ × Value)} (hn : (m.map (·.1)).Nodup) {x : κ} {v : Value} : ∀ {j : Nat}, m[j]? = some (x, v) → m.eraseIdx j = remM m x := by
  induction m with
  | nil => intro j hj; simp at hj
  | cons q m ih =>
    intro j hj
    rw [List.map_cons, List.nodup_cons] at hn
    rcases j with _ | j
    · simp only [List.getElem?_cons_zero, Option.some.injEq] at hj
      subst hj
      unfold remM
      rw [List.eraseIdx_cons_zero, List.filter_cons, if_neg (by simp), List.filter_eq_self.2]
      intro p hp
      simp only [ne_eq, decide_not, Bool.not_eq_eq_eq_not, Bool.not_true, decide_eq_false_iff_not]
      exact fun e => hn.1 (List.mem_map.2 ⟨p, hp, e⟩)
    · simp only [List.getElem?_cons_succ] at hj
      unfold remM
      have hne : q.1 ≠ x := fun e => hn.1 (List.mem_map.2 ⟨_, List.mem_of_getElem? hj, e.symm⟩)
      rw [List.eraseIdx_cons_succ, List.filter_cons, if_pos (by simpa using hne), ih hn.2 hj]
      rfl
theorem MapV.delete [DecidableEq κ] {w : World} {b : Nat} {m : List (κ × Value)} (h : MapV enc ok w b m) (K : KeyE P k enc ok) (ht : P.underlying t = some (.map k e)) {x : κ} (hx : ok x) (ty : TypeId) :
    ∃ w', (Builtin.delete_ #[t, k] ty #[.map (some b), enc x]).run P w = .ok (.tuple #[]) w' ∧ MapV enc ok w' b (remM m x) ∧ w.grownBy w' (some b) := by
  obtain ⟨es, clock, hb, he, hn, ho, hp, hc⟩ := h
  obtain ⟨lx, hlx⟩ := K.key x hx
  have hg : ∀ o, w.grownBy (setBlock w b o) (some b) := fun o => ⟨rfl, rfl, rfl, by simp [setBlock], fun i _ hi => heap_setBlock_other hb _ (fun e => hi (by rw [e]))⟩
  rcases MapV.find K he hn ho hx w with ⟨h1, h2, h3⟩ | ⟨j, v0, h1, h2, h3⟩
  · have hself : remM m x = m := by
      unfold remM
      rw [List.filter_eq_self]
      intro p hp
      simpa using fun e => h3 (List.mem_map.2 ⟨p, hp, e⟩)
    refine ⟨setBlock w b (.map es clock), ?_, ⟨_, _, heap_setBlock_same hb _, ?_⟩, hg _⟩
    · simp [Builtin.delete_, run_underlying ht, MapKept.run_getObj_map hb, K.law.check w _ hlx, h1, MapKept.run_setObj_map _ hb, Result.andThen, setBlock]
    · rw [hself]; exact ⟨he, hn, ho, hp, hc⟩
  · have hl : j < es.size := by
      have h5 := congrArg List.length he
      have h6 := (List.getElem?_eq_some_iff.1 h3).1
      simp at h5; omega
    have hto : (es.eraseIdxIfInBounds j).toList = es.toList.eraseIdx j := by simp [Array.eraseIdxIfInBounds, hl]
    refine ⟨setBlock w b (.map (es.eraseIdxIfInBounds j) clock), ?_, ⟨_, _, heap_setBlock_same hb _, ?_, ?_, ?_, ?_, ?_⟩, hg _⟩
    · simp [Builtin.delete_, run_underlying ht, MapKept.run_getObj_map hb, K.law.check w _ hlx, h1, MapKept.run_setObj_map _ hb, Result.andThen, setBlock]
    · rw [hto, ← eraseIdx_rem hn h3, map_erIdx, map_erIdx, he]
    · rw [← eraseIdx_rem hn h3, map_erIdx]
      exact hn.sublist (List.eraseIdx_sublist _ _)
    · intro p hp
      exact ho p (List.mem_filter.1 hp).1
    · rw [hto, map_erIdx]
      exact hp.sublist (List.eraseIdx_sublist _ _)
    · intro e0 he0
      rw [hto] at he0
      exact hc e0 ((List.eraseIdx_sublist _ _).subset he0)
end
section
variable {P : Program} {κ : Type} [DecidableEq κ] {enc : κ → Value} {ok : κ → Prop} {k e t : TypeId} {ops : Array Oper} {rest : List Oper} {o : Oper} {a : Act} {w : World} {Q : Exit → Act → World → Prop}
theorem wl_lookup (hgd : o.guard = none) (m x : Operand) (t : TypeId) (c : Bool) (hop : o.op = Op.lookup t m x c) (k e : TypeId) (K : KeyE P k enc ok) (ht : P.underlying t = some (.map k e)) (z : Value) (hz : (zeroValue e).run P w = .ok z w)
    (b : Nat) (M : List (κ × Value)) (hm : a.eval m = .map (some b)) (hM : MapV enc ok w b M) (y : κ) (hx : a.eval x = enc y) (hy : ok y)
    (h : wpList P ops Q rest (a.put o.dst (if c then .tuple #[(getM M y).getD z, .bool (getM M y).isSome] else (getM M y).getD z)) w) : wpList P ops Q (o :: rest) a w :=
  wpList_plain hgd fun _ hK => by
    unfold Oper.wp
    simp only [execOp, hop, hm, hx, Sem.run_bind, hM.lookup K ht hz hy c, Result.andThen_ok]
    exact hK _ _ h
theorem wl_mapUpdate (hgd : o.guard = none) (m x v : Operand) (t : TypeId) (hop : o.op = Op.mapUpdate t m x v) (k e : TypeId) (K : KeyE P k enc ok) (ht : P.underlying t = some (.map k e))
    (b : Nat) (M : List (κ × Value)) (hm : a.eval m = .map (some b)) (hM : MapV enc ok w b M) (y : κ) (hx : a.eval x = enc y) (hy : ok y) (u : Value) (hv : a.eval v = u)
    (h : ∀ w', MapV enc ok w' b (putM M y u) → w.grownBy w' (some b) → wpList P ops Q rest (a.put o.dst undef) w') : wpList P ops Q (o :: rest) a w :=
  wpList_plain hgd fun _ hK => by
    obtain ⟨w', hr, h1, h2⟩ := hM.update K ht hy u
    unfold Oper.wp
    simp only [execOp, hop, hm, hx, hv, Sem.run_bind, hr, Result.andThen_ok]
    exact hK _ _ (h w' h1 h2)
theorem wl_delete (hgd : o.guard = none) (m x : Operand) (t k : TypeId) (hop : o.op = Op.call { callee := Callee.builtin Builtin.delete, args := #[m, x], argTypes := #[t, k] }) (e : TypeId) (K : KeyE P k enc ok) (ht : P.underlying t = some (.map k e))
    (b : Nat) (M : List (κ × Value)) (hm : a.eval m = .map (some b)) (hM : MapV enc ok w b M) (y : κ) (hx : a.eval x = enc y) (hy : ok y)
    (h : ∀ w', MapV enc ok w' b (remM M y) → w.grownBy w' (some b) → wpList P ops Q rest (a.put o.dst (.tuple #[])) w') : wpList P ops Q (o :: rest) a w :=
  wpList_plain hgd fun _ hK => by
    obtain ⟨w', hr, h1, h2⟩ := hM.delete K ht hy o.type
    unfold Oper.wp
    simp [execOp, hop, resolve, invoke, builtin, hm, hx, hr, Result.andThen]
    exact hK _ _ (h w' h1 h2)
theorem wl_len {κ : Type} {enc : κ → Value} {ok : κ → Prop} (hgd : o.guard = none) (m : Operand) (t : TypeId) (hop : o.op = Op.call { callee := Callee.builtin Builtin.len, args := #[m], argTypes := #[t] }) (k e : TypeId) (ht : P.underlying t = some (.map k e))
    (b : Nat) (M : List (κ × Value)) (hm : a.eval m = .map (some b)) (hM : MapV enc ok w b M)
    (h : wpList P ops Q rest (a.put o.dst (.int .i64 M.length)) w) : wpList P ops Q (o :: rest) a w :=
  wpList_plain hgd fun _ hK => by
    unfold Oper.wp
    simp [execOp, hop, resolve, invoke, builtin, hm, hM.len ht o.type, Result.andThen]
    exact hK _ _ h
end
end Go.Proofs.YtmaogkgjiplckaaGreat
namespace Go.Proofs.YtmaogkgjiplckaaGreat
open Go.RowKit
section
variable {P : Program} {κ : Type} {enc : κ → Value} {ok : κ → Prop} {k e t : TypeId}
open Go.ChangeMaps (setBlock)
def IterV (enc : κ → Value) (ok : κ → Prop) (w : World) (r b : Nat) (m : List (κ × Value)) (L : List κ) : Prop :=
  ∃ (es : Array MapEntry) (clock : Nat) (since : Nat) (seen : Array Nat) (c0 : Nat), w.heap[b]? = some (.map es clock) ∧ es.toList.map (fun e => (e.key, e.val)) = m.map (fun p => (enc p.1, p.2)) ∧ (m.map (·.1)).Nodup ∧ (∀ p ∈ m, ok p.1) ∧
    (es.toList.map (·.born)).Pairwise (· < ·) ∧ (∀ e ∈ es.toList, e.born < clock) ∧ w.heap[r]? = some (.mapIter (some b) since seen c0) ∧ since ≤ c0 ∧ since ≤ clock ∧ (∀ e ∈ es.toList, e.born < since) ∧ (leftOf es seen).toList.map (·.key) = L.map enc
theorem IterV.map {w : World} {r b : Nat} {m : List (κ × Value)} {L : List κ} (h : IterV enc ok w r b m L) : MapV enc ok w b m := by
  obtain ⟨es, clock, since, seen, c0, h1, h2, h3, h4, h5, h6, _⟩ := h
  exact ⟨es, clock, h1, h2, h3, h4, h5, h6⟩
theorem IterV.same {w w' : World} {r b : Nat} {m : List (κ × Value)} {L : List κ} (h : IterV enc ok w r b m L) (hb : w'.heap[b]? = w.heap[b]?) (hr : w'.heap[r]? = w.heap[r]?) : IterV enc ok w' r b m L := by
  obtain ⟨es, clock, since, seen, c0, h1, h2, h3, h4, h5, h6, h7, h8⟩ := h
  exact ⟨es, clock, since, seen, c0, hb.trans h1, h2, h3, h4, h5, h6, hr.trans h7, h8⟩
theorem IterV.lt {w : World} {r b : Nat} {m : List (κ × Value)} {L : List κ} (h : IterV enc ok w r b m L) : r < w.heap.size ∧ b < w.heap.size := by
  obtain ⟨es, clock, since, seen, c0, h1, h2, h3, h4, h5, h6, h7, _⟩ := h
  exact ⟨(Array.getElem?_eq_some_iff.1 h7).1, (Array.getElem?_eq_some_iff.1 h1).1⟩
theorem MapV.range {w : World} {b : Nat} {m : List (κ × Value)} (h : MapV enc ok w b m) (ht : P.underlying t = some (.map k e)) :
    ∃ w', (Instr.range t (.map (some b))).run P w = .ok (.pointer (some ⟨w.heap.size, 0, none⟩)) w' ∧ IterV enc ok w' w.heap.size b m (m.map (·.1)) ∧ Below w.heap.size w w' := by
  have hl := h.lt
  obtain ⟨es, clock, hb, he, hn, ho, hp, hc⟩ := h
  refine ⟨w.alloc (.mapIter (some b) clock #[] clock), ?_, ⟨es, clock, clock, #[], clock, ?_, he, hn, ho, hp, hc, heap_alloc_new w _, Nat.le_refl _, Nat.le_refl _, hc, ?_⟩, Below.alloc (Below.refl _ _) (Nat.le_refl _) _⟩
  · exact run_range_map w t k e b es clock ht hb
  · rw [Below.heap_alloc w _ _ hl]; exact hb
  · have hf : leftOf es #[] = es := by unfold leftOf; simp
    rw [hf]
    have := congrArg (List.map Prod.fst) he
    simpa [List.map_map, Function.comp_def] using this
theorem IterV.next [DecidableEq κ] {w : World} {r b : Nat} {m : List (κ × Value)} {L : List κ} (h : IterV enc ok w r b m L) (hinj : ∀ x y, enc x = enc y → x = y) (ty : TypeId) :
    (L = [] ∧ (Instr.next (.pointer (some ⟨r, 0, none⟩)) false ty).run P w = .ok (.tuple #[.bool false]) w) ∨
    ∃ x v w', x ∈ L ∧ (x, v) ∈ m ∧ (Instr.next (.pointer (some ⟨r, 0, none⟩)) false ty).run P w = .ok (.tuple #[.bool true, enc x, v]) w' ∧ IterV enc ok w' r b m (L.filter fun y => decide (y ≠ x)) ∧ w.grownBy w' (some r) ∧
      (Instr.entry (.pointer (some ⟨r, 0, none⟩))).run P w' = .ok (.tuple #[enc x, v]) w' := by
  obtain ⟨es, clock, since, seen, c0, hb, he, hn, ho, hp, hc, hr, hsc, hsk, hold, hL⟩ := h
  have hbr : b ≠ r := by rintro rfl; rw [hr] at hb; simp at hb
  rcases run_next_at (P := P) w ty r b since c0 seen es clock hr hb hold hsc with ⟨h1, h2⟩ | ⟨e0, h1, w1, hw1, h2⟩
  · refine .inl ⟨?_, h2⟩
    have : (leftOf es seen).toList = [] := by rw [← Array.length_toList] at h1; exact List.length_eq_zero_iff.1 h1
    rw [this] at hL
    exact List.map_eq_nil_iff.1 hL.symm
  · right
    have hr1 : w1.heap[r]? = some (.mapIter (some b) since seen c0) := by rcases hw1 with rfl | rfl <;> exact hr
    have hb1 : w1.heap[b]? = some (.map es clock) := by rcases hw1 with rfl | rfl <;> exact hb
    have hset : ∀ (o : Obj) (i : Nat), i ≠ r → (setBlock w1 r o).heap[i]? = w1.heap[i]? := by
      intro o i hi
      simp only [setBlock, Array.getElem?_setIfInBounds]
      rw [if_neg (fun e => hi e.symm)]
    have hself : ∀ o : Obj, (setBlock w1 r o).heap[r]? = some o := by
      intro o
      simp only [setBlock, Array.getElem?_setIfInBounds, if_true]
      rw [if_pos (Array.getElem?_eq_some_iff.1 hr1).1]
    have hme : e0 ∈ es.toList := by
      unfold leftOf at h1
      simp at h1 ⊢
      exact h1.1
    obtain ⟨j, hj⟩ := List.mem_iff_getElem?.1 hme
    obtain ⟨p, hp1, hp2, hp3⟩ := keys_nth he hj
    have hbn : (es.toList.map (·.born)).Nodup := hp.imp (fun h => Nat.ne_of_lt h)
    have hkey : enc p.1 ∈ L.map enc := by
      rw [← hL, ← hp2]
      exact List.mem_map.2 ⟨e0, h1, rfl⟩
    obtain ⟨x, hx, hxe⟩ := List.mem_map.1 hkey
    have hxp : x = p.1 := hinj _ _ hxe
    have hent := run_entry_at (P := P) (setBlock w1 r (.mapIter (some b) since (seen.push e0.born) clock)) r b since seen es clock e0 (hself _) (by rw [hset _ _ hbr]; exact hb1) hme hbn
    rw [hp2, hp3] at h2 hent
    refine ⟨p.1, p.2, setBlock w1 r (.mapIter (some b) since (seen.push e0.born) clock), hxp ▸ hx, List.mem_of_getElem? hp1, h2, ⟨es, clock, since, seen.push e0.born, clock, ?_, he, hn, ho, hp, hc, hself _, hsk, hsk, hold, ?_⟩, ?_, hent⟩
    · rw [hset _ _ hbr]; exact hb1
    · classical
      have hl1 : (leftOf es (seen.push e0.born)).toList = (leftOf es seen).toList.filter fun e => decide (e.key ≠ e0.key) := by
        unfold leftOf
        rw [Array.toList_filter, Array.toList_filter, List.filter_filter]
        refine List.filter_congr fun e1 he1 => ?_
        obtain ⟨i, hi⟩ := List.mem_iff_getElem?.1 he1
        have hb2 : e1.born = e0.born ↔ e1.key = e0.key := by
          constructor
          · intro hbb
            have : i = j := nodup_idx hbn (x := e0.born) (by rw [List.getElem?_map, hi]; simp [hbb]) (by rw [List.getElem?_map, hj]; rfl)
            subst this
            rw [hj] at hi
            cases hi; rfl
          · intro hkk
            obtain ⟨p1, hq1, hq2, _⟩ := keys_nth he hi
            have hpp : p1.1 = p.1 := hinj _ _ (by rw [← hq2, ← hp2, hkk])
            have : i = j := nodup_idx hn (x := p.1) (by rw [List.getElem?_map, hq1]; simp [hpp]) (by rw [List.getElem?_map, hp1]; rfl)
            subst this
            rw [hj] at hi
            cases hi; rfl
        simp only [Array.contains_push, Bool.not_or, decide_not, ne_eq]
        rw [Bool.and_comm]
        congr 1
        rw [Bool.eq_iff_iff]
        simp only [Bool.not_eq_true', beq_eq_false_iff_ne, ne_eq, decide_eq_false_iff_not, not_congr hb2]
      rw [hl1]
      have hf : ∀ l : List MapEntry, (l.filter fun e => decide (e.key ≠ e0.key)).map (·.key) = (l.map (·.key)).filter fun v => decide (v ≠ e0.key) := by
        intro l
        rw [List.filter_map]; rfl
      rw [hf, hL, hp2, List.filter_map]
      congr 1
      refine List.filter_congr fun y _ => ?_
      show decide (enc y ≠ enc p.1) = decide (y ≠ p.1)
      by_cases e : y = p.1
      · simp [e]
      · rw [decide_eq_true e]; exact decide_eq_true fun h => e (hinj _ _ h)
    · rcases hw1 with rfl | rfl
      · exact ⟨rfl, rfl, rfl, by simp [setBlock], fun i _ hi => hset _ _ (fun e => hi (by rw [e]))⟩
      · exact ⟨rfl, rfl, rfl, by show _ ≤ (w.heap.setIfInBounds _ _).size; simp, fun i _ hi => hset _ _ (fun e => hi (by rw [e]))⟩
end
section
variable {P : Program} {κ : Type} {enc : κ → Value} {ok : κ → Prop} {k e t : TypeId} {ops : Array Oper} {rest : List Oper} {o : Oper} {a : Act} {w : World} {Q : Exit → Act → World → Prop}
theorem wl_range (hgd : o.guard = none) (m : Operand) (t : TypeId) (hop : o.op = Op.range t m) (k e : TypeId) (ht : P.underlying t = some (.map k e)) (b : Nat) (M : List (κ × Value)) (hm : a.eval m = .map (some b)) (hM : MapV enc ok w b M)
    (h : ∀ w', IterV enc ok w' w.heap.size b M (M.map (·.1)) → Below w.heap.size w w' → wpList P ops Q rest (a.put o.dst (.pointer (some ⟨w.heap.size, 0, none⟩))) w') : wpList P ops Q (o :: rest) a w :=
  wpList_plain hgd fun _ hK => by
    obtain ⟨w', hr, h1, h2⟩ := hM.range ht
    unfold Oper.wp
    simp only [execOp, hop, hm, Sem.run_bind, hr, Result.andThen_ok]
    exact hK _ _ (h w' h1 h2)
theorem wl_next [DecidableEq κ] (hgd : o.guard = none) (it : Operand) (hop : o.op = Op.next it false) (hinj : ∀ x y, enc x = enc y → x = y) (r b : Nat) (M : List (κ × Value)) (L : List κ) (hi : a.eval it = .pointer (some ⟨r, 0, none⟩)) (hI : IterV enc ok w r b M L)
    (h0 : L = [] → wpList P ops Q rest (a.put o.dst (.tuple #[.bool false])) w)
    (h1 : ∀ x v w', x ∈ L → (x, v) ∈ M → IterV enc ok w' r b M (L.filter fun y => decide (y ≠ x)) → w.grownBy w' (some r) → (Instr.entry (.pointer (some ⟨r, 0, none⟩))).run P w' = .ok (.tuple #[enc x, v]) w' → wpList P ops Q rest (a.put o.dst (.tuple #[.bool true, enc x, v])) w') : wpList P ops Q (o :: rest) a w :=
  wpList_plain hgd fun _ hK => by
    rcases hI.next (P := P) hinj o.type with ⟨e, hr⟩ | ⟨x, v, w', a1, a2, hr, a3, a4, a5⟩
    · unfold Oper.wp
      simp only [execOp, hop, hi, Sem.run_bind, hr, Result.andThen_ok]
      exact hK _ _ (h0 e)
    · unfold Oper.wp
      simp only [execOp, hop, hi, Sem.run_bind, hr, Result.andThen_ok]
      exact hK _ _ (h1 x v w' a1 a2 a3 a4 a5)
theorem wl_entry (hgd : o.guard = none) (it : Operand) (hop : o.op = Op.entry it) (r : Nat) (hi : a.eval it = .pointer (some ⟨r, 0, none⟩)) (v : Value) (hr : (Instr.entry (.pointer (some ⟨r, 0, none⟩))).run P w = .ok v w)
    (h : wpList P ops Q rest (a.put o.dst v) w) : wpList P ops Q (o :: rest) a w :=
  wpList_plain hgd fun _ hK => by
    unfold Oper.wp
    simp only [execOp, hop, hi, Sem.run_bind, hr, Result.andThen_ok]
    exact hK _ _ h
end
section
variable {P : Program} {ops : Array Oper} {Q : Exit → Act → World → Prop} {a : Act} {w : World} {o : Oper} {i : Nat} {K : Act → World → Prop}
theorem wpOp_one (hi : ops[i]? = some o) (h : wpList P ops (Exit.then K Q) [o] a w) : wpOp P ops Q i K a w := by
  unfold wpOp
  simp only [hi]
  unfold wpList at h
  split at h
  · rename_i hw
    rw [if_pos hw]
    rcases h with h | ⟨h1, a0, w0, h2⟩
    · refine .inl ?_
      unfold Oper.wp at *
      generalize (execOp a.eval o).run P w = r at *
      cases r with
      | ok n w' => cases n <;> simp only [Oper.upon] at h ⊢ <;> first | exact h | exact Calls.mono h (fun e w'' he => by cases e <;> first | exact he | (obtain ⟨a1, w1, h1⟩ := he; exact ⟨a1, w1, h1⟩)) | exact Rows.mono h (fun _ _ he => he)
      | halt x w' => cases x <;> simp only [Oper.upon] at h ⊢ <;> exact h
    · exact .inr ⟨h1, a0, w0, h2⟩
  · rename_i hw
    rw [if_neg hw]
    exact h
end
end Go.Proofs.YtmaogkgjiplckaaGreat
namespace Go.Proofs.YtmaogkgjiplckaaGreat
open Go.RowKit
theorem laidOut : laidOutB Tryz.prog = true := by kernel_rfl
def okI (x : Int) : Prop := -9223372036854775808 ≤ x ∧ x ≤ 9223372036854775807
def encI (x : Int) : Value := .int .i64 x
def encP (p : Int × Int) : Value := .agg #[.int .i64 p.1, .int .i64 p.2]
def okP (p : Int × Int) : Prop := okI p.1 ∧ okI p.2
theorem wf_i {x : Int} (h : okI x) : (Lit.int .i64 x).wf = true := by
  unfold okI at h
  exact WalkArith.wf_i64 (by omega)
theorem keyI : KeyE Tryz.prog 3 encI okI where
  law := Maps.int_keyed Tryz.underlying3
  key x h := ⟨_, Maps.keyOf_int_mk Tryz.underlying3 (wf_i h)⟩
  inj x y h := by injection h
theorem rowP : (168 : TypeId) < Tryz.prog.types.size := of_decide_eq_true (by kernel_rfl)
theorem wideP : (match Tryz.prog.underlying 168 with | some (.array _ _) | some (.struct _) => true | _ => false) = true := by kernel_rfl
theorem deepP : Tryz.prog.keyTypeAt (Tryz.prog.types.size + 1) 168 = true := by kernel_rfl
theorem cellsP : Tryz.prog.cellsOf 168 = 2 := by kernel_rfl
theorem cellsI : Tryz.prog.cellsOf 3 = 1 := by kernel_rfl
theorem formedP (a b : Value) : (Value.agg #[a, b]).formed Tryz.prog 168 = true := by
  simp [Value.formed, Tryz.underlying168, cellsP]
theorem litsI (d : Nat) (x : Int) (h : okI x) : Tryz.prog.keyLits (d + 1) 3 [.int .i64 x] = some [.int .i64 x] := by
  simp [Program.keyLits, Tryz.underlying3, wf_i h]
set_option maxRecDepth 100000 in
theorem keyP : KeyE Tryz.prog 168 encP okP where
  law := Maps.Keyed.of_law (deep_law_laid laidOut (m := 2) (by omega) rowP (by kernel_rfl) wideP)
  key x h := by
    obtain ⟨n, hn⟩ := Nat.exists_eq_succ_of_ne_zero (Nat.pos_iff_ne_zero.1 (Nat.lt_of_le_of_lt (Nat.zero_le _) rowP))
    have h1 : (Tryz.prog.keyLits (Tryz.prog.types.size + 1) 168 (encP x).cells.toList) = some [.int .i64 x.1, .int .i64 x.2] := by
      rw [hn]
      unfold Program.keyLits
      simp [encP, Value.cells, Tryz.underlying168, cellsP, cellsI, litsI _ _ h.1, litsI _ _ h.2, List.range, List.range.loop]
    refine ⟨.string (keyBytes [.int .i64 x.1, .int .i64 x.2]), ?_⟩
    unfold keyOf
    rw [Tryz.underlying168]
    dsimp only
    rw [h1, show Tryz.prog.keyType 168 = true from deepP, show (encP x).formed Tryz.prog 168 = true from formedP _ _]
    rfl
  inj x y h := by
    unfold encP at h
    simp only [Value.agg.injEq, Array.mk.injEq, List.cons.injEq, Value.int.injEq, true_and, and_true] at h
    exact Prod.ext h.1 h.2
theorem zero3 (w : World) : (zeroValue 3).run Tryz.prog w = .ok (.int .i64 0) w := by kernel_rfl
end Go.Proofs.YtmaogkgjiplckaaGreat
namespace Go.Proofs.YtmaogkgjiplckaaGreat
open Go.RowKit
def mapOf (m : List ((Int × Int) × Int)) : List ((Int × Int) × Value) := m.map fun e => (e.1, .int .i64 e.2)
theorem look_get (m : List ((Int × Int) × Int)) (a b : Int) : getM (mapOf m) (a, b) = (look m a b).map (Value.int .i64) := by
  unfold getM mapOf look
  rw [List.find?_map, Option.map_map, Option.map_map]
  rfl
theorem put_new {m : List ((Int × Int) × Int)} {a b : Int} (h : look m a b = none) (z : Int) : putM (mapOf m) (a, b) (.int .i64 z) = mapOf (m ++ [((a, b), z)]) := by
  unfold putM
  rw [if_neg]
  · simp [mapOf]
  · intro hm
    obtain ⟨p, hp, e⟩ := List.mem_map.1 hm
    obtain ⟨q, hq, rfl⟩ := List.mem_map.1 hp
    unfold look at h
    rw [Option.map_eq_none_iff, List.find?_eq_none] at h
    exact h q hq (by simpa using e)
def SlsX (Y : Nat → Prop) (w : World) (xs : List Value) (cl : List (List Int)) : Prop := xs.length = cl.length ∧ ∀ (i : Nat) (x : Value) (l : List Int), xs[i]? = some x → cl[i]? = some l → SlX Y w x l
theorem SlsX.kept {Y : Nat → Prop} {w w' : World} {xs : List Value} {cl : List (List Int)} (h : SlsX Y w xs cl) (hk : Kept Y w w') : SlsX Y w' xs cl := ⟨h.1, fun i x l a b => (h.2 i x l a b).kept hk⟩
theorem SlsX.mono {Y Z : Nat → Prop} {w : World} {xs : List Value} {cl : List (List Int)} (h : SlsX Y w xs cl) (hY : ∀ k, k < w.heap.size → Y k → Z k) : SlsX Z w xs cl := ⟨h.1, fun i x l a b => (h.2 i x l a b).mono hY⟩
theorem SlsX.append {Y : Nat → Prop} {w : World} {xs ys : List Value} {cl dl : List (List Int)} (h : SlsX Y w xs cl) (k : SlsX Y w ys dl) : SlsX Y w (xs ++ ys) (cl ++ dl) := by
  refine ⟨by simp [h.1, k.1], fun i x l a b => ?_⟩
  rw [List.getElem?_append] at a b
  rw [h.1] at a
  split at a
  · rename_i hlt
    rw [if_pos hlt] at b
    exact h.2 i x l a b
  · rename_i hlt
    rw [if_neg hlt] at b
    exact k.2 _ x l a b
structure GRep (X : Nat → Prop) (base : Nat) (w : World) (gb : Nat) (g : G) (v : Value) (ma mx : Nat) (xs : List Value) : Prop where
  box : w.heap[gb]? = some (.cells #[.int .i64 g.n, v, .map (some ma), .map (some mx)] 98 (0, 0))
  row : w.ownsRow base 31 1 v xs.length xs
  cls : SlsX (fun k => ¬ X k ∧ k ≠ gb ∧ some k ≠ v.ownBlock) w xs g.cl
  an : MapV encP okP w ma (mapOf g.an)
  xo : MapV encP okP w mx (mapOf g.xo)
  ne : ma ≠ mx
  xb : ∀ k, X k → k < w.heap.size
  xg : ¬ X gb
  xa : ¬ X ma
  xx : ¬ X mx
  xv : ∀ k, some k = v.ownBlock → ¬ X k
  n1 : g.n ≤ 1048576
  cl : g.cl.length ≤ 4 * g.n
def GR (X : Nat → Prop) (base : Nat) (w : World) (gb : Nat) (g : G) : Prop := ∃ v ma mx xs, GRep X base w gb g v ma mx xs
section
variable {X : Nat → Prop} {base gb ma mx : Nat} {w w' : World} {g : G} {v : Value} {xs : List Value}
theorem GRep.lt (h : GRep X base w gb g v ma mx xs) : gb < w.heap.size ∧ ma < w.heap.size ∧ mx < w.heap.size := ⟨lt_of_block h.box, h.an.lt, h.xo.lt⟩
theorem GRep.apart (h : GRep X base w gb g v ma mx xs) : gb ≠ ma ∧ gb ≠ mx ∧ (∀ k, some k = v.ownBlock → k ≠ gb ∧ k ≠ ma ∧ k ≠ mx) := by
  obtain ⟨es, c, ha, _⟩ := h.an
  obtain ⟨es', c', hx, _⟩ := h.xo
  have hg := h.box
  refine ⟨?_, ?_, fun k hk => ?_⟩
  · rintro rfl; rw [hg] at ha; simp at ha
  · rintro rfl; rw [hg] at hx; simp at hx
  · rcases h.row.2 with ⟨rfl, _⟩ | ⟨q, c, cur, rfl, _, hh, _⟩
    · cases hk
    · simp only [Value.ownBlock, Option.some.injEq] at hk
      subst hk
      refine ⟨?_, ?_, ?_⟩
      · rintro rfl; rw [hg] at hh; simp at hh
      · rintro rfl; rw [ha] at hh; simp at hh
      · rintro rfl; rw [hx] at hh; simp at hh
theorem GRep.same (h : GRep X base w gb g v ma mx xs) (hg : w.grownBy w' none) : GRep X base w' gb g v ma mx xs := by
  have hk : Kept (fun _ => True) w w' := ⟨hg.os, hg.tape, hg.output, hg.size, fun i hi _ => hg.block i hi (by simp)⟩
  obtain ⟨l1, l2, l3⟩ := h.lt
  exact ⟨hk.at h.box trivial, h.row.kept hg (by cases v.ownBlock <;> simp), h.cls.kept (hk.mono fun _ _ _ => trivial), h.an.kept hk trivial, h.xo.kept hk trivial, h.ne, fun k hx => Nat.lt_of_lt_of_le (h.xb k hx) hg.size, h.xg, h.xa, h.xx, h.xv, h.n1, h.cl⟩
theorem GRep.alloc (h : GRep X base w gb g v ma mx xs) (o : Obj) : GRep X base (w.alloc o) gb g v ma mx xs := h.same ⟨rfl, rfl, rfl, by simp, fun k hk _ => Below.heap_alloc w o k hk⟩
theorem GRep.other (h : GRep X base w gb g v ma mx xs) {q : Nat} (hg : w.grownBy w' (some q)) (hq : X q) : GRep X base w' gb g v ma mx xs := by
  have hk : Kept (fun k => ¬ X k) w w' := ⟨hg.os, hg.tape, hg.output, hg.size, fun i hi hx => hg.block i hi (fun e => by injection e with e; subst e; exact hx hq)⟩
  refine ⟨hk.at h.box h.xg, h.row.kept hg ?_, h.cls.kept (hk.mono fun _ _ hx => hx.1), h.an.kept hk h.xa, h.xo.kept hk h.xx, h.ne, fun k hx => Nat.lt_of_lt_of_le (h.xb k hx) hg.size, h.xg, h.xa, h.xx, h.xv, h.n1, h.cl⟩
  rcases hv : v.ownBlock with _ | k
  · exact .inl rfl
  · right
    intro e
    injection e with e
    exact h.xv k hv.symm (e ▸ hq)
theorem GRep.own (h : GRep X base w gb g v ma mx xs) (o : Obj) : GRep (fun k => X k ∨ k = w.heap.size) base (w.alloc o) gb g v ma mx xs := by
  obtain ⟨l1, l2, l3⟩ := h.lt
  have h2 := h.alloc o
  refine ⟨h2.box, h2.row, ?_, h2.an, h2.xo, h2.ne, ?_, ?_, ?_, ?_, ?_, h.n1, h.cl⟩
  · have := (h.cls.mono (Z := fun k => ¬ (X k ∨ k = w.heap.size) ∧ k ≠ gb ∧ some k ≠ v.ownBlock) fun k hk hx => ⟨by rintro (h1 | rfl); exact hx.1 h1; omega, hx.2⟩)
    exact this.kept ⟨rfl, rfl, rfl, by simp, fun k hk _ => Below.heap_alloc w o k hk⟩
  · rintro k (h1 | rfl)
    · have := h.xb k h1; simp; omega
    · simp
  · rintro (h1 | rfl)
    · exact h.xg h1
    · omega
  · rintro (h1 | rfl)
    · exact h.xa h1
    · omega
  · rintro (h1 | rfl)
    · exact h.xx h1
    · omega
  · intro k hk
    have hkl := (h.row.lt k hk.symm).2
    rintro (h1 | rfl)
    · exact h.xv k hk h1
    · omega
theorem GRep.less (h : GRep X base w gb g v ma mx xs) {Y : Nat → Prop} (hY : ∀ k, Y k → X k) : GRep Y base w gb g v ma mx xs :=
  ⟨h.box, h.row, h.cls.mono fun k _ hx => ⟨fun hy => hx.1 (hY k hy), hx.2⟩, h.an, h.xo, h.ne, fun k hy => h.xb k (hY k hy), fun hy => h.xg (hY _ hy), fun hy => h.xa (hY _ hy), fun hy => h.xx (hY _ hy), fun k hk hy => h.xv k hk (hY _ hy), h.n1, h.cl⟩
theorem GRep.said (h : GRep X base w gb g v ma mx xs) {w1 w2 : World} {q n cap : Nat} {ys : List Value} {cs : List (List Int)} (hown : w1.ownsRow base 31 1 (.slice (some ⟨q, 0, none⟩) n cap) (xs ++ ys).length (xs ++ ys)) (hg : w.grownBy w1 v.ownBlock) (hq : v.ownBlock = some q ∨ q = w.heap.size)
    (hb : w2.heap[gb]? = some (.cells #[.int .i64 g.n, .slice (some ⟨q, 0, none⟩) n cap, .map (some ma), .map (some mx)] 98 (0, 0))) (hg2 : w1.grownBy w2 (some gb)) (hY : SlsX (fun k => ¬ X k ∧ k ≠ gb ∧ some k ≠ v.ownBlock) w ys cs) (hc : g.cl.length + cs.length ≤ 4 * g.n) :
    GRep X base w2 gb ⟨g.n, g.cl ++ cs, g.an, g.xo⟩ (.slice (some ⟨q, 0, none⟩) n cap) ma mx (xs ++ ys) ∧ Kept X w w2 := by
  obtain ⟨a1, a2, a3⟩ := h.apart
  obtain ⟨l1, l2, l3⟩ := h.lt
  have hk1 : Kept (fun k => some k ≠ v.ownBlock) w w1 := ⟨hg.os, hg.tape, hg.output, hg.size, fun i hi hx => hg.block i hi hx⟩
  have hk2 : Kept (fun k => k ≠ gb) w1 w2 := ⟨hg2.os, hg2.tape, hg2.output, hg2.size, fun i hi hx => hg2.block i hi (fun e => hx (by injection e))⟩
  have hk : Kept (fun k => some k ≠ v.ownBlock ∧ k ≠ gb) w w2 := (hk1.mono fun _ _ hx => hx.1).trans (hk2.mono fun _ _ hx => hx.2)
  have hqg : q ≠ gb := by
    rcases hq with e | e
    · exact (a3 q e.symm).1
    · omega
  have hqX : ¬ X q := by
    rcases hq with e | e
    · exact h.xv q e.symm
    · intro hx; have := h.xb q hx; omega
  refine ⟨⟨hb, hown.kept hg2 (.inr (fun e => by simp only [Value.ownBlock, Option.some.injEq] at e; exact hqg e)), ?_, h.an.kept hk ⟨fun e => (a3 _ e).2.1 rfl, Ne.symm a1⟩, h.xo.kept hk ⟨fun e => (a3 _ e).2.2 rfl, Ne.symm a2⟩, h.ne, fun k hx => Nat.lt_of_lt_of_le (h.xb k hx) hk.size, h.xg, h.xa, h.xx, ?_, h.n1, ?_⟩, ?_⟩
  · have hall := h.cls.append hY
    have h2 := hall.mono (Z := fun k => ¬ X k ∧ k ≠ gb ∧ some k ≠ v.ownBlock ∧ k ≠ q) (fun k hk0 hx => ⟨hx.1, hx.2.1, hx.2.2, by
      rcases hq with e | e
      · intro e2; exact hx.2.2 (by rw [e, e2])
      · omega⟩)
    exact (h2.kept (hk.mono fun k _ hx => ⟨hx.2.2.1, hx.2.1⟩)).mono fun k _ hx => ⟨hx.1, hx.2.1, fun e => by simp only [Value.ownBlock, Option.some.injEq] at e; exact hx.2.2.2 e⟩
  · intro k hk0
    simp only [Value.ownBlock, Option.some.injEq] at hk0
    subst hk0
    exact hqX
  · rw [List.length_append]; exact hc
  · exact hk.mono fun k _ hx => ⟨fun e => h.xv k e hx, fun e => h.xg (e ▸ hx)⟩
theorem GRep.putA (h : GRep X base w gb g v ma mx xs) {an : List ((Int × Int) × Int)} (hg : w.grownBy w' (some ma)) (hm : MapV encP okP w' ma (mapOf an)) : GRep X base w' gb ⟨g.n, g.cl, an, g.xo⟩ v ma mx xs ∧ Kept X w w' := by
  obtain ⟨a1, a2, a3⟩ := h.apart
  have hk : Kept (fun k => k ≠ ma) w w' := ⟨hg.os, hg.tape, hg.output, hg.size, fun i hi hx => hg.block i hi (fun e => hx (by injection e))⟩
  obtain ⟨es, cl0, hma, _⟩ := h.an
  refine ⟨⟨hk.at h.box a1, h.row.kept hg ?_, ?_, hm, h.xo.kept hk (Ne.symm h.ne), h.ne, fun k hx => Nat.lt_of_lt_of_le (h.xb k hx) hg.size, h.xg, h.xa, h.xx, h.xv, h.n1, h.cl⟩, hk.mono fun k _ hx e => h.xa (e ▸ hx)⟩
  · rcases hv : v.ownBlock with _ | k
    · exact .inl rfl
    · right
      intro e
      injection e with e
      exact (a3 k hv.symm).2.1 e
  · refine ⟨h.cls.1, fun i x l hx hl => ?_⟩
    obtain ⟨ao, cap, b1, b2, b3, b4⟩ := h.cls.2 i x l hx hl
    refine ⟨ao, cap, b1, b2, b3, fun hn => ?_⟩
    obtain ⟨b, o, e1, e2, e3, e4⟩ := b4 hn
    refine ⟨b, o, e1, e2, Nat.lt_of_lt_of_le e3 hg.size, e4.kept hk ?_⟩
    rintro rfl
    have hl0 : 0 < l.length := List.length_pos_iff.2 hn
    have := e4 0 _ (List.getElem?_eq_getElem hl0)
    simp [World.cell?, hma] at this
theorem GRep.putX (h : GRep X base w gb g v ma mx xs) {xo : List ((Int × Int) × Int)} (hg : w.grownBy w' (some mx)) (hm : MapV encP okP w' mx (mapOf xo)) : GRep X base w' gb ⟨g.n, g.cl, g.an, xo⟩ v ma mx xs ∧ Kept X w w' := by
  obtain ⟨a1, a2, a3⟩ := h.apart
  have hk : Kept (fun k => k ≠ mx) w w' := ⟨hg.os, hg.tape, hg.output, hg.size, fun i hi hx => hg.block i hi (fun e => hx (by injection e))⟩
  obtain ⟨es, cl0, hma, _⟩ := h.xo
  refine ⟨⟨hk.at h.box a2, h.row.kept hg ?_, ?_, h.an.kept hk h.ne, hm, h.ne, fun k hx => Nat.lt_of_lt_of_le (h.xb k hx) hg.size, h.xg, h.xa, h.xx, h.xv, h.n1, h.cl⟩, hk.mono fun k _ hx e => h.xx (e ▸ hx)⟩
  · rcases hv : v.ownBlock with _ | k
    · exact .inl rfl
    · right
      intro e
      injection e with e
      exact (a3 k hv.symm).2.2 e
  · refine ⟨h.cls.1, fun i x l hx hl => ?_⟩
    obtain ⟨ao, cap, b1, b2, b3, b4⟩ := h.cls.2 i x l hx hl
    refine ⟨ao, cap, b1, b2, b3, fun hn => ?_⟩
    obtain ⟨b, o, e1, e2, e3, e4⟩ := b4 hn
    refine ⟨b, o, e1, e2, Nat.lt_of_lt_of_le e3 hg.size, e4.kept hk ?_⟩
    rintro rfl
    have hl0 : 0 < l.length := List.length_pos_iff.2 hn
    have := e4 0 _ (List.getElem?_eq_getElem hl0)
    simp [World.cell?, hma] at this
end
theorem info26 : (Tryz.prog.info? 31).map (fun i => (i.zero, i.size, i.bytes)) = some (some (.slice none 0 0), 1, 24) := by kernel_rfl
theorem info3 : (Tryz.prog.info? 3).map (fun i => (i.zero, i.size, i.bytes)) = some (some (.int .i64 0), 1, 8) := by kernel_rfl
theorem box4g {w : World} {g : Nat} {T : TypeId} {a b c d : Value} (H : w.heap[g]? = some (.cells #[a, b, c, d] T (0, 0))) :
    w.cell? ⟨g, 0, none⟩ = some a ∧ w.cell? ⟨g, 1, none⟩ = some b ∧ w.cell? ⟨g, 2, none⟩ = some c ∧ w.cell? ⟨g, 3, none⟩ = some d ∧ (∀ i, w.frozen? ⟨g, i, none⟩ = false) :=
  ⟨by simp [World.cell?, H], by simp [World.cell?, H], by simp [World.cell?, H], by simp [World.cell?, H], fun i => by simp [World.frozen?, H]⟩
theorem set_row {w : World} {g i : Nat} {cs : Array Value} {t : TypeId} (v : Value) (H : w.heap[g]? = some (.cells cs t (0, 0))) : (w.setCell ⟨g, i, none⟩ v).heap[g]? = some (.cells (cs.setIfInBounds i v) t (0, 0)) ∧ w.grownBy (w.setCell ⟨g, i, none⟩ v) (some g) :=
  ⟨heap_setCell_same w g i cs t v H, ⟨rfl, rfl, rfl, by simp, fun k hk hn => heap_setCell_other w _ k v (fun e => hn (by rw [e]))⟩⟩
theorem GRep.boxed {X : Nat → Prop} {base gb ma mx : Nat} {w w' : World} {g : G} {v : Value} {xs : List Value} (h : GRep X base w gb g v ma mx xs) (hg : w.grownBy w' (some gb)) {n : Nat} (hb : w'.heap[gb]? = some (.cells #[.int .i64 n, v, .map (some ma), .map (some mx)] 98 (0, 0))) (hn : g.n ≤ n) (h1 : n ≤ 1048576) :
    GRep X base w' gb ⟨n, g.cl, g.an, g.xo⟩ v ma mx xs := by
  obtain ⟨a1, a2, a3⟩ := h.apart
  have hk : Kept (fun k => k ≠ gb) w w' := ⟨hg.os, hg.tape, hg.output, hg.size, fun i hi hx => hg.block i hi (fun e => hx (by injection e))⟩
  refine ⟨hb, h.row.kept hg ?_, h.cls.kept (hk.mono fun _ _ hx => hx.2.1), h.an.kept hk (Ne.symm a1), h.xo.kept hk (Ne.symm a2), h.ne, fun k hx => Nat.lt_of_lt_of_le (h.xb k hx) hg.size, h.xg, h.xa, h.xx, h.xv, h1, by have := h.cl; show g.cl.length ≤ 4 * n; omega⟩
  rcases hv : v.ownBlock with _ | k
  · exact .inl rfl
  · right
    intro e
    injection e with e
    exact (a3 k hv.symm).1 e
set_option maxRecDepth 100000 in
theorem fresh_any {X : Nat → Prop} {base gb ma mx : Nat} {g : G} {v : Value} {xs : List Value} (w : World) (h : GRep X base w gb g v ma mx xs) (hn : g.n < 1048576) :
    Calls Tryz.prog 106 #[.pointer (some ⟨gb, 0, none⟩)] w fun e w' => e = .returned (.int .i64 ((g.n : Int) + 1)) ∧ GRep X base w' gb ⟨g.n + 1, g.cl, g.an, g.xo⟩ v ma mx xs ∧ Kept X w w' := by
  obtain ⟨c0, c1, c2, c3, cf⟩ := box4g h.box
  have cf0 := cf 0
  obtain ⟨N, hN⟩ : ∃ N : Int, (g.n : Int) = N := ⟨_, rfl⟩
  have hs := set_row (i := 0) (.int .i64 (N + 1)) h.box
  have H := Lib.hid h
  have Hs := Lib.hid hs
  have Hn := Lib.hid hn
  have hn1 : N < 1048576 := by omega
  have hn0 : 0 ≤ N := by omega
  have HN := Lib.hid hN
  rw [hN] at c0 ⊢
  clear h hs cf c1 c2 c3 hn hN
  go_enter Tryz.func106, Tryz.ntmps106
  (repeat (first | (with_reducible first | refine xA ?_ | refine xB ?_ | refine xC ?_ | refine xD ?_ | refine xH ?_ | refine xI rfl ?_ | refine xE ?_ | refine xF ?_ | refine xG ?_) | go_values | go_skip | go_guarded | go_step | go_upon | go_back | ((with_reducible show Oper.upon _ _ _ _ _ _); go_simp) | (dsimp only)))
  go_ret
  obtain rfl := HN.out
  have hg := Hs.out.2
  have hb := Hs.out.1
  refine ⟨rfl, H.out.boxed hg (n := g.n + 1) (by simpa using hb) (by omega) (by have := Hn.out; omega), ?_⟩
  exact (Kept.refl X w).grown hg (fun q e _ => by injection e with e; subst e; exact H.out.xg)
end Go.Proofs.YtmaogkgjiplckaaGreat
namespace Go.Proofs.YtmaogkgjiplckaaGreat
open Go.RowKit
theorem keep_at {w w' : World} {r : Option Nat} {k : Nat} {o : Obj} (hg : w.grownBy w' r) (h : w.heap[k]? = some o) (hne : some k ≠ r) : w'.heap[k]? = some o := (hg.block k (lt_of_block h) hne).trans h
set_option maxRecDepth 100000 in
theorem say_any {X : Nat → Prop} {base gb ma mx : Nat} {g : G} {v : Value} {xs : List Value} (w : World) (h : GRep X base w gb g v ma mx xs) (bq : Nat) (ys : List Value) (cs : List (List Int)) (hm : 0 < ys.length) (hY : SlsX (fun k => ¬ X k ∧ k ≠ gb ∧ some k ≠ v.ownBlock) w ys cs)
    (hq : w.heap[bq]? = some (.cells ys.toArray 31 (0, 0))) (h1 : ∀ u ∈ ys, u.oneCell' = true) (hc : g.cl.length + cs.length ≤ 4 * g.n) (hb : base ≤ w.heap.size) :
    Calls Tryz.prog 133 #[.pointer (some ⟨gb, 0, none⟩), .slice (some ⟨bq, 0, none⟩) ys.length ys.length] w fun e w' => e = .returned (.tuple #[]) ∧ GR X base w' gb ⟨g.n, g.cl ++ cs, g.an, g.xo⟩ ∧ Kept X w w' := by
  obtain ⟨i0, hi0, hz0, hz1, hz2⟩ := info_parts info26
  obtain ⟨c0, c1, c2, c3, cf⟩ := box4g h.box
  have hnews : ∀ (j : Nat) (u : Value), ys[j]? = some u → w.cell? ((⟨bq, 0, none⟩ : Addr).add j) = some u := by simpa using World.news_of_block (w := w) hq
  have H := Lib.hid h
  have Hm := Lib.hid hm
  have Hc := Lib.hid hnews
  have H1 := Lib.hid h1
  have HB := Lib.hid hb
  have HY := Lib.hid hY
  have HC := Lib.hid hc
  have hxl : xs.length + ys.length ≤ 4194304 := by have := h.cls.1; have := hY.1; have := h.n1; omega
  have hl1 : xs.length + ys.length ≤ 9223372036854775807 := by omega
  have hl2 : (xs.length + ys.length) * 24 ≤ 2 ^ 47 := by omega
  clear h hm hnews h1 hb hY hc c0 c2 c3 cf hq hxl
  go_enter Tryz.func133, Tryz.ntmps133
  (repeat (first | (with_reducible first | refine xA ?_ | refine xB ?_ | refine xC ?_ | refine xD ?_ | refine xH ?_ | refine xI rfl ?_ | refine xE ?_ | refine xF ?_ | refine xG ?_) | go_skip | go_guarded | (at_builtin; refine wpList_append_lies (P := Tryz.prog) w rfl _ _ 30 rfl base 31 i0 _ 1 24 Tryz.underlying30 hi0 hz0 hz1 hz2 rfl (by decide) v xs.length xs rfl H.out.row ⟨bq, 0, none⟩ ys.length ys.length ys rfl (Nat.mul_one _).symm Hc.out H1.out Hm.out (by simp only [maxLen]; exact hl1) hl2 HB.out _ rfl ?_; intro q cap w1 hown hg hat hlt; clear hl1 hl2; have Hown := Lib.hid hown; have Hg := Lib.hid hg; have Hat := Lib.hid hat; have hbx := keep_at hg H.out.box (fun e => (H.out.apart.2.2 gb e).1 rfl); obtain ⟨c0, c1, c2, c3, cf⟩ := box4g hbx; have cf1 := cf 1; have hs := set_row (i := 1) (.slice (some ⟨q, 0, none⟩) (xs.length + ys.length) cap) hbx; have Hs := Lib.hid hs; clear hown hg hat hlt hbx hs cf c0 c2 c3; (try simp only [Act.put, qz4, qz5, qz6])) | go_values | go_skip | go_guarded | go_step | go_upon | go_back | ((with_reducible show Oper.upon _ _ _ _ _ _); go_simp) | (dsimp only)))
  have hb2 := Hs.out.1
  simp only [qz4, qz5, qz6] at hb2
  obtain ⟨r1, r2⟩ := H.out.said (by rw [List.length_append]; exact Hown.out) Hg.out Hat.out hb2 Hs.out.2 HY.out HC.out
  exact bodyPost_end (results_none rfl _ _ _) rfl ⟨rfl, ⟨_, _, _, _, r1⟩, r2⟩
theorem size130 : (Tryz.prog.info? 168).map (·.size) = some 2 := by kernel_rfl
theorem okI_of {x : Int} (h : -2000000 ≤ x ∧ x ≤ 2000000) : okI x := by unfold okI; omega
theorem key_of {a b : Int} (ha : -1048576 ≤ a ∧ a ≤ 1048576) (hb : -1048576 ≤ b ∧ b ≤ 1048576) : okP (a, b) := ⟨okI_of (by omega), okI_of (by omega)⟩
set_option maxRecDepth 100000 in
set_option maxHeartbeats 1000000 in
theorem both_key {X : Nat → Prop} {base gb : Nat} {g : G} (w : World) (h : GR X base w gb g) (x y a b r : Int) (hx : -1048576 ≤ x ∧ x ≤ 1048576) (hy : -1048576 ≤ y ∧ y ≤ 1048576) (ea : min x y = a) (eb : max x y = b) (hr : bothKey a b = some r) :
    Calls Tryz.prog 112 #[.pointer (some ⟨gb, 0, none⟩), .int .i64 x, .int .i64 y] w fun e w' => e = .returned (.int .i64 r) ∧ w = w' := by
  have hab : (x = a ∧ y = b) ∨ (x = b ∧ y = a) := by omega
  have hle : a ≤ b := by omega
  clear h ea eb
  unfold bothKey at hr
  by_cases e1 : a = b
  · rw [if_pos (.inl e1)] at hr
    obtain rfl : x = r := by injection hr with hr; omega
    obtain rfl : x = y := by omega
    clear hr hab hle e1
    (go_enter Tryz.func112, Tryz.ntmps112; (repeat (first | (with_reducible first | refine xA ?_ | refine xB ?_ | refine xC ?_ | refine xD ?_ | refine xH ?_ | refine xI rfl ?_ | refine xE ?_ | refine xF ?_ | refine xG ?_) | go_values | go_skip | go_guarded | go_step | go_upon | go_back | ((with_reducible show Oper.upon _ _ _ _ _ _); go_simp) | (dsimp only))); go_ret; exact ⟨ret_int (by first | rfl | omega), rfl⟩)
  have hlt : a < b := by omega
  have hnl : ¬ b < a := by omega
  have f1 : (a == b) = false := by simpa using e1
  have f1' : (b == a) = false := by simp; omega
  by_cases e2 : b = 1
  · rw [if_pos (.inr e2)] at hr
    obtain rfl : a = r := by injection hr
    subst e2
    clear hr hle e1
    (rcases hab with ⟨rfl, rfl⟩ | ⟨rfl, rfl⟩ <;> (go_enter Tryz.func112, Tryz.ntmps112; (repeat (first | (with_reducible first | refine xA ?_ | refine xB ?_ | refine xC ?_ | refine xD ?_ | refine xH ?_ | refine xI rfl ?_ | refine xE ?_ | refine xF ?_ | refine xG ?_) | go_values | go_skip | go_guarded | go_step | go_upon | go_back | ((with_reducible show Oper.upon _ _ _ _ _ _); go_simp) | (dsimp only))); go_ret; exact ⟨ret_int (by first | rfl | omega), rfl⟩))
  have f2 : (b == 1) = false := by simpa using e2
  rw [if_neg (by omega)] at hr
  by_cases e3 : a = -b
  · rw [if_pos (.inl e3)] at hr
    obtain rfl : -1 = r := by injection hr
    subst e3
    clear hr hle e1 e2
    (rcases hab with ⟨rfl, rfl⟩ | ⟨rfl, rfl⟩ <;> (go_enter Tryz.func112, Tryz.ntmps112; (repeat (first | (with_reducible first | refine xA ?_ | refine xB ?_ | refine xC ?_ | refine xD ?_ | refine xH ?_ | refine xI rfl ?_ | refine xE ?_ | refine xF ?_ | refine xG ?_) | go_values | go_skip | go_guarded | go_step | go_upon | go_back | ((with_reducible show Oper.upon _ _ _ _ _ _); go_simp) | (dsimp only))); go_ret; exact ⟨ret_int (by first | rfl | omega), rfl⟩))
  have f3 : (a == -b) = false := by simpa using e3
  by_cases e4 : a = -1
  · rw [if_pos (.inr e4)] at hr
    obtain rfl : -1 = r := by injection hr
    subst e4
    clear hr hle e1 e2 e3
    (rcases hab with ⟨rfl, rfl⟩ | ⟨rfl, rfl⟩ <;> (go_enter Tryz.func112, Tryz.ntmps112; (repeat (first | (with_reducible first | refine xA ?_ | refine xB ?_ | refine xC ?_ | refine xD ?_ | refine xH ?_ | refine xI rfl ?_ | refine xE ?_ | refine xF ?_ | refine xG ?_) | go_values | go_skip | go_guarded | go_step | go_upon | go_back | ((with_reducible show Oper.upon _ _ _ _ _ _); go_simp) | (dsimp only))); go_ret; exact ⟨ret_int (by first | rfl | omega), rfl⟩))
  have f4 : (a == -1) = false := by simpa using e4
  rw [if_neg (by omega)] at hr
  by_cases e5 : a = 1
  · rw [if_pos e5] at hr
    obtain rfl : b = r := by injection hr
    subst e5
    clear hr hle e1 e2 e3 e4
    (rcases hab with ⟨rfl, rfl⟩ | ⟨rfl, rfl⟩ <;> (go_enter Tryz.func112, Tryz.ntmps112; (repeat (first | (with_reducible first | refine xA ?_ | refine xB ?_ | refine xC ?_ | refine xD ?_ | refine xH ?_ | refine xI rfl ?_ | refine xE ?_ | refine xF ?_ | refine xG ?_) | go_values | go_skip | go_guarded | go_step | go_upon | go_back | ((with_reducible show Oper.upon _ _ _ _ _ _); go_simp) | (dsimp only))); go_ret; exact ⟨ret_int (by first | rfl | omega), rfl⟩))
  have f5 : (a == 1) = false := by simpa using e5
  rw [if_neg e5] at hr
  by_cases e6 : b = -1
  · rw [if_pos e6] at hr
    obtain rfl : -1 = r := by injection hr
    subst e6
    clear hr hle e1 e2 e3 e4 e5
    (rcases hab with ⟨rfl, rfl⟩ | ⟨rfl, rfl⟩ <;> (go_enter Tryz.func112, Tryz.ntmps112; (repeat (first | (with_reducible first | refine xA ?_ | refine xB ?_ | refine xC ?_ | refine xD ?_ | refine xH ?_ | refine xI rfl ?_ | refine xE ?_ | refine xF ?_ | refine xG ?_) | go_values | go_skip | go_guarded | go_step | go_upon | go_back | ((with_reducible show Oper.upon _ _ _ _ _ _); go_simp) | (dsimp only))); go_ret; exact ⟨ret_int (by first | rfl | omega), rfl⟩))
  rw [if_neg e6] at hr
  cases hr
theorem bothKey_no {a b : Int} (h : bothKey a b = none) (hle : a ≤ b) : a < b ∧ ¬ b < a ∧ (a == b) = false ∧ (b == a) = false ∧ (b == 1) = false ∧ (a == -b) = false ∧ (a == -1) = false ∧ (a == 1) = false ∧ (b == -1) = false := by
  unfold bothKey at h
  split at h
  · cases h
  split at h
  · cases h
  split at h
  · cases h
  split at h
  · cases h
  simp only [beq_eq_false_iff_ne, ne_eq]
  omega
theorem yields_arr {ops : Array Oper} {S : World → Prop} {o : Oper} {a : Act} {g : Nat} {T : TypeId} {cs : Array Value} {n : Nat} {e : TypeId} (hS : ∀ w, S w → w.heap[g]? = some (.cells cs T (0, 0))) (hw : Region.wanted o (yielded ops a.tmps) = true)
    (x : Operand) (ho : o.op = .load T x) (hx : a.eval x = .pointer (some ⟨g, 0, none⟩)) (hu : Tryz.prog.underlying T = some (.array n e)) (hz : (Tryz.prog.info? T).map (·.size) = some cs.size) : YieldsIf Tryz.prog ops S o (.agg cs) a := by
  refine .inl ⟨hw, fun w hw' => ?_⟩
  have h : (Instr.loadAt T (.pointer (some ⟨g, 0, none⟩))).run Tryz.prog w = .ok (.agg cs) w := run_loadVar_row w g T T cs (0, 0) _ (hS w hw') hu rfl hz
  unfold execOp
  simp only [ho, hx, Sem.run_bind, h, Result.andThen_ok]
  rfl
theorem yields_look {ops : Array Oper} {S : World → Prop} {o : Oper} {a : Act} {t k e : TypeId} {κ : Type} [DecidableEq κ] {enc : κ → Value} {ok : κ → Prop} (K : KeyE Tryz.prog k enc ok) (ht : Tryz.prog.underlying t = some (.map k e)) {z : Value} (hz : ∀ w, (zeroValue e).run Tryz.prog w = .ok z w) {b : Nat} {m : List (κ × Value)} (hS : ∀ w, S w → MapV enc ok w b m)
    (hw : Region.wanted o (yielded ops a.tmps) = true) (x y : Operand) (c : Bool) (ho : o.op = .lookup t x y c) (hx : a.eval x = .map (some b)) {κv : κ} (hy : a.eval y = enc κv) (hk : ok κv) (r : Value) (hr : (if c then .tuple #[(getM m κv).getD z, .bool (getM m κv).isSome] else (getM m κv).getD z) = r) : YieldsIf Tryz.prog ops S o r a := by
  refine .inl ⟨hw, fun w hw' => ?_⟩
  have h := (hS w hw').lookup K ht (hz w) hk c
  rw [hr] at h
  unfold execOp
  simp only [ho, hx, hy, Sem.run_bind, h, Result.andThen_ok]
  rfl
set_option maxRecDepth 100000 in
set_option maxHeartbeats 1000000 in
theorem both_look {X : Nat → Prop} {base gb ma mx : Nat} {g : G} {v : Value} {xs : List Value} (w : World) (h : GRep X base w gb g v ma mx xs) (x y a b : Int) (ha : -1048576 ≤ a ∧ a ≤ 1048576) (hb : -1048576 ≤ b ∧ b ≤ 1048576) (hab : (a = x ∧ b = y) ∨ (b = x ∧ a = y)) (hle : a ≤ b) (hr : bothKey a b = none) (z : Int) (hz : look g.an a b = some z) :
    Calls Tryz.prog 112 #[.pointer (some ⟨gb, 0, none⟩), .int .i64 x, .int .i64 y] w fun e w' => e = .returned (.int .i64 z) ∧ GRep X base w' gb g v ma mx xs ∧ Kept X w w' := by
  obtain ⟨f0, f0', f1, f1', f2, f3, f4, f5, f6⟩ := bothKey_no hr hle
  have hl : Hid ((if true then Value.tuple #[(getM (mapOf g.an) (a, b)).getD (.int .i64 0), .bool (getM (mapOf g.an) (a, b)).isSome] else (getM (mapOf g.an) (a, b)).getD (.int .i64 0)) = Value.tuple #[.int .i64 z, .bool true]) := Lib.hid (by rw [look_get, hz]; rfl)
  have h2 := h.alloc (.cells #[.int .i64 a, .int .i64 b] 168)
  have hkb := heap_alloc_new w (.cells #[.int .i64 a, .int .i64 b] 168)
  have HS0 := Lib.hid (show (fun u : World => u.heap[gb]? = some (.cells #[.int .i64 g.n, v, .map (some ma), .map (some mx)] 98 (0, 0)) ∧ u.heap[w.heap.size]? = some (.cells #[.int .i64 a, .int .i64 b] 168 (0, 0)) ∧ MapV encP okP u ma (mapOf g.an)) ({ (w.alloc (.cells #[.int .i64 a, .int .i64 b] 168)) with drawn := (w.alloc (.cells #[.int .i64 a, .int .i64 b] 168)).drawn + 1 } : World) from ⟨h2.box, hkb, h2.an⟩)
  have HR := Lib.hid (show GRep X base ({ (w.alloc (.cells #[.int .i64 a, .int .i64 b] 168)) with drawn := (w.alloc (.cells #[.int .i64 a, .int .i64 b] 168)).drawn + 1 } : World) gb g v ma mx xs ∧ Kept X w ({ (w.alloc (.cells #[.int .i64 a, .int .i64 b] 168)) with drawn := (w.alloc (.cells #[.int .i64 a, .int .i64 b] 168)).drawn + 1 } : World) from ⟨h2.same ⟨rfl, rfl, rfl, Nat.le_refl _, fun _ _ _ => rfl⟩, ((Kept.refl X w).alloc _).drew 1⟩)
  have HK := Lib.hid (key_of ha hb)
  clear h h2 hr hle hz hkb
  rcases hab with ⟨rfl, rfl⟩ | ⟨rfl, rfl⟩
  all_goals
    go_enter Tryz.func112, Tryz.ntmps112
    (repeat (first | (with_reducible first | refine xA ?_ | refine xB ?_ | refine xC ?_ | refine xD ?_ | refine xH ?_ | refine xI rfl ?_ | refine xE ?_ | refine xF ?_ | refine xG ?_) | go_values | go_skip | go_guarded | go_step | go_upon | go_back | ((with_reducible show Oper.upon _ _ _ _ _ _); go_simp) | (dsimp only)))
    refine wp_region_held (S := (fun u : World => u.heap[gb]? = some (.cells #[.int .i64 g.n, v, .map (some ma), .map (some mx)] 98 (0, 0)) ∧ u.heap[w.heap.size]? = some (.cells #[.int .i64 a, .int .i64 b] 168 (0, 0)) ∧ MapV encP okP u ma (mapOf g.an))) (by kernel_rfl) ?_
    have HS := HS0.out
    replace HR := HR.out
    clear HS0
    generalize ({ (w.alloc _) with drawn := _ } : World) = u3 at *
    refine wpAnyH_take (i := 0) (v := .pointer (some ⟨gb, 0, none⟩)) rfl (by kernel_rfl) (by kernel_rfl) (by kernel_rfl) (fun _ _ _ h => h) (Or.inl ⟨rfl, fun w _ => by go_simp⟩) HS ?_; simp only [Act.put, qz4, qz5, qz6]; refine wpAnyH_take (i := 1) (v := .pointer (some ⟨gb, 0, none⟩)) rfl (by kernel_rfl) (by kernel_rfl) (by kernel_rfl) (fun _ _ _ h => h) (Or.inl ⟨rfl, fun w _ => by go_simp⟩) HS ?_; simp only [Act.put, qz4, qz5, qz6]
    refine wpAnyH_take (i := 2) (v := .pointer (some ⟨gb, 2, none⟩)) rfl (by kernel_rfl) (by kernel_rfl) (by kernel_rfl) (fun _ _ _ h => h) (Or.inl ⟨rfl, fun w _ => by go_simp⟩) HS ?_
    simp only [Act.put, qz4, qz5, qz6]
    refine wpAnyH_take (i := 3) (v := .map (some ma)) rfl (by kernel_rfl) (by kernel_rfl) (by kernel_rfl) (fun _ _ _ h => h) (Or.inl ⟨rfl, fun w hw => by have hx := (box4g hw.1).2.2.1; go_simp⟩) HS ?_
    simp only [Act.put, qz4, qz5, qz6]
    refine wpAnyH_take (i := 4) rfl (by kernel_rfl) (by kernel_rfl) (by kernel_rfl) (fun _ _ _ h => h) (yields_arr (fun _ h => h.2.1) rfl _ rfl rfl Tryz.underlying168 size130) HS ?_; simp only [Act.put, qz4, qz5, qz6]
    refine wpAnyH_take (i := 5) rfl (by kernel_rfl) (by kernel_rfl) (by kernel_rfl) (fun _ _ _ h => h) (yields_look keyP Tryz.underlying96 zero3 (fun _ h => h.2.2) rfl _ _ _ rfl rfl rfl HK.out _ hl.out) HS ?_
    simp only [Act.put, qz4, qz5, qz6]
    refine wpAnyH_take (i := 6) (v := .tuple #[.int .i64 z, .bool true]) rfl (by kernel_rfl) (by kernel_rfl) (by kernel_rfl) (fun _ _ _ h => h) (Or.inl ⟨rfl, fun w _ => by go_simp⟩) HS ?_
    simp only [Act.put, qz4, qz5, qz6]
    refine wpAnyH_take (i := 7) (v := .int .i64 z) rfl (by kernel_rfl) (by kernel_rfl) (by kernel_rfl) (fun _ _ _ h => h) (Or.inl ⟨rfl, fun w _ => by go_simp⟩) HS ?_
    simp only [Act.put, qz4, qz5, qz6]
    refine wpAnyH_take (i := 8) (v := .bool true) rfl (by kernel_rfl) (by kernel_rfl) (by kernel_rfl) (fun _ _ _ h => h) (Or.inl ⟨rfl, fun w _ => by go_simp⟩) HS ?_
    simp only [Act.put, qz4, qz5, qz6]
    refine wpAnyH_take (i := 9) (v := .int .i64 z) rfl (by kernel_rfl) (by kernel_rfl) (by kernel_rfl) (fun _ _ _ h => h) (Or.inl ⟨rfl, fun w _ => by go_simp⟩) HS ?_
    simp only [Act.put, qz4, qz5, qz6]
    refine wpAnyH_take (i := 10) (v := .bool true) rfl (by kernel_rfl) (by kernel_rfl) (by kernel_rfl) (fun _ _ _ h => h) (Or.inl ⟨rfl, fun w _ => by go_simp⟩) HS ?_
    simp only [Act.put, qz4, qz5, qz6]
    refine wpAnyH_done (by kernel_rfl) ?_ _
    (repeat (first | (with_reducible first | refine xA ?_ | refine xB ?_ | refine xC ?_ | refine xD ?_ | refine xH ?_ | refine xI rfl ?_ | refine xE ?_ | refine xF ?_ | refine xG ?_) | go_values | go_skip | go_guarded | go_step | go_upon | go_back | ((with_reducible show Oper.upon _ _ _ _ _ _); go_simp) | (dsimp only)))
    go_ret
    exact ⟨rfl, HR⟩
end Go.Proofs.YtmaogkgjiplckaaGreat
namespace Go.Proofs.YtmaogkgjiplckaaGreat
open Go.RowKit
theorem SlsX.one {Y : Nat → Prop} {w : World} {x : Value} {l : List Int} (h : SlX Y w x l) : SlsX Y w [x] [l] := by
  refine ⟨rfl, fun i y m a b => ?_⟩
  rcases i with _ | i
  · simp at a b; subst a; subst b; exact h
  · simp at a
theorem slx_new {X : Nat → Prop} {base gb ma mx : Nat} {w w0 : World} {g : G} {v : Value} {xs : List Value} (h : GRep X base w0 gb g v ma mx xs) (hs : w0.heap.size ≤ w.heap.size) (l : List Int) (hl : l ≠ []) (s n : Nat) (es : s = w.heap.size) (en : n = l.length) :
    SlX (fun k => ¬ X k ∧ k ≠ gb ∧ some k ≠ v.ownBlock) (w.alloc (.cells (l.map (Value.int .i64)).toArray 3)) (.slice (some ⟨s, 0, none⟩) n n) l := by
  subst es; subst en
  obtain ⟨l1, l2, l3⟩ := h.lt
  refine ⟨_, l.length, rfl, Nat.le_refl _, by simp, fun _ => ⟨w.heap.size, 0, rfl, ⟨fun hx => by have := h.xb _ hx; omega, by omega, fun e => by have := (h.row.lt _ e.symm).2; omega⟩, by simp, fun i x hi => ?_⟩⟩
  rw [World.cell?_alloc_new]
  simp [hi]
theorem fresh_N {X : Nat → Prop} {base gb ma mx : Nat} {g : G} {v : Value} {xs : List Value} (w : World) (h : GRep X base w gb g v ma mx xs) (hn : Hid (g.n < 1048576)) (N : Int) (hN : Hid ((g.n : Int) + 1 = N)) :
    Calls Tryz.prog 106 #[.pointer (some ⟨gb, 0, none⟩)] w fun e w' => e = .returned (.int .i64 N) ∧ GRep X base w' gb ⟨g.n + 1, g.cl, g.an, g.xo⟩ v ma mx xs ∧ Kept X w w' := by
  rw [← hN.out]; exact fresh_any w h hn.out
theorem say_N {X : Nat → Prop} {base gb ma mx : Nat} {g : G} {v : Value} {xs : List Value} (w : World) (h : GRep X base w gb g v ma mx xs) (bq m : Nat) (ys : List Value) (cs : List (List Int)) (hm : Hid (m = ys.length ∧ 0 < m)) (hY : SlsX (fun k => ¬ X k ∧ k ≠ gb ∧ some k ≠ v.ownBlock) w ys cs)
    (hq : w.heap[bq]? = some (.cells ys.toArray 31 (0, 0))) (h1 : ∀ u ∈ ys, u.oneCell' = true) (hc : g.cl.length + cs.length ≤ 4 * g.n) (hb : base ≤ w.heap.size) :
    Calls Tryz.prog 133 #[.pointer (some ⟨gb, 0, none⟩), .slice (some ⟨bq, 0, none⟩) m m] w fun e w' => e = .returned (.tuple #[]) ∧ GR X base w' gb ⟨g.n, g.cl ++ cs, g.an, g.xo⟩ ∧ Kept X w w' := by
  obtain ⟨rfl, h0⟩ := hm.out
  exact say_any w h bq ys cs h0 hY hq h1 hc hb
abbrev W3 (w : World) (A B C : List Int) : World := ((w.alloc (.cells (A.map (Value.int .i64)).toArray 3)).alloc (.cells (B.map (Value.int .i64)).toArray 3)).alloc (.cells (C.map (Value.int .i64)).toArray 3)
theorem say3 {X : Nat → Prop} {base gb ma mx : Nat} {g : G} {v : Value} {xs : List Value} (w : World) (h : GRep X base w gb g v ma mx xs) (A B C : List Int) (hA : A ≠ []) (hB : B ≠ []) (hC : C ≠ []) (a b c : Nat) (ha : a = A.length) (hb : b = B.length) (hc : c = C.length)
    (hcl : g.cl.length + 3 ≤ 4 * g.n) (hba : base ≤ w.heap.size) :
    Calls Tryz.prog 133 #[.pointer (some ⟨gb, 0, none⟩), .slice (some ⟨w.heap.size + 1 + 1 + 1, 0, none⟩) 3 3] ((W3 w A B C).alloc (.cells #[.slice (some ⟨w.heap.size, 0, none⟩) a a, .slice (some ⟨w.heap.size + 1, 0, none⟩) b b, .slice (some ⟨w.heap.size + 1 + 1, 0, none⟩) c c] 31))
      fun e w' => e = .returned (.tuple #[]) ∧ GR X base w' gb ⟨g.n, g.cl ++ [A, B, C], g.an, g.xo⟩ ∧ Kept X w w' := by
  have s1 := slx_new h (Nat.le_refl _) A hA w.heap.size a rfl ha
  have s2 := slx_new (w := w.alloc (.cells (A.map (Value.int .i64)).toArray 3)) h (by simp) B hB (w.heap.size + 1) b (by simp) hb
  have s3 := slx_new (w := (w.alloc (.cells (A.map (Value.int .i64)).toArray 3)).alloc (.cells (B.map (Value.int .i64)).toArray 3)) h (by simp; omega) C hC (w.heap.size + 1 + 1) c (by simp) hc
  have al : ∀ (Z : Nat → Prop) (u : World) (o : Obj), Kept Z u (u.alloc o) := fun Z u o => (Kept.refl Z u).alloc o
  have hY := ((SlsX.one (((s1.kept (al _ _ (.cells (B.map (Value.int .i64)).toArray 3))).kept (al _ _ (.cells (C.map (Value.int .i64)).toArray 3))).kept (al _ _ (.cells #[.slice (some ⟨w.heap.size, 0, none⟩) a a, .slice (some ⟨w.heap.size + 1, 0, none⟩) b b, .slice (some ⟨w.heap.size + 1 + 1, 0, none⟩) c c] 31)))).append
    (SlsX.one ((s2.kept (al _ _ (.cells (C.map (Value.int .i64)).toArray 3))).kept (al _ _ (.cells #[.slice (some ⟨w.heap.size, 0, none⟩) a a, .slice (some ⟨w.heap.size + 1, 0, none⟩) b b, .slice (some ⟨w.heap.size + 1 + 1, 0, none⟩) c c] 31))))).append
    (SlsX.one (s3.kept (al _ _ (.cells #[.slice (some ⟨w.heap.size, 0, none⟩) a a, .slice (some ⟨w.heap.size + 1, 0, none⟩) b b, .slice (some ⟨w.heap.size + 1 + 1, 0, none⟩) c c] 31))))
  have hq := heap_alloc_new (W3 w A B C) (.cells #[.slice (some ⟨w.heap.size, 0, none⟩) a a, .slice (some ⟨w.heap.size + 1, 0, none⟩) b b, .slice (some ⟨w.heap.size + 1 + 1, 0, none⟩) c c] 31)
  have hsz : (W3 w A B C).heap.size = w.heap.size + 1 + 1 + 1 := by simp [W3]
  rw [hsz] at hq
  have hR := (((h.alloc (.cells (A.map (Value.int .i64)).toArray 3)).alloc (.cells (B.map (Value.int .i64)).toArray 3)).alloc (.cells (C.map (Value.int .i64)).toArray 3)).alloc (.cells #[.slice (some ⟨w.heap.size, 0, none⟩) a a, .slice (some ⟨w.heap.size + 1, 0, none⟩) b b, .slice (some ⟨w.heap.size + 1 + 1, 0, none⟩) c c] 31)
  refine (say_N _ hR _ 3 _ [A, B, C] (Lib.hid ⟨rfl, by decide⟩) hY hq ?_ (by simpa using hcl) (by simp; omega)).mono ?_
  · intro u hu
    simp at hu
    rcases hu with rfl | rfl | rfl <;> rfl
  · rintro e w' ⟨h1, h2, h3⟩
    exact ⟨h1, h2, ((((Kept.refl X w).alloc _).alloc _).alloc _ |>.alloc _).trans h3⟩
theorem say_and {X : Nat → Prop} {base gb ma mx : Nat} {g : G} {v : Value} {xs : List Value} (w : World) (h : GRep X base w gb g v ma mx xs) (N a b : Int) (hcl : g.cl.length + 3 ≤ 4 * g.n) (hba : base ≤ w.heap.size) :
    Calls Tryz.prog 133 #[.pointer (some ⟨gb, 0, none⟩), .slice (some ⟨w.heap.size + 1 + 1 + 1, 0, none⟩) 3 3] ((((w.alloc (.cells #[.int .i64 (-N), .int .i64 a] 3)).alloc (.cells #[.int .i64 (-N), .int .i64 b] 3)).alloc (.cells #[.int .i64 N, .int .i64 (-a), .int .i64 (-b)] 3)).alloc (.cells #[.slice (some ⟨w.heap.size, 0, none⟩) 2 2, .slice (some ⟨w.heap.size + 1, 0, none⟩) 2 2, .slice (some ⟨w.heap.size + 1 + 1, 0, none⟩) 3 3] 31))
      fun e w' => e = .returned (.tuple #[]) ∧ GR X base w' gb ⟨g.n, g.cl ++ [[-N, a], [-N, b], [N, -a, -b]], g.an, g.xo⟩ ∧ Kept X w w' :=
  say3 w h [-N, a] [-N, b] [N, -a, -b] (by simp) (by simp) (by simp) 2 2 3 rfl rfl rfl hcl hba
set_option maxRecDepth 100000 in
set_option maxHeartbeats 3000000 in
theorem both_new {X : Nat → Prop} {base gb ma mx : Nat} {g : G} {v : Value} {xs : List Value} (w : World) (h : GRep X base w gb g v ma mx xs) (x y a b : Int) (ha : -1048576 ≤ a ∧ a ≤ 1048576) (hb : -1048576 ≤ b ∧ b ≤ 1048576) (hab : (a = x ∧ b = y) ∨ (b = x ∧ a = y)) (hle : a ≤ b) (hr : bothKey a b = none) (hz : look g.an a b = none) (hn : g.n < 1048576) (hba : base ≤ w.heap.size) (N : Int) (hN : (g.n : Int) + 1 = N) :
    Calls Tryz.prog 112 #[.pointer (some ⟨gb, 0, none⟩), .int .i64 x, .int .i64 y] w fun e w' => e = .returned (.int .i64 N) ∧ GR X base w' gb ⟨g.n + 1, g.cl ++ [[-N, a], [-N, b], [N, -a, -b]], g.an ++ [((a, b), N)], g.xo⟩ ∧ Kept X w w' := by
  obtain ⟨f0, f0', f1, f1', f2, f3, f4, f5, f6⟩ := bothKey_no hr hle
  have hl : Hid ((if true then Value.tuple #[(getM (mapOf g.an) (a, b)).getD (.int .i64 0), .bool (getM (mapOf g.an) (a, b)).isSome] else (getM (mapOf g.an) (a, b)).getD (.int .i64 0)) = Value.tuple #[.int .i64 0, .bool false]) := Lib.hid (by rw [look_get, hz]; rfl)
  have h2 := h.own (.cells #[.int .i64 a, .int .i64 b] 168)
  have hkb := heap_alloc_new w (.cells #[.int .i64 a, .int .i64 b] 168)
  have HS0 := Lib.hid (show (fun u : World => u.heap[gb]? = some (.cells #[.int .i64 g.n, v, .map (some ma), .map (some mx)] 98 (0, 0)) ∧ u.heap[w.heap.size]? = some (.cells #[.int .i64 a, .int .i64 b] 168 (0, 0)) ∧ MapV encP okP u ma (mapOf g.an)) ({ (w.alloc (.cells #[.int .i64 a, .int .i64 b] 168)) with drawn := ((w.alloc (.cells #[.int .i64 a, .int .i64 b] 168))).drawn + 1 } : World) from ⟨h2.box, hkb, h2.an⟩)
  have HR := Lib.hid (show GRep (fun k => X k ∨ k = w.heap.size) base ({ (w.alloc (.cells #[.int .i64 a, .int .i64 b] 168)) with drawn := ((w.alloc (.cells #[.int .i64 a, .int .i64 b] 168))).drawn + 1 } : World) gb g v ma mx xs ∧ Kept (fun k => X k ∨ k = w.heap.size) w ({ (w.alloc (.cells #[.int .i64 a, .int .i64 b] 168)) with drawn := ((w.alloc (.cells #[.int .i64 a, .int .i64 b] 168))).drawn + 1 } : World) from ⟨h2.same ⟨rfl, rfl, rfl, Nat.le_refl _, fun _ _ _ => rfl⟩, ((Kept.refl _ w).alloc _).drew 1⟩)
  have HK := Lib.hid (key_of ha hb)
  have Hz := Lib.hid hz
  have HC := Lib.hid (show g.cl.length + 3 ≤ 4 * (g.n + 1) by have := h.cl; omega)
  have HBs := Lib.hid hba
  have Hn := Lib.hid hn
  have HN := Lib.hid hN
  have hN0 : 1 ≤ N := by omega
  have hN1 : N ≤ 1048576 := by omega
  clear h h2 hr hle hz hkb hn hba hN
  rcases hab with ⟨rfl, rfl⟩ | ⟨rfl, rfl⟩
  all_goals
    go_enter Tryz.func112, Tryz.ntmps112
    (repeat (first | (with_reducible first | refine xA ?_ | refine xB ?_ | refine xC ?_ | refine xD ?_ | refine xH ?_ | refine xI rfl ?_ | refine xE ?_ | refine xF ?_ | refine xG ?_) | go_values | go_skip | go_guarded | go_step | go_upon | go_back | ((with_reducible show Oper.upon _ _ _ _ _ _); go_simp) | (dsimp only)))
    refine wp_region_held (S := (fun u : World => u.heap[gb]? = some (.cells #[.int .i64 g.n, v, .map (some ma), .map (some mx)] 98 (0, 0)) ∧ u.heap[w.heap.size]? = some (.cells #[.int .i64 a, .int .i64 b] 168 (0, 0)) ∧ MapV encP okP u ma (mapOf g.an))) (by kernel_rfl) ?_
    have HS := HS0.out
    obtain ⟨hR, hK⟩ := HR.out
    clear HS0 HR
    generalize ({ (w.alloc _) with drawn := _ } : World) = u3 at *
    refine wpAnyH_take (i := 0) (v := .pointer (some ⟨gb, 0, none⟩)) rfl (by kernel_rfl) (by kernel_rfl) (by kernel_rfl) (fun _ _ _ h => h) (Or.inl ⟨rfl, fun w _ => by go_simp⟩) HS ?_; simp only [Act.put, qz1, qz2, qz3, qz4, qz5, qz6]; refine wpAnyH_take (i := 1) (v := .pointer (some ⟨gb, 0, none⟩)) rfl (by kernel_rfl) (by kernel_rfl) (by kernel_rfl) (fun _ _ _ h => h) (Or.inl ⟨rfl, fun w _ => by go_simp⟩) HS ?_; simp only [Act.put, qz1, qz2, qz3, qz4, qz5, qz6]
    refine wpAnyH_take (i := 2) (v := .pointer (some ⟨gb, 2, none⟩)) rfl (by kernel_rfl) (by kernel_rfl) (by kernel_rfl) (fun _ _ _ h => h) (Or.inl ⟨rfl, fun w _ => by go_simp⟩) HS ?_
    simp only [Act.put, qz1, qz2, qz3, qz4, qz5, qz6]
    refine wpAnyH_take (i := 3) (v := .map (some ma)) rfl (by kernel_rfl) (by kernel_rfl) (by kernel_rfl) (fun _ _ _ h => h) (Or.inl ⟨rfl, fun w hw => by have hx := (box4g hw.1).2.2.1; go_simp⟩) HS ?_
    simp only [Act.put, qz1, qz2, qz3, qz4, qz5, qz6]
    refine wpAnyH_take (i := 4) rfl (by kernel_rfl) (by kernel_rfl) (by kernel_rfl) (fun _ _ _ h => h) (yields_arr (fun _ h => h.2.1) rfl _ rfl rfl Tryz.underlying168 size130) HS ?_
    simp only [Act.put, qz1, qz2, qz3, qz4, qz5, qz6]
    refine wpAnyH_take (i := 5) rfl (by kernel_rfl) (by kernel_rfl) (by kernel_rfl) (fun _ _ _ h => h) (yields_look keyP Tryz.underlying96 zero3 (fun _ h => h.2.2) rfl _ _ _ rfl rfl rfl HK.out _ hl.out) HS ?_
    simp only [Act.put, qz1, qz2, qz3, qz4, qz5, qz6]
    refine wpAnyH_take (i := 6) (v := .tuple #[.int .i64 0, .bool false]) rfl (by kernel_rfl) (by kernel_rfl) (by kernel_rfl) (fun _ _ _ h => h) (Or.inl ⟨rfl, fun w _ => by go_simp⟩) HS ?_
    simp only [Act.put, qz1, qz2, qz3, qz4, qz5, qz6]
    refine wpAnyH_take (i := 7) (v := .int .i64 0) rfl (by kernel_rfl) (by kernel_rfl) (by kernel_rfl) (fun _ _ _ h => h) (Or.inl ⟨rfl, fun w _ => by go_simp⟩) HS ?_
    simp only [Act.put, qz1, qz2, qz3, qz4, qz5, qz6]
    refine wpAnyH_take (i := 8) (v := .bool false) rfl (by kernel_rfl) (by kernel_rfl) (by kernel_rfl) (fun _ _ _ h => h) (Or.inl ⟨rfl, fun w _ => by go_simp⟩) HS ?_
    simp only [Act.put, qz1, qz2, qz3, qz4, qz5, qz6]
    refine wpAnyH_take (i := 9) (v := .int .i64 0) rfl (by kernel_rfl) (by kernel_rfl) (by kernel_rfl) (fun _ _ _ h => h) (Or.inl ⟨rfl, fun w _ => by go_simp⟩) HS ?_
    simp only [Act.put, qz1, qz2, qz3, qz4, qz5, qz6]
    refine wpAnyH_take (i := 10) (v := .bool false) rfl (by kernel_rfl) (by kernel_rfl) (by kernel_rfl) (fun _ _ _ h => h) (Or.inl ⟨rfl, fun w _ => by go_simp⟩) HS ?_
    simp only [Act.put, qz1, qz2, qz3, qz4, qz5, qz6]
    refine wpAnyH_done (by kernel_rfl) ?_ _
    have hkb := HS.2.1
    clear HS hl
    (repeat (first | (with_reducible first | refine xA ?_ | refine xB ?_ | refine xC ?_ | refine xD ?_ | refine xH ?_ | refine xI rfl ?_ | refine xE ?_ | refine xF ?_ | refine xG ?_) | go_skip | go_guarded | (go_at_call 106; (with_reducible refine (fresh_N _ hR Hn N HN).mono ?_); rintro _ w1 ⟨rfl, hR1, hk1⟩; replace hK := hK.trans hk1; replace hkb := hk1.at hkb (.inr rfl); have hsz1 := hk1.size; clear hR hk1) | (go_at_call 133; (with_reducible refine (say_and _ hR1 N a b HC.out (Nat.le_trans HBs.out hK.size)).mono ?_); rintro _ w2 ⟨rfl, hG, hk2⟩; replace hK := hK.trans hk2; replace hkb := hk2.at hkb (.inr rfl); clear hR1 hk2; obtain ⟨v2, ma2, mx2, xs2, hR2⟩ := hG) | go_values | go_skip | go_guarded | go_step | go_upon | go_back | ((with_reducible show Oper.upon _ _ _ _ _ _); go_simp) | (dsimp only)))
    refine wp_region_held (S := (fun u : World => u.heap[gb]? = some (.cells #[.int .i64 (g.n + 1 : Nat), v2, .map (some ma2), .map (some mx2)] 98 (0, 0)) ∧ u.heap[w.heap.size]? = some (.cells #[.int .i64 a, .int .i64 b] 168 (0, 0)))) (by kernel_rfl) ?_
    have HS : (fun u : World => u.heap[gb]? = some (.cells #[.int .i64 (g.n + 1 : Nat), v2, .map (some ma2), .map (some mx2)] 98 (0, 0)) ∧ u.heap[w.heap.size]? = some (.cells #[.int .i64 a, .int .i64 b] 168 (0, 0))) ({ w2 with drawn := w2.drawn + 1 } : World) := ⟨hR2.box, hkb⟩
    have hR3 : GRep _ base ({ w2 with drawn := w2.drawn + 1 } : World) gb _ v2 ma2 mx2 xs2 := hR2.same ⟨rfl, rfl, rfl, Nat.le_refl _, fun _ _ _ => rfl⟩
    replace hK : Kept _ w ({ w2 with drawn := w2.drawn + 1 } : World) := hK.drew 1
    clear hkb hR2
    generalize ({ w2 with drawn := w2.drawn + 1 } : World) = u4 at *
    refine wpAnyH_take (i := 0) (v := .pointer (some ⟨gb, 0, none⟩)) rfl (by kernel_rfl) (by kernel_rfl) (by kernel_rfl) (fun _ _ _ h => h) (Or.inl ⟨rfl, fun w _ => by go_simp⟩) HS ?_; simp only [Act.put, qz1, qz2, qz3, qz4, qz5, qz6]; refine wpAnyH_take (i := 1) (v := .pointer (some ⟨gb, 0, none⟩)) rfl (by kernel_rfl) (by kernel_rfl) (by kernel_rfl) (fun _ _ _ h => h) (Or.inl ⟨rfl, fun w _ => by go_simp⟩) HS ?_; simp only [Act.put, qz1, qz2, qz3, qz4, qz5, qz6]
    refine wpAnyH_take (i := 2) (v := .pointer (some ⟨gb, 2, none⟩)) rfl (by kernel_rfl) (by kernel_rfl) (by kernel_rfl) (fun _ _ _ h => h) (Or.inl ⟨rfl, fun w _ => by go_simp⟩) HS ?_
    simp only [Act.put, qz1, qz2, qz3, qz4, qz5, qz6]
    refine wpAnyH_take (i := 3) (v := .map (some ma2)) rfl (by kernel_rfl) (by kernel_rfl) (by kernel_rfl) (fun _ _ _ h => h) (Or.inl ⟨rfl, fun w hw => by have hx := (box4g hw.1).2.2.1; go_simp⟩) HS ?_
    simp only [Act.put, qz1, qz2, qz3, qz4, qz5, qz6]
    refine wpAnyH_take (i := 4) rfl (by kernel_rfl) (by kernel_rfl) (by kernel_rfl) (fun _ _ _ h => h) (yields_arr (fun _ h => h.2) rfl _ rfl rfl Tryz.underlying168 size130) HS ?_
    simp only [Act.put, qz1, qz2, qz3, qz4, qz5, qz6]
    refine wpAnyH_take (i := 5) (v := .int .i64 N) rfl (by kernel_rfl) (by kernel_rfl) (by kernel_rfl) (fun _ _ _ h => h) (Or.inl ⟨rfl, fun w _ => by go_simp⟩) HS ?_
    simp only [Act.put, qz1, qz2, qz3, qz4, qz5, qz6]
    refine wpAnyH_all (rs := [6]) (by kernel_rfl) (by simp) (fun i hi => ?_)
    obtain rfl : i = 6 := by simpa using hi
    refine wpOp_one rfl ?_
    have hM3 := hR3.an
    (repeat (first | (with_reducible first | refine xA ?_ | refine xB ?_ | refine xC ?_ | refine xD ?_ | refine xH ?_ | refine xI rfl ?_ | refine xE ?_ | refine xF ?_ | refine xG ?_) | go_skip | go_guarded | ((with_reducible refine wl_id ?_); refine wl_mapUpdate rfl _ _ _ 96 rfl _ _ keyP Tryz.underlying96 ma2 _ rfl hM3 (a, b) rfl HK.out (.int .i64 N) rfl ?_; intro w5 hM hg; clear hM3; (try simp only [Act.put, qz4, qz5, qz6])) | go_values | go_skip | go_guarded | go_step | go_upon | go_back | ((with_reducible show Oper.upon _ _ _ _ _ _); go_simp) | (dsimp only)))
    rw [put_new Hz.out] at hM
    obtain ⟨hR4, hk4⟩ := hR3.putA hg hM
    refine ⟨⟨hR4.box, hk4.at HS.2 (.inr rfl)⟩, ?_⟩
    refine wpAnyH_done (by kernel_rfl) ?_ _
    (repeat (first | (with_reducible first | refine xA ?_ | refine xB ?_ | refine xC ?_ | refine xD ?_ | refine xH ?_ | refine xI rfl ?_ | refine xE ?_ | refine xF ?_ | refine xG ?_) | go_values | go_skip | go_guarded | go_step | go_upon | go_back | ((with_reducible show Oper.upon _ _ _ _ _ _); go_simp) | (dsimp only)))
    go_ret
    exact ⟨rfl, ⟨_, _, _, _, hR4.less fun k hk => .inl hk⟩, (hK.trans hk4).mono fun k _ hk => .inl hk⟩
end Go.Proofs.YtmaogkgjiplckaaGreat

