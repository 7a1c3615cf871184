import Derived.Lib.Hide
set_option linter.unusedSimpArgs false
set_option linter.unusedVariables false
namespace Go.Proofs.Ytmaogkgjiplckaa
open Go.RowKit

/-! the gates, plain: no program in sight -/
structure G where
  n : Nat
  cl : List (List Int)
  an : List ((Int × Int) × Int)
  xo : List ((Int × Int) × Int)
def look (m : List ((Int × Int) × Int)) (a b : Int) : Option Int := (m.find? fun e => decide (e.1 = (a, b))).map (·.2)

def bothKey (a b : Int) : Option Int :=
  if a = b ∨ b = 1 then some a else if a = -b ∨ a = -1 then some (-1) else if a = 1 then some b else if b = -1 then some (-1) else none
def bothS (g : G) (a b : Int) : G × Int :=
  match bothKey a b with
  | some r => (g, r)
  | none => match look g.an a b with
    | some z => (g, z)
    | none => (⟨g.n + 1, g.cl ++ [[-(g.n + 1 : Int), a], [-(g.n + 1 : Int), b], [(g.n + 1 : Int), -a, -b]], g.an ++ [((a, b), (g.n + 1 : Int))], g.xo⟩, (g.n + 1 : Int))
def both (g : G) (x y : Int) : G × Int := bothS g (min x y) (max x y)
def oddKey (a b s : Int) : Option Int := if a = b then some (-1 * s) else if a = 1 then some (-b * s) else none
def oddS (g : G) (a b s : Int) : G × Int :=
  match oddKey a b s with
  | some r => (g, r)
  | none => match look g.xo a b with
    | some z => (g, z * s)
    | none => (⟨g.n + 1, g.cl ++ [[-(g.n + 1 : Int), a, b], [-(g.n + 1 : Int), -a, -b], [(g.n + 1 : Int), -a, b], [(g.n + 1 : Int), a, -b]], g.an, g.xo ++ [((a, b), (g.n + 1 : Int))]⟩, (g.n + 1 : Int) * s)
def absI (x : Int) : Int := if x < 0 then -x else x
def sgn2 (x y : Int) : Int := (if x < 0 then -1 else 1) * (if y < 0 then -1 else 1)
def odd (g : G) (x y : Int) : G × Int := oddS g (min (absI x) (absI y)) (max (absI x) (absI y)) (sgn2 x y)
def either (g : G) (x y : Int) : G × Int := let r := both g (-x) (-y); (r.1, -r.2)
def choice (g : G) (c x y : Int) : G × Int :=
  if x = y then (g, x) else
  let a := both g c x
  let b := both a.1 (-c) y
  either b.1 a.2 b.2
def free (g : G) : G × Int := (⟨g.n + 1, g.cl, g.an, g.xo⟩, (g.n + 1 : Int))
def newG : G := ⟨1, [[1]], [], []⟩

/-- what a literal is worth -/
def lit (s : Nat → Bool) (x : Int) : Bool := if 0 < x then s x.toNat else !s (-x).toNat
def isL (n : Nat) (x : Int) : Prop := x ≠ 0 ∧ x ≤ n ∧ -x ≤ n
/-- what follows by single literals -/
inductive Der (cl : List (List Int)) (fr : List Int) : Int → Prop
  | base (x : Int) : x ∈ fr → Der cl fr x
  | unit (c : List Int) (x : Int) : c ∈ cl → x ∈ c → (∀ y ∈ c, y ≠ x → Der cl fr (-y)) → Der cl fr x
theorem Der.mono {cl cl' : List (List Int)} {fr fr' : List Int} {x : Int} (h : Der cl fr x) (h1 : ∀ c ∈ cl, c ∈ cl') (h2 : ∀ x ∈ fr, x ∈ fr') : Der cl' fr' x := by
  induction h with
  | base x hx => exact .base x (h2 x hx)
  | unit c x hc hx _ ih => exact .unit c x (h1 c hc) hx ih

theorem lit_neg {s : Nat → Bool} {x : Int} (h : x ≠ 0) : lit s (-x) = !lit s x := by
  unfold lit
  by_cases h1 : 0 < x
  · rw [if_neg (by omega), if_pos h1, Int.neg_neg]
  · rw [if_pos (by omega), if_neg h1, Bool.not_not]
theorem lit_agree {s t : Nat → Bool} {n : Nat} (h : ∀ v, v ≤ n → t v = s v) {x : Int} (hx : isL n x) : lit t x = lit s x := by
  unfold lit
  obtain ⟨h0, h1, h2⟩ := hx
  split
  · exact h _ (by omega)
  · rw [h _ (by omega)]
theorem isL.neg {n : Nat} {x : Int} (h : isL n x) : isL n (-x) := ⟨by have := h.1; omega, h.2.2, by have := h.2.1; omega⟩
theorem isL.mono {n m : Nat} {x : Int} (h : isL n x) (hm : n ≤ m) : isL m x := ⟨h.1, by have := h.2.1; omega, by have := h.2.2; omega⟩

/-- the gates' ground: each clause is met, each variable follows -/
structure GI (g : G) (fr : List Int) (s : Nat → Bool) : Prop where
  pos : 1 ≤ g.n
  one : s 1 = true
  sat : ∀ c ∈ g.cl, ∃ x ∈ c, lit s x = true
  rng : ∀ c ∈ g.cl, ∀ x ∈ c, isL g.n x
  det : ∀ v : Nat, 1 ≤ v → v ≤ g.n → Der g.cl fr (if s v then (v : Int) else -(v : Int))
  frm : ∀ x ∈ fr, isL g.n x ∧ lit s x = true
  an : ∀ e ∈ g.an, isL g.n e.1.1 ∧ isL g.n e.1.2 ∧ isL g.n e.2 ∧ lit s e.2 = (lit s e.1.1 && lit s e.1.2)
  xo : ∀ e ∈ g.xo, isL g.n e.1.1 ∧ isL g.n e.1.2 ∧ isL g.n e.2 ∧ lit s e.2 = (lit s e.1.1 != lit s e.1.2)
  len : ∀ c ∈ g.cl, c.length ≤ 3

theorem GI.der {g : G} {fr : List Int} {s : Nat → Bool} (h : GI g fr s) {x : Int} (hx : isL g.n x) (ht : lit s x = true) : Der g.cl fr x := by
  obtain ⟨h0, h1, h2⟩ := hx
  unfold lit at ht
  split at ht
  · have := h.det x.toNat (by omega) (by omega)
    rw [ht, if_pos rfl] at this
    rwa [show ((x.toNat : Nat) : Int) = x by omega] at this
  · have := h.det (-x).toNat (by omega) (by omega)
    have hf : s (-x).toNat = false := by simpa using ht
    rw [hf, if_neg (by simp)] at this
    rwa [show -(((-x).toNat : Nat) : Int) = x by omega] at this
theorem GI.derN {g : G} {fr : List Int} {s : Nat → Bool} (h : GI g fr s) {x : Int} (hx : isL g.n x) (ht : lit s x = false) : Der g.cl fr (-x) :=
  h.der hx.neg (by rw [lit_neg hx.1, ht]; rfl)

/-- a step from one state to a later one -/
structure Step (g : G) (s : Nat → Bool) (g' : G) (s' : Nat → Bool) : Prop where
  le : g.n ≤ g'.n
  agree : ∀ v, v ≤ g.n → s' v = s v
theorem Step.refl (g : G) (s : Nat → Bool) : Step g s g s := ⟨Nat.le_refl _, fun _ _ => rfl⟩
theorem Step.trans {g g' g'' : G} {s s' s'' : Nat → Bool} (h : Step g s g' s') (k : Step g' s' g'' s'') : Step g s g'' s'' :=
  ⟨Nat.le_trans h.le k.le, fun v hv => (k.agree v (Nat.le_trans hv h.le)).trans (h.agree v hv)⟩
theorem Step.lit {g g' : G} {s s' : Nat → Bool} (h : Step g s g' s') {x : Int} (hx : isL g.n x) : lit s' x = lit s x := lit_agree h.agree hx
theorem Step.isL {g g' : G} {s s' : Nat → Bool} (h : Step g s g' s') {x : Int} (hx : isL g.n x) : isL g'.n x := hx.mono h.le

/-- a variable more, with clauses that tell it -/
theorem GI.grow {g : G} {fr : List Int} {s : Nat → Bool} (h : GI g fr s) (b : Bool) (cs : List (List Int)) (an xo : List ((Int × Int) × Int)) (fr' : List Int) (s' : Nat → Bool) (hs' : s' = fun v => if v = g.n + 1 then b else s v)
    (hsat : ∀ c ∈ cs, ∃ x ∈ c, lit s' x = true) (hrng : ∀ c ∈ cs, ∀ x ∈ c, isL (g.n + 1) x) (hfr : ∀ x ∈ fr, x ∈ fr') (hfr' : ∀ x ∈ fr', x ∉ fr → isL (g.n + 1) x ∧ lit s' x = true)
    (hdet : Der (g.cl ++ cs) fr' (if b then ((g.n + 1 : Nat) : Int) else -((g.n + 1 : Nat) : Int)))
    (hlen : ∀ c ∈ cs, c.length ≤ 3)
    (han : ∀ e ∈ an, isL (g.n + 1) e.1.1 ∧ isL (g.n + 1) e.1.2 ∧ isL (g.n + 1) e.2 ∧ lit s' e.2 = (lit s' e.1.1 && lit s' e.1.2))
    (hxo : ∀ e ∈ xo, isL (g.n + 1) e.1.1 ∧ isL (g.n + 1) e.1.2 ∧ isL (g.n + 1) e.2 ∧ lit s' e.2 = (lit s' e.1.1 != lit s' e.1.2)) :
    GI ⟨g.n + 1, g.cl ++ cs, g.an ++ an, g.xo ++ xo⟩ fr' s' ∧ (∀ v, v ≤ g.n → s' v = s v) := by
  have hag : ∀ v, v ≤ g.n → s' v = s v := by
    intro v hv
    subst hs'
    show (if v = g.n + 1 then b else s v) = s v
    rw [if_neg (by omega)]
  refine ⟨⟨by show 1 ≤ g.n + 1; omega, by rw [hag 1 h.pos]; exact h.one, ?_, ?_, ?_, ?_, ?_, ?_, fun c hc => (List.mem_append.1 hc).elim (h.len c) (hlen c)⟩, hag⟩
  · intro c hc
    rcases List.mem_append.1 hc with hc | hc
    · obtain ⟨x, hx, hl⟩ := h.sat c hc
      exact ⟨x, hx, by rw [lit_agree hag (h.rng c hc x hx)]; exact hl⟩
    · exact hsat c hc
  · intro c hc x hx
    rcases List.mem_append.1 hc with hc | hc
    · exact (h.rng c hc x hx).mono (Nat.le_succ _)
    · exact hrng c hc x hx
  · intro v h1 h2
    by_cases e : v = g.n + 1
    · subst e
      have : s' (g.n + 1) = b := by subst hs'; simp
      rw [this]
      exact hdet
    · have hv : v ≤ g.n := by have : v ≤ g.n + 1 := h2; omega
      rw [hag v hv]
      exact (h.det v h1 hv).mono (fun c hc => List.mem_append_left _ hc) hfr
  · intro x hx
    by_cases e : x ∈ fr
    · have := h.frm x e
      exact ⟨this.1.mono (Nat.le_succ _), by rw [lit_agree hag this.1]; exact this.2⟩
    · exact hfr' x hx e
  · intro e he
    rcases List.mem_append.1 he with he | he
    · obtain ⟨a1, a2, a3, a4⟩ := h.an e he
      exact ⟨a1.mono (Nat.le_succ _), a2.mono (Nat.le_succ _), a3.mono (Nat.le_succ _), by rw [lit_agree hag a1, lit_agree hag a2, lit_agree hag a3]; exact a4⟩
    · exact han e he
  · intro e he
    rcases List.mem_append.1 he with he | he
    · obtain ⟨a1, a2, a3, a4⟩ := h.xo e he
      exact ⟨a1.mono (Nat.le_succ _), a2.mono (Nat.le_succ _), a3.mono (Nat.le_succ _), by rw [lit_agree hag a1, lit_agree hag a2, lit_agree hag a3]; exact a4⟩
    · exact hxo e he

end Go.Proofs.Ytmaogkgjiplckaa
