import Derived.Test.YtmaogkgjiplckaaP3
set_option linter.unusedSimpArgs false
set_option linter.unusedVariables false
namespace Go.Proofs.Ytmaogkgjiplckaa
open Go.RowKit

theorem der_true {g : G} {fr : List Int} {s : Nat → Bool} (h : GI g fr s) {x : Int} (hd : Der g.cl fr x) : isL g.n x ∧ lit s x = true := by
  induction hd with
  | base x hx => exact h.frm x hx
  | unit c x hc hx _ ih =>
    have hr := h.rng c hc x hx
    refine ⟨hr, ?_⟩
    obtain ⟨z, hz, hl⟩ := h.sat c hc
    by_cases e : z = x
    · subst e; exact hl
    · have := (ih z hz e).2
      rw [lit_neg (h.rng c hc z hz).1, hl] at this
      cases this
theorem no_conflict {g : G} {fr : List Int} {s : Nat → Bool} (h : GI g fr s) : ¬ Conflict g.cl fr := by
  rintro (⟨x, hx, hd⟩ | ⟨c, hc, hd⟩)
  · have h1 := h.frm x hx
    have h2 := (der_true h hd).2
    rw [lit_neg h1.1.1, h1.2] at h2
    cases h2
  · obtain ⟨z, hz, hl⟩ := h.sat c hc
    have h2 := (der_true h (hd z hz)).2
    rw [lit_neg (h.rng c hc z hz).1, hl] at h2
    cases h2

/-- all variables, told -/
def toldL (n : Nat) (s : Nat → Bool) : List Int := (List.range n).map fun i => if s (i + 1) then ((i : Int) + 1) else -((i : Int) + 1)
theorem toldL_len (n : Nat) (s : Nat → Bool) : (toldL n s).length = n := by simp [toldL]
theorem toldL_get (n : Nat) (s : Nat → Bool) (i : Nat) (h : i < n) : (toldL n s)[i]? = some (if s (i + 1) then ((i : Int) + 1) else -((i : Int) + 1)) := by
  simp [toldL, h]
theorem mem_told {n : Nat} {s : Nat → Bool} {x : Int} : x ∈ toldL n s ↔ isL n x ∧ lit s x = true := by
  unfold toldL
  rw [List.mem_map]
  constructor
  · rintro ⟨i, hi, rfl⟩
    rw [List.mem_range] at hi
    cases hs : s (i + 1)
    · simp only [Bool.false_eq_true, if_false]
      refine ⟨⟨by omega, by omega, by omega⟩, ?_⟩
      unfold lit
      rw [if_neg (by omega), show (- -((i : Int) + 1)).toNat = i + 1 by omega, hs]; rfl
    · simp only [if_true]
      refine ⟨⟨by omega, by omega, by omega⟩, ?_⟩
      unfold lit
      rw [if_pos (by omega), show ((i : Int) + 1).toNat = i + 1 by omega, hs]
  · rintro ⟨⟨h0, h1, h2⟩, hl⟩
    unfold lit at hl
    split at hl
    · refine ⟨x.toNat - 1, by rw [List.mem_range]; omega, ?_⟩
      rw [show x.toNat - 1 + 1 = x.toNat by omega, hl, if_pos rfl]; omega
    · refine ⟨(-x).toNat - 1, by rw [List.mem_range]; omega, ?_⟩
      have : s (-x).toNat = false := by simpa using hl
      rw [show (-x).toNat - 1 + 1 = (-x).toNat by omega, this, if_neg (by simp)]; omega

/-- two lists that rise strictly and have the same in them are the same -/
theorem rise_eq {f : Int → Int} : ∀ (a b : List Int), a.Pairwise (fun x y => f x < f y) → b.Pairwise (fun x y => f x < f y) → (∀ x, x ∈ a ↔ x ∈ b) → a = b := by
  intro a
  induction a with
  | nil =>
    intro b _ _ h
    cases b with
    | nil => rfl
    | cons y b => exact absurd ((h y).2 List.mem_cons_self) (by simp)
  | cons x a ih =>
    intro b ha hb h
    cases b with
    | nil => exact absurd ((h x).1 List.mem_cons_self) (by simp)
    | cons y b =>
      rw [List.pairwise_cons] at ha hb
      have hxy : x = y := by
        rcases List.mem_cons.1 ((h x).1 List.mem_cons_self) with e | e
        · exact e
        · rcases List.mem_cons.1 ((h y).2 List.mem_cons_self) with e2 | e2
          · exact e2.symm
          · have h1 := hb.1 x e
            have h2 := ha.1 y e2
            omega
      subst hxy
      rw [ih b ha.2 hb.2 ?_]
      intro z
      constructor
      · intro hz
        rcases List.mem_cons.1 ((h z).1 (List.mem_cons_of_mem _ hz)) with e | e
        · subst e; have := ha.1 z hz; omega
        · exact e
      · intro hz
        rcases List.mem_cons.1 ((h z).2 (List.mem_cons_of_mem _ hz)) with e | e
        · subst e; have := hb.1 z hz; omega
        · exact e
theorem told_rise (n : Nat) (s : Nat → Bool) : (toldL n s).Pairwise (fun x y => absI x < absI y) := by
  unfold toldL
  rw [List.pairwise_map]
  refine List.Pairwise.imp ?_ (List.pairwise_lt_range (n := n))
  intro i j hij
  unfold absI
  split <;> split <;> split <;> split <;> omega
/-- what is sorted by variables, and has each literal that follows, tells all variables -/
theorem told_of {g : G} {fr : List Int} {s : Nat → Bool} (h : GI g fr s) {is out : List Int} (hi : ∀ x, x ∈ is ↔ Der g.cl fr x) (hcons : ∀ x ∈ is, -x ∉ is) (hnod : is.Nodup) (hp : out.Perm is) (hs : out.Pairwise (fun x y => absI x ≤ absI y)) : out = toldL g.n s := by
  have hno : out.Nodup := hp.nodup_iff.2 hnod
  have hmem : ∀ x, x ∈ out ↔ Der g.cl fr x := fun x => (hp.mem_iff).trans (hi x)
  have hst : out.Pairwise (fun x y => absI x < absI y) := by
    have hb : out.Pairwise (fun x y => absI x ≤ absI y ∧ x ≠ y) := List.Pairwise.and hs hno
    refine hb.imp_of_mem ?_
    intro x y hx hy ⟨hle, hne⟩
    have h1 : -x ∉ is := hcons x (hp.mem_iff.1 hx)
    have hy' := hp.mem_iff.1 hy
    have : absI x ≠ absI y := by
      intro e
      have : y = x ∨ y = -x := by unfold absI at e; split at e <;> split at e <;> omega
      rcases this with e | e
      · exact hne e.symm
      · exact h1 (e ▸ hy')
    omega
  refine rise_eq (f := absI) _ _ hst (told_rise _ _) (fun x => ?_)
  rw [hmem x, mem_told]
  constructor
  · exact der_true h
  · rintro ⟨h1, h2⟩; exact h.der h1 h2

/-- is a literal told, and true? -/
def isP (all : List Int) (x : Int) : Bool × Bool :=
  let v := absI x
  if v < 1 ∨ (all.length : Int) < v then (false, false) else
  let e := all.getD (v - 1).toNat 0
  if e ≠ v ∧ e ≠ -v then (false, false) else (decide (e = x), true)
theorem isP_told {n : Nat} {s : Nat → Bool} {x : Int} (h : isL n x) : isP (toldL n s) x = (lit s x, true) := by
  obtain ⟨h0, h1, h2⟩ := h
  unfold isP
  dsimp only
  have ha : 1 ≤ absI x ∧ absI x ≤ n := by unfold absI; split <;> omega
  rw [toldL_len, if_neg (by omega)]
  have hg : (toldL n s).getD (absI x - 1).toNat 0 = if s (absI x).toNat then absI x else -absI x := by
    rw [List.getD_eq_getElem?_getD, toldL_get _ _ _ (by omega), show (absI x - 1).toNat + 1 = (absI x).toNat by omega, Option.getD_some, show (((absI x - 1).toNat : Nat) : Int) + 1 = absI x by omega]
  rw [hg]
  unfold lit absI
  by_cases hx : 0 < x
  · rw [if_neg (show ¬ x < 0 by omega), if_pos hx]
    cases hs : s x.toNat
    · simp only [Bool.false_eq_true, if_false]
      rw [if_neg (by simp), decide_eq_false (by omega)]
    · simp only [if_true]
      rw [if_neg (by simp)]; simp
  · rw [if_pos (show x < 0 by omega), if_neg hx]
    cases hs : s (-x).toNat
    · simp only [Bool.false_eq_true, if_false, Int.neg_neg]
      rw [if_neg (by omega)]; simp
    · simp only [if_true]
      rw [if_neg (by simp), decide_eq_false (by omega)]; rfl

/-- a word's number, the lowest bit first -/
def bv : List Bool → Nat
  | [] => 0
  | b :: l => (if b then 1 else 0) + 2 * bv l
def wordP (all l : List Int) : Nat × Bool :=
  if 64 < l.length then (0, false) else
  if l.all fun x => (isP all x).2 then (bv (l.map fun x => (isP all x).1), true) else (0, false)
theorem wordP_told {n : Nat} {s : Nat → Bool} {l : List Int} (h : ∀ x ∈ l, isL n x) (hl : l.length ≤ 64) : wordP (toldL n s) l = (bv (l.map (lit s)), true) := by
  unfold wordP
  rw [if_neg (by omega), if_pos]
  · congr 2
    exact List.map_congr_left fun x hx => by rw [isP_told (h x hx)]
  · rw [List.all_eq_true]
    intro x hx
    rw [isP_told (h x hx)]
theorem bv_lt (l : List Bool) : bv l < 2 ^ l.length := by
  induction l with
  | nil => simp [bv]
  | cons b l ih =>
    rw [bv, List.length_cons, Nat.pow_succ]
    split <;> omega

end Go.Proofs.Ytmaogkgjiplckaa
