import Derived.Test.YtmaogkgjiplckaaP1
set_option linter.unusedSimpArgs false
set_option linter.unusedVariables false
namespace Go.Proofs.Ytmaogkgjiplckaa
open Go.RowKit

def sgB (sg : Int) (b : Bool) : Bool := if sg = 1 then b else !b
theorem lit_mul {s : Nat → Bool} {x sg : Int} (h : x ≠ 0) (hs : sg = 1 ∨ sg = -1) : lit s (x * sg) = sgB sg (lit s x) := by
  rcases hs with rfl | rfl
  · simp [sgB]
  · rw [show x * -1 = -x by omega, lit_neg h]; simp [sgB]
theorem isL_mul {n : Nat} {x sg : Int} (h : isL n x) (hs : sg = 1 ∨ sg = -1) : isL n (x * sg) := by
  rcases hs with rfl | rfl
  · simpa using h
  · rw [show x * -1 = -x by omega]; exact h.neg

theorem oddKey_ok {g : G} {fr : List Int} {s : Nat → Bool} (h : GI g fr s) {a b r sg : Int} (ha : isL g.n a) (hb : isL g.n b) (hs : sg = 1 ∨ sg = -1) (hr : oddKey a b sg = some r) : isL g.n r ∧ lit s r = sgB sg (lit s a != lit s b) := by
  unfold oddKey at hr
  split at hr
  · rename_i c; cases hr
    subst c
    exact ⟨isL_mul (isL_no h) hs, by rw [lit_mul (by decide) hs, lit_no h]; simp⟩
  split at hr
  · rename_i c; cases hr
    subst c
    refine ⟨isL_mul hb.neg hs, ?_⟩
    rw [lit_mul hb.neg.1 hs, lit_neg hb.1, lit_one h]
    simp
  · cases hr

theorem oddS_ok {g : G} {fr : List Int} {s : Nat → Bool} (h : GI g fr s) {a b sg : Int} (ha : isL g.n a) (hb : isL g.n b) (hs : sg = 1 ∨ sg = -1) :
    ∃ s', GI (oddS g a b sg).1 fr s' ∧ Step g s (oddS g a b sg).1 s' ∧ (oddS g a b sg).1.n ≤ g.n + 1 ∧ isL (oddS g a b sg).1.n (oddS g a b sg).2 ∧ lit s' (oddS g a b sg).2 = sgB sg (lit s a != lit s b) := by
  unfold oddS
  rcases hk : oddKey a b sg with _ | r
  · rcases hl : look g.xo a b with _ | z
    · dsimp only
      obtain ⟨t, ht⟩ : ∃ t : Nat → Bool, t = fun v => if v = g.n + 1 then (lit s a != lit s b) else s v := ⟨_, rfl⟩
      have hag : ∀ v, v ≤ g.n → t v = s v := by intro v hv; subst ht; show (if v = g.n + 1 then _ else s v) = s v; rw [if_neg (by omega)]
      have hz : t (g.n + 1) = (lit s a != lit s b) := by subst ht; simp
      have ea := lit_agree hag ha
      have eb := lit_agree hag hb
      have hLz : isL (g.n + 1) ((g.n : Int) + 1) := ⟨by omega, by omega, by omega⟩
      have hzp : lit t ((g.n : Int) + 1) = (lit s a != lit s b) := by rw [lit_self, hz]
      have hza : lit t (-((g.n : Int) + 1)) = !(lit s a != lit s b) := by rw [lit_neg hLz.1, hzp]
      have hna : lit t (-a) = !lit s a := by rw [lit_neg ha.1, ea]
      have hnb : lit t (-b) = !lit s b := by rw [lit_neg hb.1, eb]
      have G1 := h.grow (lit s a != lit s b) [[-(g.n + 1 : Int), a, b], [-(g.n + 1 : Int), -a, -b], [(g.n + 1 : Int), -a, b], [(g.n + 1 : Int), a, -b]] [] [((a, b), (g.n + 1 : Int))] fr t ht ?_ ?_ (fun _ hx => hx) (fun x hx hn => absurd hx hn) ?_ (by simp) (by simp) ?_
      · rw [List.append_nil] at G1
        refine ⟨t, G1.1, ⟨Nat.le_succ _, G1.2⟩, Nat.le_refl _, isL_mul hLz hs, ?_⟩
        rw [lit_mul hLz.1 hs, hzp]
      · intro c hc
        simp only [List.mem_cons, List.not_mem_nil, or_false] at hc
        cases hA : lit s a <;> cases hB : lit s b <;> rw [hA, hB] at hza hzp <;> rw [hA] at hna ea <;> rw [hB] at hnb eb <;> rcases hc with rfl | rfl | rfl | rfl <;>
          simp [hza, hzp, hna, hnb, ea, eb]
      · intro c hc x hx
        simp only [List.mem_cons, List.not_mem_nil, or_false] at hc
        have ha' := ha.mono (Nat.le_succ g.n)
        have hb' := hb.mono (Nat.le_succ g.n)
        rcases hc with rfl | rfl | rfl | rfl <;> simp only [List.mem_cons, List.not_mem_nil, or_false] at hx <;> rcases hx with rfl | rfl | rfl <;> first | exact hLz | exact hLz.neg | exact ha' | exact hb' | exact ha'.neg | exact hb'.neg
      · have up : ∀ {x}, Der g.cl fr x → Der (g.cl ++ [[-(g.n + 1 : Int), a, b], [-(g.n + 1 : Int), -a, -b], [(g.n + 1 : Int), -a, b], [(g.n + 1 : Int), a, -b]]) fr x := fun hd => hd.mono (fun c hc => List.mem_append_left _ hc) (fun _ hx => hx)
        rw [show ((g.n + 1 : Nat) : Int) = (g.n : Int) + 1 by omega]
        cases hA : lit s a <;> cases hB : lit s b <;> simp only [bne_self_eq_false, Bool.false_eq_true, if_false, Bool.false_bne, Bool.true_bne, Bool.not_false, Bool.bne_false, Bool.bne_true, if_true]
        · refine .unit [-(g.n + 1 : Int), a, b] _ (by simp) (by simp) (fun y hy hne => ?_)
          simp only [List.mem_cons, List.not_mem_nil, or_false] at hy
          rcases hy with rfl | rfl | rfl
          · exact absurd rfl hne
          · exact up (h.derN ha hA)
          · exact up (h.derN hb hB)
        · refine .unit [(g.n + 1 : Int), a, -b] _ (by simp) (by simp) (fun y hy hne => ?_)
          simp only [List.mem_cons, List.not_mem_nil, or_false] at hy
          rcases hy with rfl | rfl | rfl
          · exact absurd rfl hne
          · exact up (h.derN ha hA)
          · rw [Int.neg_neg]; exact up (h.der hb hB)
        · refine .unit [(g.n + 1 : Int), -a, b] _ (by simp) (by simp) (fun y hy hne => ?_)
          simp only [List.mem_cons, List.not_mem_nil, or_false] at hy
          rcases hy with rfl | rfl | rfl
          · exact absurd rfl hne
          · rw [Int.neg_neg]; exact up (h.der ha hA)
          · exact up (h.derN hb hB)
        · refine .unit [-(g.n + 1 : Int), -a, -b] _ (by simp) (by simp) (fun y hy hne => ?_)
          simp only [List.mem_cons, List.not_mem_nil, or_false] at hy
          rcases hy with rfl | rfl | rfl
          · exact absurd rfl hne
          · rw [Int.neg_neg]; exact up (h.der ha hA)
          · rw [Int.neg_neg]; exact up (h.der hb hB)
      · intro e he
        simp only [List.mem_cons, List.not_mem_nil, or_false] at he
        subst he
        dsimp only
        exact ⟨ha.mono (Nat.le_succ _), hb.mono (Nat.le_succ _), hLz, by rw [hzp, ea, eb]⟩
    · dsimp only
      obtain ⟨_, _, a3, a4⟩ := h.xo _ (look_mem hl)
      exact ⟨s, h, Step.refl _ _, Nat.le_succ _, isL_mul a3 hs, by rw [lit_mul a3.1 hs, a4]⟩
  · dsimp only
    obtain ⟨h1, h2⟩ := oddKey_ok h ha hb hs hk
    exact ⟨s, h, Step.refl _ _, Nat.le_succ _, h1, h2⟩

/-- a gate's answer: the later state, what it is worth -/
def Ans (g : G) (fr : List Int) (s : Nat → Bool) (k : Nat) (r : G × Int) (b : Bool) : Prop :=
  ∃ s', GI r.1 fr s' ∧ Step g s r.1 s' ∧ r.1.n ≤ g.n + k ∧ isL r.1.n r.2 ∧ lit s' r.2 = b

theorem isL_min {n : Nat} {x y : Int} (hx : isL n x) (hy : isL n y) : isL n (min x y) := by
  rcases Int.le_total x y with h | h
  · rw [Int.min_eq_left h]; exact hx
  · rw [Int.min_eq_right h]; exact hy
theorem isL_max {n : Nat} {x y : Int} (hx : isL n x) (hy : isL n y) : isL n (max x y) := by
  rcases Int.le_total x y with h | h
  · rw [Int.max_eq_right h]; exact hy
  · rw [Int.max_eq_left h]; exact hx
theorem both_ok {g : G} {fr : List Int} {s : Nat → Bool} (h : GI g fr s) {x y : Int} (hx : isL g.n x) (hy : isL g.n y) : Ans g fr s 1 (both g x y) (lit s x && lit s y) := by
  obtain ⟨s', h1, h2, h3, h4, h5⟩ := bothS_ok h (isL_min hx hy) (isL_max hx hy)
  refine ⟨s', h1, h2, h3, h4, h5.trans ?_⟩
  rcases Int.le_total x y with e | e
  · rw [Int.min_eq_left e, Int.max_eq_right e]
  · rw [Int.min_eq_right e, Int.max_eq_left e, Bool.and_comm]
theorem isL_abs {n : Nat} {x : Int} (h : isL n x) : isL n (absI x) := by
  unfold absI
  split
  · exact h.neg
  · exact h
theorem odd_ok {g : G} {fr : List Int} {s : Nat → Bool} (h : GI g fr s) {x y : Int} (hx : isL g.n x) (hy : isL g.n y) : Ans g fr s 1 (odd g x y) (lit s x != lit s y) := by
  have hs : sgn2 x y = 1 ∨ sgn2 x y = -1 := by unfold sgn2; split <;> split <;> simp
  obtain ⟨s', h1, h2, h3, h4, h5⟩ := oddS_ok h (isL_min (isL_abs hx) (isL_abs hy)) (isL_max (isL_abs hx) (isL_abs hy)) hs
  refine ⟨s', h1, h2, h3, h4, h5.trans ?_⟩
  have e : (lit s (min (absI x) (absI y)) != lit s (max (absI x) (absI y))) = (lit s (absI x) != lit s (absI y)) := by
    rcases Int.le_total (absI x) (absI y) with e | e
    · rw [Int.min_eq_left e, Int.max_eq_right e]
    · rw [Int.min_eq_right e, Int.max_eq_left e]; cases lit s (absI x) <;> cases lit s (absI y) <;> rfl
  rw [e]
  unfold sgn2 absI
  split <;> split <;> simp only [sgB, lit_neg hx.1, lit_neg hy.1] <;> cases lit s x <;> cases lit s y <;> decide
theorem Ans.neg {g : G} {fr : List Int} {s : Nat → Bool} {k : Nat} {r : G × Int} {b : Bool} (h : Ans g fr s k r b) : Ans g fr s k (r.1, -r.2) (!b) := by
  obtain ⟨s', h1, h2, h3, h4, h5⟩ := h
  exact ⟨s', h1, h2, h3, h4.neg, by dsimp only; rw [lit_neg h4.1, h5]⟩
theorem either_ok {g : G} {fr : List Int} {s : Nat → Bool} (h : GI g fr s) {x y : Int} (hx : isL g.n x) (hy : isL g.n y) : Ans g fr s 1 (either g x y) (lit s x || lit s y) := by
  have := (both_ok h hx.neg hy.neg).neg
  rw [lit_neg hx.1, lit_neg hy.1] at this
  have e : (!(!lit s x && !lit s y)) = (lit s x || lit s y) := by cases lit s x <;> cases lit s y <;> rfl
  rw [e] at this
  exact this
theorem choice_ok {g : G} {fr : List Int} {s : Nat → Bool} (h : GI g fr s) {c x y : Int} (hc : isL g.n c) (hx : isL g.n x) (hy : isL g.n y) : Ans g fr s 3 (choice g c x y) (if lit s c then lit s x else lit s y) := by
  unfold choice
  split
  · rename_i e
    subst e
    exact ⟨s, h, Step.refl _ _, by show g.n ≤ g.n + 3; omega, hx, by cases lit s c <;> rfl⟩
  · dsimp only
    obtain ⟨s1, a1, a2, a3, a4, a5⟩ := both_ok h hc hx
    obtain ⟨s2, b1, b2, b3, b4, b5⟩ := both_ok a1 (a2.isL hc).neg (a2.isL hy)
    obtain ⟨s3, c1, c2, c3, c4, c5⟩ := either_ok b1 (b2.isL a4) b4
    refine ⟨s3, c1, (a2.trans b2).trans c2, by omega, c4, c5.trans ?_⟩
    rw [b2.lit a4, a5, b5, a2.lit hc.neg, a2.lit hy, lit_neg hc.1]
    cases lit s c <;> cases lit s x <;> cases lit s y <;> rfl
theorem free_ok {g : G} {fr : List Int} {s : Nat → Bool} (h : GI g fr s) (b : Bool) : ∃ s', GI (free g).1 (fr ++ [if b then (g.n + 1 : Int) else -(g.n + 1 : Int)]) s' ∧ Step g s (free g).1 s' ∧ (free g).1.n = g.n + 1 ∧ isL (free g).1.n (free g).2 ∧ lit s' (free g).2 = b := by
  obtain ⟨t, ht⟩ : ∃ t : Nat → Bool, t = fun v => if v = g.n + 1 then b else s v := ⟨_, rfl⟩
  have hz : t (g.n + 1) = b := by subst ht; simp
  have hLz : isL (g.n + 1) ((g.n : Int) + 1) := ⟨by omega, by omega, by omega⟩
  have G1 := h.grow b [] [] [] (fr ++ [if b then (g.n + 1 : Int) else -(g.n + 1 : Int)]) t ht (by simp) (by simp) (fun x hx => List.mem_append_left _ hx) ?_ ?_ (by simp) (by simp) (by simp)
  · rw [List.append_nil, List.append_nil, List.append_nil] at G1
    exact ⟨t, G1.1, ⟨Nat.le_succ _, G1.2⟩, rfl, hLz, by show lit t ((g.n : Int) + 1) = b; rw [lit_self, hz]⟩
  · intro x hx hn
    rcases List.mem_append.1 hx with hx | hx
    · exact absurd hx hn
    · rw [List.mem_singleton] at hx
      subst hx
      cases b
      · simp only [Bool.false_eq_true, if_false]
        exact ⟨hLz.neg, by rw [lit_neg hLz.1, lit_self, hz]; rfl⟩
      · simp only [if_true]
        exact ⟨hLz, by rw [lit_self, hz]⟩
  · refine .base _ (List.mem_append_right _ ?_)
    rw [show ((g.n + 1 : Nat) : Int) = (g.n : Int) + 1 by omega]
    exact List.mem_singleton.2 rfl
theorem newG_ok : GI newG [] (fun _ => true) := by
  refine ⟨by decide, rfl, ?_, ?_, ?_, by simp, by simp [newG], by simp [newG], by simp [newG]⟩
  · intro c hc
    simp [newG] at hc
    subst hc
    exact ⟨1, by simp, by simp [lit]⟩
  · intro c hc x hx
    simp [newG] at hc
    subst hc
    simp at hx
    subst hx
    exact ⟨by decide, by decide, by decide⟩
  · intro v h1 h2
    have : v = 1 := by have : v ≤ 1 := h2; omega
    subst this
    exact .unit [1] 1 (by simp [newG]) (by simp) (fun y hy hne => by simp at hy; exact absurd hy hne)

end Go.Proofs.Ytmaogkgjiplckaa
