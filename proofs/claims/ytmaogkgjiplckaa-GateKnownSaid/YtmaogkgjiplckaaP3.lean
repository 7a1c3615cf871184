import Derived.Test.YtmaogkgjiplckaaP2
set_option linter.unusedSimpArgs false
set_option linter.unusedVariables false
namespace Go.Proofs.Ytmaogkgjiplckaa
open Go.RowKit

/-! what follows, literal by literal: the program's way -/
def holdP (is wt : List Int) (x : Int) : Option (List Int × List Int) :=
  if -x ∈ is then none else if x ∈ is then some (is, wt) else some (is ++ [x], wt ++ [x])
def askL (is : List Int) : List Int → Int → Option Int
  | [], last => some last
  | x :: c, last => if -x ∈ is ∨ x = last then askL is c last else if x ∈ is ∨ last ≠ 0 then none else askL is c x
def askP (is wt : List Int) (c : List Int) : Option (List Int × List Int) :=
  match askL is c 0 with
  | none => some (is, wt)
  | some l => if l = 0 then none else holdP is wt l
def foldP {α : Type} (f : List Int → List Int → α → Option (List Int × List Int)) : List Int → List Int → List α → Option (List Int × List Int)
  | is, wt, [] => some (is, wt)
  | is, wt, x :: xs => match f is wt x with
    | none => none
    | some (is', wt') => foldP f is' wt' xs
theorem foldP_snoc {α : Type} (f : List Int → List Int → α → Option (List Int × List Int)) : ∀ (xs : List α) (is wt : List Int) (x : α), foldP f is wt (xs ++ [x]) = match foldP f is wt xs with
    | none => none
    | some (is', wt') => f is' wt' x := by
  intro xs
  induction xs with
  | nil => intro is wt x; simp only [List.nil_append, foldP]; cases f is wt x with
    | none => rfl
    | some p => rfl
  | cons y ys ih =>
    intro is wt x
    simp only [List.cons_append, foldP]
    cases f is wt y with
    | none => rfl
    | some p => exact ih _ _ _
theorem foldP_none {α : Type} (f : List Int → List Int → α → Option (List Int × List Int)) : ∀ (xs ys : List α) (is wt : List Int), foldP f is wt xs = none → foldP f is wt (xs ++ ys) = none := by
  intro xs
  induction xs with
  | nil => intro ys is wt h; simp [foldP] at h
  | cons y xs ih =>
    intro ys is wt h
    simp only [List.cons_append, foldP] at h ⊢
    cases hf : f is wt y with
    | none => rfl
    | some p => rw [hf] at h; exact ih _ _ _ h

def Conflict (cl : List (List Int)) (fr : List Int) : Prop := (∃ x ∈ fr, Der cl fr (-x)) ∨ ∃ c ∈ cl, ∀ y ∈ c, Der cl fr (-y)
def Closed (is : List Int) (c : List Int) : Prop := (∃ x ∈ c, x ∈ is) ∨ ∃ x ∈ c, ∃ y ∈ c, x ≠ y ∧ -x ∉ is ∧ -y ∉ is
def okL (x : Int) : Prop := x ≠ 0 ∧ -1048576 ≤ x ∧ x ≤ 1048576

structure SQ (cl : List (List Int)) (fr F : List Int) (is wt : List Int) (P : List (List Int)) : Prop where
  sound : ∀ x ∈ is, Der cl fr x
  cons : ∀ x ∈ is, -x ∉ is
  nod : is.Nodup
  nodw : wt.Nodup
  sub : ∀ x ∈ wt, x ∈ is
  rng : ∀ x ∈ is, okL x
  base : ∀ x ∈ F, x ∈ is
  closed : ∀ c ∈ cl, Closed is c ∨ (∃ x ∈ wt, -x ∈ c) ∨ c ∈ P

variable {cl : List (List Int)} {fr F is wt : List Int} {P : List (List Int)}

theorem SQ.start (hcl : True) : SQ cl fr [] [] [] cl :=
  ⟨by simp, by simp, by simp, by simp, by simp, by simp, by simp, fun c hc => .inr (.inr hc)⟩
theorem SQ.adv (h : SQ cl fr F is wt P) {P' : List (List Int)} (hP : ∀ c ∈ P, c ∈ P') : SQ cl fr F is wt P' :=
  ⟨h.sound, h.cons, h.nod, h.nodw, h.sub, h.rng, h.base, fun c hc => (h.closed c hc).imp id (.imp id (hP c))⟩

theorem SQ.hold (h : SQ cl fr F is wt P) {x : Int} (hx : Der cl fr x) (ho : okL x) {r : List Int × List Int} (hr : holdP is wt x = some r) : SQ cl fr (F ++ [x]) r.1 r.2 P ∧ (∀ y ∈ is, y ∈ r.1) := by
  unfold holdP at hr
  split at hr
  · cases hr
  rename_i hn
  split at hr
  · rename_i hin
    cases hr
    refine ⟨⟨h.sound, h.cons, h.nod, h.nodw, h.sub, h.rng, ?_, h.closed⟩, fun y hy => hy⟩
    intro y hy
    rcases List.mem_append.1 hy with hy | hy
    · exact h.base y hy
    · rw [List.mem_singleton] at hy; subst hy; exact hin
  · rename_i hin
    cases hr
    refine ⟨⟨?_, ?_, ?_, ?_, ?_, ?_, ?_, ?_⟩, fun y hy => List.mem_append_left _ hy⟩
    · intro y hy
      rcases List.mem_append.1 hy with hy | hy
      · exact h.sound y hy
      · rw [List.mem_singleton] at hy; subst hy; exact hx
    · intro y hy hy'
      rcases List.mem_append.1 hy with hy | hy <;> rcases List.mem_append.1 hy' with hy' | hy'
      · exact h.cons y hy hy'
      · rw [List.mem_singleton] at hy'
        apply hn
        rw [← hy', Int.neg_neg]; exact hy
      · rw [List.mem_singleton] at hy; rw [hy] at hy'; exact hn hy'
      · rw [List.mem_singleton] at hy hy'
        subst hy
        have := ho.1
        omega
    · refine List.nodup_append.2 ⟨h.nod, by simp, fun a ha b hb => ?_⟩
      rw [List.mem_singleton] at hb
      subst hb
      exact fun e => hin (e ▸ ha)
    · refine List.nodup_append.2 ⟨h.nodw, by simp, fun a ha b hb => ?_⟩
      rw [List.mem_singleton] at hb
      subst hb
      exact fun e => hin (e ▸ h.sub a ha)
    · intro y hy
      rcases List.mem_append.1 hy with hy | hy
      · exact List.mem_append_left _ (h.sub y hy)
      · exact List.mem_append_right _ hy
    · intro y hy
      rcases List.mem_append.1 hy with hy | hy
      · exact h.rng y hy
      · rw [List.mem_singleton] at hy; subst hy; exact ho
    · intro y hy
      rcases List.mem_append.1 hy with hy | hy
      · exact List.mem_append_left _ (h.base y hy)
      · exact List.mem_append_right _ hy
    · intro c hc
      by_cases hxc : -x ∈ c
      · exact .inr (.inl ⟨x, by simp, hxc⟩)
      rcases h.closed c hc with hcl | ⟨y, hy, hyc⟩ | hP
      · left
        rcases hcl with ⟨y, hy, hyi⟩ | ⟨y, hy, z, hz, hne, h1, h2⟩
        · exact .inl ⟨y, hy, List.mem_append_left _ hyi⟩
        · refine .inr ⟨y, hy, z, hz, hne, ?_, ?_⟩
          · intro hm
            rcases List.mem_append.1 hm with hm | hm
            · exact h1 hm
            · rw [List.mem_singleton] at hm
              exact hxc (by rw [← hm, Int.neg_neg]; exact hy)
          · intro hm
            rcases List.mem_append.1 hm with hm | hm
            · exact h2 hm
            · rw [List.mem_singleton] at hm
              exact hxc (by rw [← hm, Int.neg_neg]; exact hz)
      · exact .inr (.inl ⟨y, List.mem_append_left _ hy, hyc⟩)
      · exact .inr (.inr hP)
theorem hold_no (hs : ∀ x ∈ is, Der cl fr x) {x : Int} (hr : holdP is wt x = none) : Der cl fr (-x) := by
  unfold holdP at hr
  split at hr
  · rename_i hn; exact hs _ hn
  · split at hr <;> cases hr

theorem askL_spec (is : List Int) : ∀ (c : List Int) (last : Int), (∀ x ∈ c, x ≠ 0) → (last ≠ 0 → last ∉ is ∧ -last ∉ is) →
    (askL is c last = none → (∃ x ∈ c, x ∈ is ∧ -x ∉ is) ∨ (∃ x ∈ c, -x ∉ is ∧ ((last ≠ 0 ∧ x ≠ last) ∨ ∃ y ∈ c, x ≠ y ∧ -y ∉ is))) ∧
    (∀ l, askL is c last = some l → (∀ x ∈ c, x ≠ l → -x ∈ is) ∧ (l ≠ 0 → l ∉ is ∧ -l ∉ is ∧ (l = last ∨ l ∈ c)) ∧ (last ≠ 0 → l = last)) := by
  intro c
  induction c with
  | nil =>
    intro last _ hl
    refine ⟨by simp [askL], ?_⟩
    intro l h
    simp only [askL, Option.some.injEq] at h
    subst h
    exact ⟨by simp, fun h0 => ⟨(hl h0).1, (hl h0).2, .inl rfl⟩, fun _ => rfl⟩
  | cons x c ih =>
    intro last hz hl
    have hzc : ∀ y ∈ c, y ≠ 0 := fun y hy => hz y (List.mem_cons_of_mem _ hy)
    have hx0 := hz x List.mem_cons_self
    unfold askL
    split
    · rename_i hc
      obtain ⟨i1, i2⟩ := ih last hzc hl
      refine ⟨fun h => ?_, fun l h => ?_⟩
      · rcases i1 h with ⟨y, hy, hyi⟩ | ⟨y, hy, h1, h2⟩
        · exact .inl ⟨y, List.mem_cons_of_mem _ hy, hyi⟩
        · refine .inr ⟨y, List.mem_cons_of_mem _ hy, h1, h2.imp id ?_⟩
          rintro ⟨z, hz, h3⟩
          exact ⟨z, List.mem_cons_of_mem _ hz, h3⟩
      · obtain ⟨j1, j2, j3⟩ := i2 l h
        refine ⟨fun y hy hne => ?_, fun h0 => ?_, j3⟩
        · rcases List.mem_cons.1 hy with rfl | hy
          · rcases hc with hc | hc
            · exact hc
            · subst hc
              exact absurd (j3 hx0).symm hne
          · exact j1 y hy hne
        · obtain ⟨k1, k2, k3⟩ := j2 h0
          exact ⟨k1, k2, k3.imp id (List.mem_cons_of_mem _)⟩
    · rename_i hc
      have hcn : -x ∉ is := fun h => hc (.inl h)
      have hcl : x ≠ last := fun h => hc (.inr h)
      split
      · rename_i hd
        refine ⟨fun _ => ?_, by simp⟩
        rcases hd with hd | hd
        · exact .inl ⟨x, List.mem_cons_self, hd, hcn⟩
        · exact .inr ⟨x, List.mem_cons_self, hcn, .inl ⟨hd, hcl⟩⟩
      · rename_i hd
        have hxi : x ∉ is := fun h => hd (.inl h)
        have hl0 : last = 0 := by
          by_cases e : last = 0
          · exact e
          · exact absurd (.inr e) hd
        subst hl0
        obtain ⟨i1, i2⟩ := ih x hzc (fun _ => ⟨hxi, hcn⟩)
        refine ⟨fun h => ?_, fun l h => ?_⟩
        · rcases i1 h with ⟨y, hy, hyi⟩ | ⟨y, hy, h1, h2⟩
          · exact .inl ⟨y, List.mem_cons_of_mem _ hy, hyi⟩
          · refine .inr ⟨y, List.mem_cons_of_mem _ hy, h1, .inr ?_⟩
            rcases h2 with ⟨_, h2⟩ | ⟨z, hz, h3⟩
            · exact ⟨x, List.mem_cons_self, h2, hcn⟩
            · exact ⟨z, List.mem_cons_of_mem _ hz, h3⟩
        · obtain ⟨j1, j2, j3⟩ := i2 l h
          obtain rfl := j3 hx0
          refine ⟨fun y hy hne => ?_, fun _ => ⟨hxi, hcn, .inr List.mem_cons_self⟩, by simp⟩
          rcases List.mem_cons.1 hy with rfl | hy
          · exact absurd rfl hne
          · exact j1 y hy hne

theorem SQ.ask {c : List Int} (h : SQ cl fr F is wt (c :: P)) (hc : c ∈ cl) (ho : ∀ x ∈ c, okL x) :
    (∀ r, askP is wt c = some r → SQ cl fr F r.1 r.2 P ∧ (∀ y ∈ is, y ∈ r.1)) ∧ (askP is wt c = none → Conflict cl fr) := by
  obtain ⟨a1, a2⟩ := askL_spec is c 0 (fun x hx => (ho x hx).1) (by simp)
  unfold askP
  have drop : Closed is c → SQ cl fr F is wt P := fun hcl => ⟨h.sound, h.cons, h.nod, h.nodw, h.sub, h.rng, h.base, fun d hd => by
    rcases h.closed d hd with k | k | k
    · exact .inl k
    · exact .inr (.inl k)
    · rcases List.mem_cons.1 k with rfl | k
      · exact .inl hcl
      · exact .inr (.inr k)⟩
  rcases hl : askL is c 0 with _ | l
  · dsimp only
    refine ⟨?_, by simp⟩
    intro r hr
    cases hr
    refine ⟨drop ?_, fun y hy => hy⟩
    rcases a1 hl with ⟨x, hx, hxi, _⟩ | ⟨x, hx, h1, ⟨h2, _⟩ | ⟨y, hy, h2, h3⟩⟩
    · exact .inl ⟨x, hx, hxi⟩
    · exact absurd rfl h2
    · exact .inr ⟨x, hx, y, hy, h2, h1, h3⟩
  · dsimp only
    obtain ⟨b1, b2, _⟩ := a2 l hl
    by_cases hl0 : l = 0
    · subst hl0
      refine ⟨by simp, fun _ => .inr ⟨c, hc, fun y hy => h.sound _ (b1 y hy (ho y hy).1)⟩⟩
    · rw [if_neg hl0]
      obtain ⟨c1, c2, c3⟩ := b2 hl0
      have hlc : l ∈ c := c3.resolve_left hl0
      have hd : Der cl fr l := .unit c l hc hlc (fun y hy hne => h.sound _ (b1 y hy hne))
      refine ⟨fun r hr => ?_, fun hr => ?_⟩
      · obtain ⟨k1, k2⟩ := h.hold hd (ho l hlc) hr
        have hlr : l ∈ r.1 := k1.base l (by simp)
        refine ⟨⟨k1.sound, k1.cons, k1.nod, k1.nodw, k1.sub, k1.rng, fun x hx => k1.base x (List.mem_append_left _ hx), fun d hd => ?_⟩, k2⟩
        rcases k1.closed d hd with k | k | k
        · exact .inl k
        · exact .inr (.inl k)
        · rcases List.mem_cons.1 k with rfl | k
          · exact .inl (.inl ⟨l, hlc, hlr⟩)
          · exact .inr (.inr k)
      · unfold holdP at hr
        rw [if_neg c2] at hr
        split at hr <;> cases hr

theorem SQ.askAll (Q : List (List Int)) : ∀ {is wt : List Int}, SQ cl fr F is wt Q → (∀ c ∈ Q, c ∈ cl) → (∀ c ∈ cl, ∀ x ∈ c, okL x) →
    (∀ r, foldP askP is wt Q = some r → SQ cl fr F r.1 r.2 [] ∧ (∀ y ∈ is, y ∈ r.1)) ∧ (foldP askP is wt Q = none → Conflict cl fr) := by
  induction Q with
  | nil => intro is wt h _ _; exact ⟨fun r hr => by cases hr; exact ⟨h, fun y hy => hy⟩, by simp [foldP]⟩
  | cons c Q ih =>
    intro is wt h hQ ho
    have hc := hQ c List.mem_cons_self
    obtain ⟨h1, h2⟩ := h.ask hc (ho c hc)
    simp only [foldP]
    rcases hr : askP is wt c with _ | ⟨is', wt'⟩
    · exact ⟨by simp, fun _ => h2 hr⟩
    · dsimp only
      obtain ⟨k1, k2⟩ := h1 _ hr
      obtain ⟨i1, i2⟩ := ih k1 (fun d hd => hQ d (List.mem_cons_of_mem _ hd)) ho
      exact ⟨fun r hr => ⟨(i1 r hr).1, fun y hy => (i1 r hr).2 y (k2 y hy)⟩, i2⟩
theorem SQ.holdAll (X : List Int) : ∀ {F is wt : List Int}, SQ cl fr F is wt P → (∀ x ∈ X, x ∈ fr) → (∀ x ∈ X, okL x) →
    (∀ r, foldP holdP is wt X = some r → SQ cl fr (F ++ X) r.1 r.2 P) ∧ (foldP holdP is wt X = none → Conflict cl fr) := by
  induction X with
  | nil => intro F is wt h _ _; exact ⟨fun r hr => by cases hr; rw [List.append_nil]; exact h, by simp [foldP]⟩
  | cons x X ih =>
    intro F is wt h hX ho
    have hx := hX x List.mem_cons_self
    simp only [foldP]
    rcases hr : holdP is wt x with _ | ⟨is', wt'⟩
    · exact ⟨by simp, fun _ => .inl ⟨x, hx, hold_no h.sound hr⟩⟩
    · dsimp only
      have k1 := (h.hold (.base x hx) (ho x List.mem_cons_self) hr).1
      obtain ⟨i1, i2⟩ := ih k1 (fun y hy => hX y (List.mem_cons_of_mem _ hy)) (fun y hy => ho y (List.mem_cons_of_mem _ hy))
      refine ⟨fun r hr => ?_, i2⟩
      have := i1 r hr
      rwa [List.append_assoc, List.singleton_append] at this
theorem SQ.pick (h : SQ cl fr F is wt []) {x : Int} (Q : List (List Int)) (hQ : ∀ c ∈ cl, -x ∈ c → c ∈ Q) : SQ cl fr F is (wt.erase x) Q := by
  refine ⟨h.sound, h.cons, h.nod, h.nodw.erase x, fun y hy => h.sub y (List.mem_of_mem_erase hy), h.rng, h.base, fun c hc => ?_⟩
  rcases h.closed c hc with k | ⟨y, hy, hyc⟩ | k
  · exact .inl k
  · by_cases e : y = x
    · subst e; exact .inr (.inr (hQ c hc hyc))
    · exact .inr (.inl ⟨y, (List.mem_erase_of_ne e).2 hy, hyc⟩)
  · cases k
theorem SQ.done (h : SQ cl fr F is [] []) (hF : ∀ x ∈ fr, x ∈ F) : (∀ x, x ∈ is ↔ Der cl fr x) ∧ ¬ Conflict cl fr := by
  have hall : ∀ x, Der cl fr x → x ∈ is := by
    intro x hd
    induction hd with
    | base x hx => exact h.base x (hF x hx)
    | unit c x hc hx _ ih =>
      rcases h.closed c hc with (⟨z, hz, hzi⟩ | ⟨p, hp, q, hq, hne, h1, h2⟩) | ⟨y, hy, _⟩ | k
      · by_cases e : z = x
        · subst e; exact hzi
        · exact absurd (ih z hz e) (h.cons z hzi)
      · by_cases e : p = x
        · subst e
          exact absurd (ih q hq (Ne.symm hne)) h2
        · exact absurd (ih p hp e) h1
      · cases hy
      · cases k
  refine ⟨fun x => ⟨h.sound x, hall x⟩, ?_⟩
  rintro (⟨x, hx, hd⟩ | ⟨c, hc, hd⟩)
  · exact h.cons x (h.base x (hF x hx)) (hall _ hd)
  · rcases h.closed c hc with (⟨z, hz, hzi⟩ | ⟨p, hp, q, hq, hne, h1, h2⟩) | ⟨y, hy, _⟩ | k
    · exact h.cons z hzi (hall _ (hd z hz))
    · exact h1 (hall _ (hd p hp))
    · cases hy
    · cases k

end Go.Proofs.Ytmaogkgjiplckaa
