import Derived.Test.YtmaogkgjiplckaaP
set_option linter.unusedSimpArgs false
set_option linter.unusedVariables false
namespace Go.Proofs.Ytmaogkgjiplckaa
open Go.RowKit

theorem lit_one {g : G} {fr : List Int} {s : Nat → Bool} (h : GI g fr s) : lit s 1 = true := by simp [lit, h.one]
theorem lit_no {g : G} {fr : List Int} {s : Nat → Bool} (h : GI g fr s) : lit s (-1) = false := by simp [lit, h.one]
theorem isL_one {g : G} {fr : List Int} {s : Nat → Bool} (h : GI g fr s) : isL g.n 1 := by have := h.pos; exact ⟨by decide, by omega, by omega⟩
theorem isL_no {g : G} {fr : List Int} {s : Nat → Bool} (h : GI g fr s) : isL g.n (-1) := (isL_one h).neg

theorem bothKey_ok {g : G} {fr : List Int} {s : Nat → Bool} (h : GI g fr s) {a b r : Int} (ha : isL g.n a) (hb : isL g.n b) (hr : bothKey a b = some r) : isL g.n r ∧ lit s r = (lit s a && lit s b) := by
  unfold bothKey at hr
  have l1 := lit_one h
  have l0 := lit_no h
  split at hr
  · rename_i c; cases hr
    rcases c with rfl | rfl
    · exact ⟨ha, by simp⟩
    · exact ⟨ha, by simp [l1]⟩
  split at hr
  · rename_i c; cases hr
    refine ⟨isL_no h, ?_⟩
    rcases c with rfl | rfl
    · rw [l0, lit_neg hb.1]; cases lit s b <;> rfl
    · rw [l0]; rfl
  split at hr
  · rename_i c; cases hr
    subst c
    exact ⟨hb, by simp [l1]⟩
  split at hr
  · rename_i c; cases hr
    subst c
    exact ⟨isL_no h, by simp [l0]⟩
  · cases hr

theorem look_mem {m : List ((Int × Int) × Int)} {a b z : Int} (h : look m a b = some z) : ((a, b), z) ∈ m := by
  unfold look at h
  rw [Option.map_eq_some_iff] at h
  obtain ⟨⟨k, v⟩, he, hv⟩ := h
  have h1 := List.find?_some he
  simp at h1 hv
  have := List.mem_of_find?_eq_some he
  rw [h1, hv] at this
  exact this

theorem lit_self {t : Nat → Bool} {n : Nat} : lit t ((n : Int) + 1) = t (n + 1) := by
  unfold lit
  rw [if_pos (by omega), show ((n : Int) + 1).toNat = n + 1 by omega]

theorem bothS_ok {g : G} {fr : List Int} {s : Nat → Bool} (h : GI g fr s) {a b : Int} (ha : isL g.n a) (hb : isL g.n b) :
    ∃ s', GI (bothS g a b).1 fr s' ∧ Step g s (bothS g a b).1 s' ∧ (bothS g a b).1.n ≤ g.n + 1 ∧ isL (bothS g a b).1.n (bothS g a b).2 ∧ lit s' (bothS g a b).2 = (lit s a && lit s b) := by
  unfold bothS
  rcases hk : bothKey a b with _ | r
  · rcases hl : look g.an a b with _ | z
    · dsimp only
      obtain ⟨t, ht⟩ : ∃ t : Nat → Bool, t = fun v => if v = g.n + 1 then (lit s a && lit s b) else s v := ⟨_, rfl⟩
      have hag : ∀ v, v ≤ g.n → t v = s v := by intro v hv; subst ht; show (if v = g.n + 1 then _ else s v) = s v; rw [if_neg (by omega)]
      have hz : t (g.n + 1) = (lit s a && lit s b) := by subst ht; simp
      have ea := lit_agree hag ha
      have eb := lit_agree hag hb
      have hLz : isL (g.n + 1) ((g.n : Int) + 1) := ⟨by omega, by omega, by omega⟩
      have hza : lit t (-((g.n : Int) + 1)) = !(lit s a && lit s b) := by rw [lit_neg hLz.1, lit_self, hz]
      have hna : lit t (-a) = !lit s a := by rw [lit_neg ha.1, ea]
      have hnb : lit t (-b) = !lit s b := by rw [lit_neg hb.1, eb]
      have G1 := h.grow (lit s a && lit s b) [[-(g.n + 1 : Int), a], [-(g.n + 1 : Int), b], [(g.n + 1 : Int), -a, -b]] [((a, b), (g.n + 1 : Int))] [] fr t ht ?_ ?_ (fun _ hx => hx) (fun x hx hn => absurd hx hn) ?_ (by simp) ?_ (by simp)
      · rw [List.append_nil] at G1
        refine ⟨t, G1.1, ⟨Nat.le_succ _, G1.2⟩, Nat.le_refl _, hLz, ?_⟩
        rw [lit_self, hz]
      · intro c hc
        simp only [List.mem_cons, List.not_mem_nil, or_false] at hc
        cases hA : lit s a <;> cases hB : lit s b <;> rw [hA, hB] at hza <;> rw [hA] at hna ea <;> rw [hB] at hnb eb
        · rcases hc with rfl | rfl | rfl
          · exact ⟨_, List.mem_cons_self, by simpa using hza⟩
          · exact ⟨_, List.mem_cons_self, by simpa using hza⟩
          · exact ⟨-a, by simp, by simpa using hna⟩
        · rcases hc with rfl | rfl | rfl
          · exact ⟨_, List.mem_cons_self, by simpa using hza⟩
          · exact ⟨_, List.mem_cons_self, by simpa using hza⟩
          · exact ⟨-a, by simp, by simpa using hna⟩
        · rcases hc with rfl | rfl | rfl
          · exact ⟨_, List.mem_cons_self, by simpa using hza⟩
          · exact ⟨_, List.mem_cons_self, by simpa using hza⟩
          · exact ⟨-b, by simp, by simpa using hnb⟩
        · rcases hc with rfl | rfl | rfl
          · exact ⟨a, by simp, by simpa using ea⟩
          · exact ⟨b, by simp, by simpa using eb⟩
          · exact ⟨_, List.mem_cons_self, by rw [lit_self, hz, hA, hB]; rfl⟩
      · intro c hc x hx
        simp only [List.mem_cons, List.not_mem_nil, or_false] at hc
        have ha' := ha.mono (Nat.le_succ g.n)
        have hb' := hb.mono (Nat.le_succ g.n)
        rcases hc with rfl | rfl | rfl <;> simp only [List.mem_cons, List.not_mem_nil, or_false] at hx
        · rcases hx with rfl | rfl
          · exact hLz.neg
          · exact ha'
        · rcases hx with rfl | rfl
          · exact hLz.neg
          · exact hb'
        · rcases hx with rfl | rfl | rfl
          · exact hLz
          · exact ha'.neg
          · exact hb'.neg
      · have up : ∀ {x}, Der g.cl fr x → Der (g.cl ++ [[-(g.n + 1 : Int), a], [-(g.n + 1 : Int), b], [(g.n + 1 : Int), -a, -b]]) fr x := fun hd => hd.mono (fun c hc => List.mem_append_left _ hc) (fun _ hx => hx)
        rw [show ((g.n + 1 : Nat) : Int) = (g.n : Int) + 1 by omega]
        cases hA : lit s a
        · simp only [Bool.false_and, Bool.false_eq_true, if_false]
          refine .unit [-(g.n + 1 : Int), a] _ (by simp) (by simp) (fun y hy hne => ?_)
          simp only [List.mem_cons, List.not_mem_nil, or_false] at hy
          rcases hy with rfl | rfl
          · exact absurd rfl hne
          · exact up (h.derN ha hA)
        · cases hB : lit s b
          · simp only [Bool.and_false, Bool.false_eq_true, if_false]
            refine .unit [-(g.n + 1 : Int), b] _ (by simp) (by simp) (fun y hy hne => ?_)
            simp only [List.mem_cons, List.not_mem_nil, or_false] at hy
            rcases hy with rfl | rfl
            · exact absurd rfl hne
            · exact up (h.derN hb hB)
          · simp only [Bool.and_true, if_true]
            refine .unit [(g.n + 1 : Int), -a, -b] _ (by simp) (by simp) (fun y hy hne => ?_)
            simp only [List.mem_cons, List.not_mem_nil, or_false] at hy
            rcases hy with rfl | rfl | rfl
            · exact absurd rfl hne
            · rw [Int.neg_neg]; exact up (h.der ha hA)
            · rw [Int.neg_neg]; exact up (h.der hb hB)
      · intro e he
        simp only [List.mem_cons, List.not_mem_nil, or_false] at he
        subst he
        dsimp only
        exact ⟨ha.mono (Nat.le_succ _), hb.mono (Nat.le_succ _), hLz, by rw [lit_self, hz, ea, eb]⟩
    · dsimp only
      obtain ⟨_, _, a3, a4⟩ := h.an _ (look_mem hl)
      exact ⟨s, h, Step.refl _ _, Nat.le_succ _, a3, a4⟩
  · dsimp only
    obtain ⟨h1, h2⟩ := bothKey_ok h ha hb hk
    exact ⟨s, h, Step.refl _ _, Nat.le_succ _, h1, h2⟩

end Go.Proofs.Ytmaogkgjiplckaa
