import Derived.Test.YtmaogkgjiplckaaSE
set_option linter.unusedSimpArgs false
set_option linter.unusedVariables false
namespace Go.Proofs.Ytmaogkgjiplckaa
open Go.RowKit
theorem holdP_len {is wt : List Int} {x : Int} {r : List Int × List Int} (h : holdP is wt x = some r) : r.1.length + wt.length = is.length + r.2.length ∧ is.length ≤ r.1.length := by
  unfold holdP at h
  split at h
  · cases h
  split at h
  · cases h; exact ⟨rfl, Nat.le_refl _⟩
  · cases h; simp; omega
theorem askP_len {is wt c : List Int} {r : List Int × List Int} (h : askP is wt c = some r) : r.1.length + wt.length = is.length + r.2.length ∧ is.length ≤ r.1.length := by
  unfold askP at h
  rcases hl : askL is c 0 with _ | l
  · rw [hl] at h; cases h; exact ⟨rfl, Nat.le_refl _⟩
  · rw [hl] at h
    dsimp only at h
    split at h
    · cases h
    · exact holdP_len h
theorem nodup_bound (a : Int) : ∀ (n : Nat) (l : List Int), l.Nodup → (∀ x ∈ l, a ≤ x ∧ x < a + n) → l.length ≤ n := by
  intro n
  induction n with
  | zero =>
    intro l _ h
    rcases l with _ | ⟨x, l⟩
    · simp
    · have := h x List.mem_cons_self; omega
  | succ n ih =>
    intro l hn h
    have h1 := ih (l.erase (a + n)) (hn.erase _) (fun x hx => by
      have h2 := h x (List.mem_of_mem_erase hx)
      have h3 : x ≠ a + n := by
        rintro rfl
        exact (List.Nodup.mem_erase_iff hn).1 hx |>.1 rfl
      omega)
    have h4 := List.length_erase (a := a + (n : Int)) (l := l)
    split at h4 <;> omega
theorem okL_len {l : List Int} (hn : l.Nodup) (h : ∀ x ∈ l, okL x) : l.length ≤ 2097153 := nodup_bound (-1048576) 2097153 l hn (fun x hx => by obtain ⟨_, h1, h2⟩ := h x hx; omega)
/-- a map's size in the heap -/
def mapSz (w : World) (b : Nat) : Nat := match w.heap[b]? with | some (.map es _) => es.size | _ => 0
theorem MapV.sz {κ : Type} {enc : κ → Value} {ok : κ → Prop} {w : World} {b : Nat} {m : List (κ × Value)} (h : MapV enc ok w b m) : mapSz w b = m.length := by
  obtain ⟨es, c, hb, he, _⟩ := h
  have : es.size = m.length := by have := congrArg List.length he; simpa using this
  unfold mapSz
  rw [hb]; exact this
theorem SPR.sizes {w : World} {sb : Nat} {lv : Value} {mi ms mw : Nat} {is wt : List Int} (h : SPR w sb lv mi ms mw is wt) : mapSz w ms = is.length ∧ mapSz w mw = wt.length := ⟨by rw [h.mis.sz, oneM_len], by rw [h.mwt.sz, oneM_len]⟩
def qOf (cl : List (List Int)) (l : List Int) : List (List Int) := l.map fun i => cl.getD i.toNat []
/-- where each literal stands -/
structure GIN (cl : List (List Int)) (gi : Int → List Int) : Prop where
  bd : ∀ x, ∀ i ∈ gi x, 0 ≤ i ∧ i < cl.length
  all : ∀ (x : Int) (k : Nat) (c : List Int), cl[k]? = some c → x ∈ c → (k : Int) ∈ gi x
  len : ∀ x, (gi x).length ≤ 1000000000
theorem GIN.q {cl : List (List Int)} {gi : Int → List Int} (h : GIN cl gi) (x : Int) : ∀ c ∈ cl, x ∈ c → c ∈ qOf cl (gi x) := by
  intro c hc hx
  obtain ⟨k, hk⟩ := List.mem_iff_getElem?.1 hc
  unfold qOf
  refine List.mem_map.2 ⟨k, h.all x k c hk hx, ?_⟩
  rw [Int.toNat_natCast, List.getD_eq_getElem?_getD, hk]; rfl
theorem qOf_at {cl : List (List Int)} {l : List Int} {j : Nat} {i : Int} {c : List Int} (hj : l[j]? = some i) (hc : cl[i.toNat]? = some c) : (qOf cl l).drop j = c :: (qOf cl l).drop (j + 1) := by
  refine drop_at ?_
  unfold qOf
  rw [List.getElem?_map, hj, Option.map_some, List.getD_eq_getElem?_getD, hc]; rfl

end Go.Proofs.Ytmaogkgjiplckaa
