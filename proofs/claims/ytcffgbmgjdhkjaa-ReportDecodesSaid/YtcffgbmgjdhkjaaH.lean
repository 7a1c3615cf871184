import Derived.Test.YtcffgbmgjdhkjaaG
set_option linter.unusedSimpArgs false
set_option linter.unusedVariables false
namespace Go.Proofs.Ytcffgbmgjdhkjaa
open Go.RowKit

theorem right50_any (op wd n k0 k1 k2 : Int) (v : Value) (ls : List Nd) (w : World) (h : SlIs 6 Nd.cells w v ls) (hn : 0 ≤ n) (hn' : n < 18446744073709551616) (hw : ∀ d ∈ ls, 0 ≤ d.w) :
    Calls Try.prog 50 #[.agg #[.int .i64 op, .int .i64 wd, .int .u64 n, .int .i64 k0, .int .i64 k1, .int .i64 k2], v] w fun e w' =>
      e = .returned (.int .i64 (rightE ⟨op, wd, n, k0, k1, k2⟩ ls)) ∧ Below w.heap.size w w' := by
  rcases h.cases with ⟨ao, cap, rfl, rfl⟩ | ⟨b, o, cap, rfl, _, HR⟩
  · rcases kidsI_bd op with hk | hk | hk | hk
    · exact rrightn_0 op wd n k0 k1 k2 ao cap w hk hn hn' (by simp)
    · exact rrightn_1 op wd n k0 k1 k2 ao cap w hk
    · exact rrightn_2 op wd n k0 k1 k2 ao cap w hk
    · exact rrightn_3 op wd n k0 k1 k2 ao cap w hk
  · rcases kidsI_bd op with hk | hk | hk | hk
    · exact rright_0 op wd n k0 k1 k2 b o cap ls w hk HR hn hn' hw
    · exact rright_1 op wd n k0 k1 k2 b o cap ls w hk HR hn hn' hw
    · exact rright_2 op wd n k0 k1 k2 b o cap ls w hk HR hn hn' hw
    · exact rright_3 op wd n k0 k1 k2 b o cap ls w hk HR hn hn' hw

/-- what lies in a node's cells is of its kinds -/
def NdWf (d : Nd) : Prop :=
  (-9223372036854775808 ≤ d.op ∧ d.op ≤ 9223372036854775807) ∧ (-9223372036854775808 ≤ d.w ∧ d.w ≤ 9223372036854775807) ∧ (0 ≤ d.n ∧ d.n < 18446744073709551616) ∧
  (-9223372036854775808 ≤ d.k0 ∧ d.k0 ≤ 9223372036854775807) ∧ (-9223372036854775808 ≤ d.k1 ∧ d.k1 ≤ 9223372036854775807) ∧ (-9223372036854775808 ≤ d.k2 ∧ d.k2 ≤ 9223372036854775807)

/-- a list's error and its place: what was looked at, what is to come -/
def chk : List Nd → List Nd → Int × Int
  | _, [] => (0, 0)
  | pre, d :: rest => if pre.length = 65536 then (10, 65536) else if rightE d pre ≠ 0 then (rightE d pre, pre.length) else chk (pre ++ [d]) rest
def tchk (ls : List Nd) : Int × Int := if ls = [] then (11, 0) else chk [] ls

theorem chk_step {ls : List Nd} {k : Nat} {d : Nd} (h : ls[k]? = some d) : chk (ls.take k) (ls.drop k) = if k = 65536 then (10, 65536) else if rightE d (ls.take k) ≠ 0 then (rightE d (ls.take k), (k : Int)) else chk (ls.take (k + 1)) (ls.drop (k + 1)) := by
  have hlt : k < ls.length := by
    rcases Nat.lt_or_ge k ls.length with h1 | h1
    · exact h1
    · rw [List.getElem?_eq_none h1] at h; cases h
  have hd : ls.drop k = d :: ls.drop (k + 1) := by
    rw [List.drop_eq_getElem_cons hlt]
    rw [List.getElem?_eq_getElem hlt] at h
    injection h with h; rw [h]
  have ht : ls.take (k + 1) = ls.take k ++ [d] := by rw [List.take_add_one, h]; rfl
  rw [hd, ht]
  simp only [chk, List.length_take, Nat.min_eq_left (Nat.le_of_lt hlt)]

/-- widths of right nodes are not negative -/
theorem right_w {d : Nd} {ls : List Nd} (h : rightE d ls = 0) (hw : ∀ e ∈ ls, 0 ≤ e.w) : 0 ≤ d.w := by
  unfold rightE at h
  split at h
  · cases h
  · rename_i ho
    split at h
    · cases h
    · rename_i a b c hk
      split at h
      · rename_i hwd
        have hab : 0 ≤ a ∧ 0 ≤ b := by
          unfold kidsR at hk
          have kn : ∀ j K x, kidW (kidsI d.op) j K ls = some x → 0 ≤ x := by
            intro j K x hx
            unfold kidW at hx
            split at hx
            · split at hx
              · injection hx with hx; omega
              · cases hx
            · split at hx
              · cases hx
              · injection hx with hx; rw [← hx]; exact wAt_nn hw _
          split at hk
          · rename_i x y z hx hy hz
            injection hk with hk
            injection hk with h1 h2
            injection h2 with h2 h3
            subst h1; subst h2
            exact ⟨kn _ _ _ hx, kn _ _ _ hy⟩
          · cases hk
        exact ((wide_iff (by omega) (by omega) hab.1 hab.2).2 hwd).2
      · cases h

end Go.Proofs.Ytcffgbmgjdhkjaa
