import Derived.Test.YtcffgbmgjdhkjaaL
set_option linter.unusedSimpArgs false
set_option linter.unusedVariables false
namespace Go.Proofs.Ytcffgbmgjdhkjaa
open Go.RowKit

theorem info5 : (Try.prog.info? 5).map (fun i => (i.zero, i.size, i.bytes)) = some (some (.int .u8 0), 1, 1) := by kernel_rfl

/-- a number's n bytes, the highest first -/
def beI (x : Int) : Nat → List Int
  | 0 => []
  | n + 1 => beI (x / 256) n ++ [x % 256]
def u8s (l : List Int) : List Value := l.map (Value.int .u8)
theorem beI_len (n : Nat) : ∀ x, (beI x n).length = n := by
  induction n with
  | zero => intro x; rfl
  | succ n ih => intro x; simp [beI, ih]

theorem one_cell (w : World) (u : Value) (t : TypeId) : ∀ j v, [u][j]? = some v → (w.alloc (.cells #[u] t)).cell? ((⟨w.heap.size, 0, none⟩ : Addr).add j) = some v := by
  intro j v hj
  match j, hj with
  | 0, hj =>
    obtain rfl : u = v := by simpa using hj
    simp [Addr.add, go_sem]
  | j + 1, hj => simp at hj

set_option maxHeartbeats 1000000 in
theorem bytes_any (n : Nat) : ∀ (x : Int) (w : World), n ≤ 8 → 0 ≤ x → x < 18446744073709551616 →
    Calls Try.prog 17 #[.int .u64 x, .int .i64 n] w fun e w' => (∃ v, e = .returned v ∧ w'.ownsRow w.heap.size 5 1 v n (u8s (beI x n))) ∧ Below w.heap.size w w' := by
  induction n with
  | zero =>
    intro x w _ _ _
    go_enter Try.func17, Try.ntmps17
    (repeat (first | with_reducible refine xThenN ?_ | with_reducible refine xThenE ?_ | with_reducible refine xThenR ?_ | with_reducible refine xThenP ?_ | with_reducible refine xBlockEq ?_ | with_reducible refine xBlockNe rfl ?_ | with_reducible refine xBlockN ?_ | with_reducible refine xBlockR ?_ | with_reducible refine xBlockP ?_ | go_values | go_skip | go_guarded | go_step | go_upon | go_back | (dsimp only)))
    go_ret
    exact ⟨⟨_, rfl, World.ownsRow_nil _ _ _ _⟩, Below.refl _ _⟩
  | succ n ih =>
    intro x w h8 h0 h1
    obtain ⟨i0, hi, hz0, hz1, hz2⟩ := info_parts info5
    have IH := Lib.hid ih
    clear ih
    obtain ⟨N, hN⟩ : ∃ N : Int, N = ((n + 1 : Nat) : Int) := ⟨_, rfl⟩
    rw [← hN]
    have e1 : N - 1 = n := by omega
    have e2 : (N == 0) = false := by simp; omega
    have e5 : 0 ≤ N ∧ N ≤ 8 := by omega
    have e3 : 0 ≤ x % 256 ∧ x % 256 < 256 := by omega
    clear hN
    go_enter Try.func17, Try.ntmps17
    (repeat (first | with_reducible refine xThenN ?_ | with_reducible refine xThenE ?_ | with_reducible refine xThenR ?_ | with_reducible refine xThenP ?_ | with_reducible refine xBlockEq ?_ | with_reducible refine xBlockNe rfl ?_ | with_reducible refine xBlockN ?_ | with_reducible refine xBlockR ?_ | with_reducible refine xBlockP ?_ | (go_at_call 17; (with_reducible refine (IH.out (x / 256) _ (by omega) (by omega) (by omega)).mono ?_); rintro e w1 ⟨⟨v, rfl, hown⟩, hb⟩) | (at_builtin; refine wpList_append_own _ rfl (.tmp 11) (.tmp 15) 28 rfl w.heap.size 5 i0 (.int .u8 0) 1 1 Try.underlying28 hi hz0 hz1 hz2 rfl (by decide) _ _ _ rfl (hown.alloc _) ⟨w1.heap.size, 0, none⟩ 1 1 [.int .u8 (x % 256)] rfl rfl (one_cell _ _ _) (by intro u hu; simp at hu; subst hu; rfl) (by simp only [maxLen]; omega) (by omega) (by have := hb.size; simp; omega) ?_; intro v2 w2 hown2 hg2 _) | go_values | go_skip | go_guarded | go_step | go_upon | go_back | (dsimp only)))
    go_ret
    refine ⟨⟨_, rfl, ?_⟩, ?_⟩
    · have e : u8s (beI x (n + 1)) = u8s (beI (x / 256) n) ++ [.int .u8 (x % 256)] := by simp [u8s, beI]
      rw [e]
      exact hown2
    · exact hb.trans ((Below.alloc (Below.refl _ _) (Nat.le_refl _) _ |>.mono hb.size).grown hg2 (by have := hb.size; simp; omega) (fun k hk => (hown.lt k hk).1))

end Go.Proofs.Ytcffgbmgjdhkjaa
