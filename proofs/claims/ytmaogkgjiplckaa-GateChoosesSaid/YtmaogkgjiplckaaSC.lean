import Derived.Test.YtmaogkgjiplckaaGX
set_option linter.unusedSimpArgs false
set_option linter.unusedVariables false
namespace Go.Proofs.Ytmaogkgjiplckaa
open Go.RowKit

/-- values in a row, from its beginning -/
def RowV (w : World) (q : Nat) (vs : List Value) : Prop := ∀ (j : Nat) (x : Value), vs[j]? = some x → w.cell? ⟨q, j, none⟩ = some x
theorem RowV.kept {X : Nat → Prop} {w w' : World} {q : Nat} {vs : List Value} (h : RowV w q vs) (hk : Kept X w w') (hx : X q) : RowV w' q vs := fun j x hj => hk.cell (h j x hj) hx
theorem RowV.one (w : World) (v : Value) (T : TypeId) : RowV (w.alloc (.cells #[v] T)) w.heap.size [v] := by
  intro j x hj
  rcases j with _ | j
  · simp at hj; subst hj; exact cell_new _ _ _
  · simp at hj
theorem OwnW.rows {w : World} {q n : Nat} {vs : List Value} (h : OwnW w q n vs) : RowV w q vs := by
  intro j x hj
  have := h.2.cells (g := q) rfl j x hj
  rcases j with _ | j
  · simpa [Addr.add] using this
  · simpa [Addr.add] using this

set_option maxRecDepth 100000 in
theorem literal_any {x : Int} (w : World) (h : okL x) : Calls Try.prog 102 #[.int .i64 x] w fun e w' => e = .returned (.bool true) ∧ w' = w := by
  obtain ⟨h0, h1, h2⟩ := h
  have e0 : (x != 0) = true := by simpa using h0
  go_enter Try.func102, Try.ntmps102
  (repeat (first | (with_reducible first | refine xA ?_ | refine xB ?_ | refine xC ?_ | refine xD ?_ | refine xH ?_ | refine xI rfl ?_ | refine xE ?_ | refine xF ?_ | refine xG ?_) | go_values | go_skip | go_guarded | go_step | go_upon | go_back | (dsimp only)))
  go_ret
  exact ⟨rfl, rfl⟩

set_option maxRecDepth 100000 in
set_option maxHeartbeats 1000000 in
theorem Right_any {Y : Nat → Prop} (w : World) (q n : Nat) (vs : List Value) (cl : List (List Int)) (hq : RowV w q vs) (hS : SlsX Y w vs cl) (hn : cl.length = n) (hok : ∀ c ∈ cl, ∀ x ∈ c, okL x) (hlen : n ≤ 100000000) (hll : ∀ c ∈ cl, c.length ≤ 1000000) :
    Calls Try.prog 65 #[.slice (some ⟨q, 0, none⟩) n n] w fun e w' => e = .returned (.int .i64 0) ∧ w' = w := by
  have HQ := Lib.hid hq
  have HS := Lib.hid hS
  have HN := Lib.hid hn
  have HOK := Lib.hid hok
  have HLL := Lib.hid hll
  have hnI : (n : Int) ≤ 100000000 := by omega
  clear hq hS hn hok hlen hll
  go_enter Try.func65, Try.ntmps65
  (repeat (first | (with_reducible first | refine xA ?_ | refine xB ?_ | refine xC ?_ | refine xD ?_ | refine xH ?_ | refine xI rfl ?_ | refine xE ?_ | refine xF ?_ | refine xG ?_) | go_values | go_skip | go_guarded | go_step | go_upon | go_back | (dsimp only)))
  go_loopw [9] (fun i wr => ∃ k : Nat, k ≤ n ∧ i = .int .i64 k ∧ wr = w) (fun i _ => n - (intOf i).toNat)
  case atStart => exact ⟨0, Nat.zero_le _, rfl, rfl⟩
  case round =>
    obtain ⟨k, hk, rfl, rfl⟩ := hrel
    rcases Nat.lt_or_ge k n with hlt | hge
    · obtain ⟨c, hc⟩ : ∃ c, cl[k]? = some c := ⟨_, List.getElem?_eq_getElem (by have := HN.out; omega)⟩
      obtain ⟨x, hx⟩ : ∃ x, vs[k]? = some x := ⟨_, List.getElem?_eq_getElem (by have := HN.out; have := HS.out.1; omega)⟩
      have hcx := HQ.out k x hx
      have hsx := HS.out.2 k x c hx hc
      have hcl := HLL.out c (List.mem_of_getElem? hc)
      have hclI : (c.length : Int) ≤ 1000000 := by omega
      have HC := Lib.hid (HOK.out c (List.mem_of_getElem? hc))
      obtain ⟨ax, cx, rfl⟩ := hsx.shape
      have HSx := Lib.hid hsx
      clear hsx hc hx hcl
      (repeat (first | (with_reducible first | refine xA ?_ | refine xB ?_ | refine xC ?_ | refine xD ?_ | refine xH ?_ | refine xI rfl ?_ | refine xE ?_ | refine xF ?_ | refine xG ?_) | go_values | go_skip | go_guarded | go_step | go_upon | go_back | (dsimp only)))
      go_loopw [15] (fun i wr' => ∃ j : Nat, j ≤ c.length ∧ i = .int .i64 j ∧ wr' = wr) (fun i _ => c.length - (intOf i).toNat)
      case atStart => exact ⟨0, Nat.zero_le _, rfl, rfl⟩
      case round =>
        obtain ⟨j, hj, rfl, rfl⟩ := hrel
        rcases Nat.lt_or_ge j c.length with hlt' | hge'
        · obtain ⟨b, o, rfl, _, _, _, hR⟩ := HSx.out.row (by omega)
          obtain ⟨y, hy⟩ : ∃ y, c[j]? = some y := ⟨_, List.getElem?_eq_getElem hlt'⟩
          have hcy := hR j y hy
          have HL := Lib.hid (HC.out y (List.mem_of_getElem? hy))
          clear hR hy
          (repeat (first | (with_reducible first | refine xA ?_ | refine xB ?_ | refine xC ?_ | refine xD ?_ | refine xH ?_ | refine xI rfl ?_ | refine xE ?_ | refine xF ?_ | refine xG ?_) | go_skip | go_guarded | (go_at_call 102; (with_reducible refine (literal_any _ HL.out).mono ?_); rintro _ w1 ⟨rfl, rfl⟩) | go_values | go_skip | go_guarded | go_step | go_upon | go_back | (dsimp only)))
          exact ⟨⟨j + 1, by omega, by go_num, rfl⟩, by simp [intOf]; omega⟩
        · obtain rfl : j = c.length := by omega
          (repeat (first | (with_reducible first | refine xA ?_ | refine xB ?_ | refine xC ?_ | refine xD ?_ | refine xH ?_ | refine xI rfl ?_ | refine xE ?_ | refine xF ?_ | refine xG ?_) | go_values | go_skip | go_guarded | go_step | go_upon | go_back | (dsimp only)))
          exact ⟨⟨k + 1, by omega, by go_num, rfl⟩, by simp [intOf]; omega⟩
    · obtain rfl : k = n := by omega
      (repeat (first | (with_reducible first | refine xA ?_ | refine xB ?_ | refine xC ?_ | refine xD ?_ | refine xH ?_ | refine xI rfl ?_ | refine xE ?_ | refine xF ?_ | refine xG ?_) | go_values | go_skip | go_guarded | go_step | go_upon | go_back | (dsimp only)))
      go_ret
      exact ⟨rfl, rfl⟩

end Go.Proofs.Ytmaogkgjiplckaa
