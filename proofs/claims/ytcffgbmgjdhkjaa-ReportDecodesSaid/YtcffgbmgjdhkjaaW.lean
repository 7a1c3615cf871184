import Derived.Test.YtcffgbmgjdhkjaaV
import Derived.Laws.BitsAllLaws
import Derived.Laws.Bits64b
set_option linter.unusedSimpArgs false
set_option linter.unusedVariables false
namespace Go.Proofs.Ytcffgbmgjdhkjaa
open Go.RowKit

/-- bytes as a number, the highest first -/
def beV (l : List Int) : Int := l.foldl (fun x c => x * 256 + c) 0
theorem beV_snoc (l : List Int) (c : Int) : beV (l ++ [c]) = beV l * 256 + c := by simp [beV]
theorem foldl_bd (l : List Int) : ∀ x : Int, 0 ≤ x → (∀ c ∈ l, 0 ≤ c ∧ c < 256) → 0 ≤ l.foldl (fun x c => x * 256 + c) x ∧ l.foldl (fun x c => x * 256 + c) x + 1 ≤ (x + 1) * 256 ^ l.length := by
  induction l with
  | nil => intro x hx _; simp; omega
  | cons c l ih =>
    intro x hx h
    have hc := h c (by simp)
    have h1 := ih (x * 256 + c) (by omega) (fun y hy => h y (by simp [hy]))
    refine ⟨h1.1, Int.le_trans h1.2 ?_⟩
    have e : (x + 1) * 256 ^ (c :: l).length = (x * 256 + 256) * 256 ^ l.length := by
      rw [List.length_cons, Int.pow_succ, Int.mul_comm (256 ^ l.length) 256, ← Int.mul_assoc, Int.add_mul]
      rfl
    rw [e]
    exact Int.mul_le_mul_of_nonneg_right (by omega) (Int.le_of_lt (Int.pow_pos (by decide)))
theorem beV_bd (l : List Int) (h : ∀ c ∈ l, 0 ≤ c ∧ c < 256) : 0 ≤ beV l ∧ beV l < 256 ^ l.length := by
  have := foldl_bd l 0 (Int.le_refl _) h
  unfold beV
  omega

theorem or256 (x c : Int) (hx : 0 ≤ x) (hb : x * 256 + c < 18446744073709551616) (h0 : 0 ≤ c) (h1 : c < 256) : bits .or .u64 (x * 256) c = x * 256 + c := by
  rw [u64_or _ _ (by omega) (by omega) h0 (by omega)]
  have e : (x * 256).toNat ||| c.toNat = (x * 256).toNat + c.toNat := nat_join 8 _ _ (by omega) (by omega)
  rw [e]
  omega

/-- the reader's block: its bytes, how far they are read -/
def RD (w : World) (Rb : Nat) (vb : Value) (at' : Int) : Prop := w.heap[Rb]? = some (.cells #[vb, .int .i64 at'] 73 (0, 0))
def SubB (b : List Int) (at' n : Nat) : List Int := (b.drop at').take n

theorem cells2 {w : World} {b : Nat} {c0 c1 : Value} {t : TypeId} (h : w.heap[b]? = some (.cells #[c0, c1] t (0, 0))) :
    w.cell? ⟨b, 0, none⟩ = some c0 ∧ w.cell? ⟨b, 1, none⟩ = some c1 ∧ w.frozen? ⟨b, 1, none⟩ = false := by
  simp [World.cell?, World.frozen?, h]

set_option maxRecDepth 100000 in
set_option maxHeartbeats 400000 in
theorem part_no (Rb : Nat) (ao : Option Addr) (cap len : Nat) (at' n : Int) (w : World) (hR : RD w Rb (.slice ao len cap) at') (h0 : 0 ≤ at') (h1 : at' ≤ len) (hn : 0 ≤ n) (hl : (len : Int) ≤ 1000000000) (h : len - at' < n) :
    Calls Try.prog 36 #[.pointer (some ⟨Rb, 0, none⟩), .int .i64 n] w fun e w' => e = stopped 1 len ∧ w.grownBy w' (some Rb) := by
  obtain ⟨c0, c1, c2⟩ := cells2 hR
  go_enter Try.func36, Try.ntmps36
  (repeat (first | with_reducible refine xThenN ?_ | with_reducible refine xThenE ?_ | with_reducible refine xThenR ?_ | with_reducible refine xThenP ?_ | with_reducible refine xBlockEq ?_ | with_reducible refine xBlockNe rfl ?_ | with_reducible refine xBlockN ?_ | with_reducible refine xBlockR ?_ | with_reducible refine xBlockP ?_ | go_values | go_skip | go_guarded | go_step | go_upon | go_back | (dsimp only)))
  go_quiet (fail)
  (repeat (first | with_reducible refine xThenN ?_ | with_reducible refine xThenE ?_ | with_reducible refine xThenR ?_ | with_reducible refine xThenP ?_ | with_reducible refine xBlockEq ?_ | with_reducible refine xBlockNe rfl ?_ | with_reducible refine xBlockN ?_ | with_reducible refine xBlockR ?_ | with_reducible refine xBlockP ?_ | go_values | go_skip | go_guarded | go_step | go_upon | go_back | (dsimp only)))
  exact bodyPost_panic rfl ⟨rfl, rfl, rfl, rfl, by simp, fun _ _ _ => rfl⟩

set_option maxRecDepth 100000 in
set_option maxHeartbeats 400000 in
theorem part_ok (Rb : Nat) (b o : Nat) (cap len : Nat) (at' n : Int) (w : World) (hR : RD w Rb (.slice (some ⟨b, o, none⟩) len cap) at') (h0 : 0 ≤ at') (h1 : at' ≤ len) (hn : 0 ≤ n) (hl : (len : Int) ≤ 1000000000) (hc : (len : Int) ≤ cap) (h : n ≤ len - at') :
    Calls Try.prog 36 #[.pointer (some ⟨Rb, 0, none⟩), .int .i64 n] w fun e w' => e = .returned (.slice (if cap = at'.toNat then some ⟨b, o, none⟩ else some ⟨b, o + at'.toNat, none⟩) n.toNat (cap - at'.toNat)) ∧ w.grownBy w' (some Rb) ∧ RD w' Rb (.slice (some ⟨b, o, none⟩) len cap) (at' + n) := by
  obtain ⟨c0, c1, c2⟩ := cells2 hR
  have s1 : IntKind.i64.wrap (at' + n - n) = at' := by rw [show at' + n - n = at' from by omega, IntKind.wrap_i64]; omega
  have s2 : 0 ≤ at' + n := by omega
  have s3 : at' + n ≤ len := by omega
  have s4 : at' + n ≤ cap := by omega
  go_enter Try.func36, Try.ntmps36
  (repeat (first | with_reducible refine xThenN ?_ | with_reducible refine xThenE ?_ | with_reducible refine xThenR ?_ | with_reducible refine xThenP ?_ | with_reducible refine xBlockEq ?_ | with_reducible refine xBlockNe rfl ?_ | with_reducible refine xBlockN ?_ | with_reducible refine xBlockR ?_ | with_reducible refine xBlockP ?_ | go_values | go_skip | go_guarded | go_step | go_upon | go_back | (dsimp only)))
  go_quiet (fail)
  (repeat (first | with_reducible refine xThenN ?_ | with_reducible refine xThenE ?_ | with_reducible refine xThenR ?_ | with_reducible refine xThenP ?_ | with_reducible refine xBlockEq ?_ | with_reducible refine xBlockNe rfl ?_ | with_reducible refine xBlockN ?_ | with_reducible refine xBlockR ?_ | with_reducible refine xBlockP ?_ | go_values | go_skip | go_guarded | go_step | go_upon | go_back | (dsimp only)))
  refine wp_abs (fun u => w.grownBy u (some Rb) ∧ RD u Rb (.slice (some ⟨b, o, none⟩) len cap) (at' + n)) ⟨⟨rfl, rfl, rfl, by simp, fun k hk hne => Below.heap_setCell _ _ _ _ (fun e => hne (by rw [e]))⟩, ?_⟩ ?_
  · exact heap_setCell_same (w.drewN nq) Rb 1 _ 73 _ hR
  rintro u ⟨hg, hR2⟩
  clear c0 c1 c2
  obtain ⟨c0, c1, c2⟩ := cells2 hR2
  go_quiet (fail)
  (repeat (first | with_reducible refine xThenN ?_ | with_reducible refine xThenE ?_ | with_reducible refine xThenR ?_ | with_reducible refine xThenP ?_ | with_reducible refine xBlockEq ?_ | with_reducible refine xBlockNe rfl ?_ | with_reducible refine xBlockN ?_ | with_reducible refine xBlockR ?_ | with_reducible refine xBlockP ?_ | go_values | go_skip | go_guarded | go_step | go_upon | go_back | (dsimp only)))
  have e : (at' + n).toNat - at'.toNat = n.toNat := by omega
  rw [e]
  go_ret
  exact ⟨rfl, ⟨hg.os, hg.tape, hg.output, by simpa using hg.size, hg.block⟩, hR2⟩

theorem below_grown {w0 w w' : World} {Rb : Nat} (h : Below w0.heap.size w0 w) (hg : w.grownBy w' (some Rb)) (hr : w0.heap.size ≤ Rb) : Below w0.heap.size w0 w' :=
  Below.grown h hg h.size (fun k hk => by injection hk with hk; omega)

theorem SlIs.sub {w : World} {b : List Int} {bb o cap : Nat} (h : RowAt 1 u8c w bb o b) (a n : Nat) (hc : b.length ≤ cap) (hn : a + n ≤ b.length) :
    SlIs 1 u8c w (.slice (if cap = a then some ⟨bb, o, none⟩ else some ⟨bb, o + a, none⟩) n (cap - a)) (SubB b a n) := by
  have hl : (SubB b a n).length = n := by unfold SubB; simp; omega
  refine ⟨_, cap - a, by rw [hl], by omega, (by intro h; split at h <;> cases h), fun hne => ?_⟩
  have hn0 : 0 < n := by rw [← hl]; exact List.length_pos_iff.2 hne
  rw [if_neg (by omega)]
  refine ⟨bb, o + a, rfl, fun i x hi j c hj => ?_⟩
  have hi' : b[a + i]? = some x := by
    unfold SubB at hi
    rw [List.getElem?_take] at hi
    split at hi
    · rwa [List.getElem?_drop] at hi
    · cases hi
  have := h (a + i) x hi' j c hj
  have e : o + (1 * (a + i) + j) = o + a + (1 * i + j) := by omega
  rwa [e] at this

theorem part_okX (w0 : World) (vb : Value) (b : List Int) (hS : SlIs 1 u8c w0 vb b) (Rb : Nat) (hr : w0.heap.size ≤ Rb) (at' n : Int) (w : World) (hB : Below w0.heap.size w0 w) (hR : RD w Rb vb at') (h0 : 0 ≤ at') (h1 : at' ≤ b.length) (hn : 0 ≤ n) (hne : 0 < b.length) (hl : (b.length : Int) ≤ 1000000000) (h : n ≤ b.length - at') :
    Calls Try.prog 36 #[.pointer (some ⟨Rb, 0, none⟩), .int .i64 n] w fun e w' => ∃ v, e = .returned v ∧ SlIs 1 u8c w' v (SubB b at'.toNat n.toNat) ∧ w.grownBy w' (some Rb) ∧ RD w' Rb vb (at' + n) := by
  rcases hS.casesA with ⟨ao, cap, _, rfl⟩ | ⟨bb, o, cap, rfl, _, hc, HR⟩
  · simp at hne
  refine (part_ok Rb bb o cap b.length at' n w hR h0 h1 hn hl (by omega) h).mono ?_
  rintro e w' ⟨rfl, hg, hR2⟩
  exact ⟨_, rfl, SlIs.sub (HR.below (below_grown hB hg hr)) _ _ hc (by omega), hg, hR2⟩
theorem part_noX (w0 : World) (vb : Value) (b : List Int) (hS : SlIs 1 u8c w0 vb b) (Rb : Nat) (at' n : Int) (w : World) (hR : RD w Rb vb at') (h0 : 0 ≤ at') (h1 : at' ≤ b.length) (hn : 0 ≤ n) (hl : (b.length : Int) ≤ 1000000000) (h : b.length - at' < n) :
    Calls Try.prog 36 #[.pointer (some ⟨Rb, 0, none⟩), .int .i64 n] w fun e w' => e = stopped 1 b.length ∧ w.grownBy w' (some Rb) := by
  obtain ⟨ao, cap, rfl⟩ := hS.shape
  exact part_no Rb ao cap b.length at' n w hR h0 h1 hn hl h

end Go.Proofs.Ytcffgbmgjdhkjaa
