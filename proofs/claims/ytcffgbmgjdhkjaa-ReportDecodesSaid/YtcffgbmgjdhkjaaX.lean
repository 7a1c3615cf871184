import Derived.Test.YtcffgbmgjdhkjaaW
set_option linter.unusedSimpArgs false
set_option linter.unusedVariables false
namespace Go.Proofs.Ytcffgbmgjdhkjaa
open Go.RowKit

/-- what a reader answers: a value and how far it is read, or an error and its place -/
inductive PR (α : Type) where
  | ok (x : α) (p : Int)
  | err (e p : Int)
def numP (b : List Int) (at' n lo hi : Int) : PR Int :=
  if b.length - at' < n then .err 1 b.length else
  if beV (SubB b at'.toNat n.toNat) < lo ∨ hi < beV (SubB b at'.toNat n.toNat) then .err 3 at' else .ok (beV (SubB b at'.toNat n.toNat)) (at' + n)

def ByteL (b : List Int) : Prop := ∀ c ∈ b, 0 ≤ c ∧ c < 256
theorem SubB_len {b : List Int} {a n : Nat} (h : a + n ≤ b.length) : (SubB b a n).length = n := by unfold SubB; simp; omega
theorem SubB_byte {b : List Int} {a n : Nat} (h : ByteL b) : ByteL (SubB b a n) := fun c hc => h c (List.mem_of_mem_drop (List.mem_of_mem_take hc))

/-- the reader's ground: the bytes lie below all that it makes -/
structure RIn (w0 : World) (vb : Value) (b : List Int) (Rb : Nat) (w : World) : Prop where
  sl : SlIs 1 u8c w0 vb b
  rb : w0.heap.size ≤ Rb
  below : Below w0.heap.size w0 w
  byte : ByteL b
  pos : 0 < b.length
  len : (b.length : Int) ≤ 1000000000
theorem RIn.grown {w0 : World} {vb : Value} {b : List Int} {Rb : Nat} {w w' : World} (h : RIn w0 vb b Rb w) (hg : w.grownBy w' (some Rb)) : RIn w0 vb b Rb w' :=
  ⟨h.sl, h.rb, below_grown h.below hg h.rb, h.byte, h.pos, h.len⟩
theorem grown_trans {a b c : World} {r : Option Nat} (h : a.grownBy b r) (k : b.grownBy c r) : a.grownBy c r :=
  ⟨k.os.trans h.os, k.tape.trans h.tape, k.output.trans h.output, Nat.le_trans h.size k.size, fun i hi hn => (k.block i (Nat.lt_of_lt_of_le hi h.size) hn).trans (h.block i hi hn)⟩


theorem pow256 {n : Int} (h0 : 0 ≤ n) (h8 : n ≤ 8) : (256 : Int) ^ n.toNat ≤ 18446744073709551616 := by
  have : n.toNat = 0 ∨ n.toNat = 1 ∨ n.toNat = 2 ∨ n.toNat = 3 ∨ n.toNat = 4 ∨ n.toNat = 5 ∨ n.toNat = 6 ∨ n.toNat = 7 ∨ n.toNat = 8 := by omega
  rcases this with e | e | e | e | e | e | e | e | e <;> rw [e] <;> decide

theorem beV_step (l : List Int) (hl : ByteL l) (k : Nat) (c : Int) (hc : l[k]? = some c) (h8 : l.length ≤ 8) : beV (l.take (k + 1)) = beV (l.take k) * 256 + c ∧ 0 ≤ beV (l.take k) ∧ beV (l.take k) * 256 + c < 18446744073709551616 ∧ 0 ≤ c ∧ c < 256 := by
  have e : l.take (k + 1) = l.take k ++ [c] := by rw [List.take_add_one, hc]; rfl
  have h1 : beV (l.take (k + 1)) = beV (l.take k) * 256 + c := by rw [e, beV_snoc]
  have h2 := beV_bd (l.take k) (fun x hx => hl x (List.mem_of_mem_take hx))
  have h3 := beV_bd (l.take (k + 1)) (fun x hx => hl x (List.mem_of_mem_take hx))
  have h4 := hl c (List.mem_of_getElem? hc)
  refine ⟨h1, h2.1, ?_, h4⟩
  rw [← h1]
  have hlen : (l.take (k + 1)).length ≤ 8 := by rw [List.length_take]; omega
  have h5 := pow256 (n := ((l.take (k + 1)).length : Int)) (by omega) (by omega)
  rw [Int.toNat_natCast] at h5
  omega

set_option maxRecDepth 100000 in
set_option maxHeartbeats 1000000 in
theorem rnum_short (w0 : World) (vb : Value) (b : List Int) (Rb : Nat) (at' n lo hi : Int) (w : World) (hI : RIn w0 vb b Rb w) (hR : RD w Rb vb at') (h0 : 0 ≤ at') (h1 : at' ≤ b.length) (hn : 0 ≤ n) (hs : b.length - at' < n) :
    Calls Try.prog 37 #[.pointer (some ⟨Rb, 0, none⟩), .int .i64 n, .int .u64 lo, .int .u64 hi] w fun e w' => e = stopped 1 b.length ∧ w.grownBy w' (some Rb) := by
  go_enter Try.func37, Try.ntmps37
  (repeat (first | with_reducible refine xThenN ?_ | with_reducible refine xThenE ?_ | with_reducible refine xThenR ?_ | with_reducible refine xThenP ?_ | with_reducible refine xBlockEq ?_ | with_reducible refine xBlockNe rfl ?_ | with_reducible refine xBlockN ?_ | with_reducible refine xBlockR ?_ | with_reducible refine xBlockP ?_ | (go_at_call 36; (with_reducible refine (part_noX w0 vb b hI.sl Rb _ _ _ hR h0 h1 (by omega) hI.len (by omega)).mono ?_); rintro e w1 ⟨rfl, hg1⟩) | go_values | go_skip | go_guarded | go_step | go_upon | go_back | (dsimp only)))
  first | exact bodyPost_panic rfl ⟨rfl, hg1⟩ | exact ⟨rfl, rfl, hg1⟩

set_option maxRecDepth 100000 in
set_option maxHeartbeats 1000000 in
theorem rnum_long (w0 : World) (vb : Value) (b : List Int) (Rb : Nat) (at' n lo hi : Int) (w : World) (hI : RIn w0 vb b Rb w) (hR : RD w Rb vb at') (h0 : 0 ≤ at') (h1 : at' ≤ b.length) (hn : 0 ≤ n) (hn8 : n ≤ 8) (hs : n ≤ b.length - at') (x : Int) (hx : Hid (beV (SubB b at'.toNat n.toNat) = x)) :
    Calls Try.prog 37 #[.pointer (some ⟨Rb, 0, none⟩), .int .i64 n, .int .u64 lo, .int .u64 hi] w fun e w' => w.grownBy w' (some Rb) ∧ ((x < lo ∨ hi < x) → e = stopped 3 at') ∧ (¬ (x < lo ∨ hi < x) → e = .returned (.int .u64 x) ∧ RD w' Rb vb (at' + n)) := by
  have hlen : (SubB b at'.toNat n.toNat).length = n.toNat := SubB_len (by omega)
  have hbyt : ByteL (SubB b at'.toNat n.toNat) := SubB_byte hI.byte
  have Hbyt := Lib.hid hbyt
  have Hlen := Lib.hid hlen
  have hl8 : (SubB b at'.toNat n.toNat).length ≤ 8 := by omega
  clear hbyt hlen
  have hatb : at' ≤ 1000000000 := by have := hI.len; omega
  go_enter Try.func37, Try.ntmps37
  (repeat (first | with_reducible refine xThenN ?_ | with_reducible refine xThenE ?_ | with_reducible refine xThenR ?_ | with_reducible refine xThenP ?_ | with_reducible refine xBlockEq ?_ | with_reducible refine xBlockNe rfl ?_ | with_reducible refine xBlockN ?_ | with_reducible refine xBlockR ?_ | with_reducible refine xBlockP ?_ | (go_at_call 36; (with_reducible refine (part_okX w0 vb b hI.sl Rb hI.rb _ _ _ hI.below hR h0 h1 (by omega) hI.pos hI.len (by omega)).mono ?_); rintro e w1 ⟨v1, rfl, hS1, hg1, hR1⟩); obtain ⟨a9, c9, rfl⟩ := hS1.shape | go_values | go_skip | go_guarded | go_step | go_upon | go_back | (dsimp only)))
  generalize SubB b at'.toNat n.toNat = bs at hx Hbyt Hlen hl8 hS1 ⊢
  go_loop [9, 16] (fun y i => ∃ (k : Nat), k ≤ bs.length ∧ i = .int .i64 k ∧ y = .int .u64 (beV (bs.take k))) (fun _ i => bs.length - (intOf i).toNat)
  case atStart => exact ⟨0, by omega, rfl, by simp [beV]⟩
  case round =>
    obtain ⟨k, hk, rfl, rfl⟩ := hrel
    rcases Nat.lt_or_ge k bs.length with hlt | hge
    · obtain ⟨c, hc⟩ : ∃ c, bs[k]? = some c := ⟨_, List.getElem?_eq_getElem hlt⟩
      obtain ⟨e1, e2, e3, e4, e5⟩ := beV_step bs Hbyt.out k c hc hl8
      obtain ⟨b9, o9, rfl, HR⟩ : ∃ b o, a9 = some ⟨b, o, none⟩ ∧ RowAt 1 u8c w1 b o bs := by
        rcases hS1.casesA with ⟨ao, cap, e0, he⟩ | ⟨b2, o2, cap, e0, _, _, HR2⟩
        · rw [he] at hlt; simp at hlt
        injection e0 with e0 _ e1
        exact ⟨b2, o2, e0, HR2⟩
      have hce := HR k c hc 0 _ rfl
      simp only [Nat.one_mul, Nat.add_zero] at hce
      have E1 := Lib.hid e1
      have hor := or256 _ _ e2 e3 e4 e5
      clear e1 hc
      (repeat (first | with_reducible refine xThenN ?_ | with_reducible refine xThenE ?_ | with_reducible refine xThenR ?_ | with_reducible refine xThenP ?_ | with_reducible refine xBlockEq ?_ | with_reducible refine xBlockNe rfl ?_ | with_reducible refine xBlockN ?_ | with_reducible refine xBlockR ?_ | with_reducible refine xBlockP ?_ | go_values | go_skip | go_guarded | go_step | go_upon | go_back | (dsimp only)))
      refine ⟨⟨k + 1, by omega, by go_num, by rw [E1.out]⟩, by simp [intOf]; omega⟩
    · have hkk : bs.take k = bs := List.take_of_length_le hge
      rw [hkk, hx.out]
      clear hkk
      obtain ⟨d0, d1, d2⟩ := cells2 hR1
      have s1 : IntKind.i64.wrap (at' + n - n) = at' := by rw [show at' + n - n = at' from by omega, IntKind.wrap_i64]; omega
      by_cases t1 : x < lo
      · (repeat (first | with_reducible refine xThenN ?_ | with_reducible refine xThenE ?_ | with_reducible refine xThenR ?_ | with_reducible refine xThenP ?_ | with_reducible refine xBlockEq ?_ | with_reducible refine xBlockNe rfl ?_ | with_reducible refine xBlockN ?_ | with_reducible refine xBlockR ?_ | with_reducible refine xBlockP ?_ | go_values | go_skip | go_guarded | go_step | go_upon | go_back | (dsimp only)))
        exact bodyPost_panic rfl ⟨hg1, fun _ => rfl, fun h => absurd (.inl t1) h⟩
      · by_cases t2 : hi < x
        · (repeat (first | with_reducible refine xThenN ?_ | with_reducible refine xThenE ?_ | with_reducible refine xThenR ?_ | with_reducible refine xThenP ?_ | with_reducible refine xBlockEq ?_ | with_reducible refine xBlockNe rfl ?_ | with_reducible refine xBlockN ?_ | with_reducible refine xBlockR ?_ | with_reducible refine xBlockP ?_ | go_values | go_skip | go_guarded | go_step | go_upon | go_back | (dsimp only)))
          exact bodyPost_panic rfl ⟨hg1, fun _ => rfl, fun h => absurd (.inr t2) h⟩
        · (repeat (first | with_reducible refine xThenN ?_ | with_reducible refine xThenE ?_ | with_reducible refine xThenR ?_ | with_reducible refine xThenP ?_ | with_reducible refine xBlockEq ?_ | with_reducible refine xBlockNe rfl ?_ | with_reducible refine xBlockN ?_ | with_reducible refine xBlockR ?_ | with_reducible refine xBlockP ?_ | go_values | go_skip | go_guarded | go_step | go_upon | go_back | (dsimp only)))
          go_ret
          exact ⟨hg1, fun h => absurd h (by omega), fun _ => ⟨rfl, hR1⟩⟩

/-- how a parsing call ends -/
def PDone {α : Type} (w : World) (Rb : Nat) (vb : Value) (r : PR α) (isV : α → Value → World → Prop) (e : Ending) (w' : World) : Prop :=
  w.grownBy w' (some Rb) ∧ match r with
    | .ok x p => ∃ v, e = .returned v ∧ isV x v w' ∧ RD w' Rb vb p
    | .err E p => e = stopped E p

theorem rnum_ok (w0 : World) (vb : Value) (b : List Int) (Rb : Nat) (at' n lo hi : Int) (w : World) (hI : RIn w0 vb b Rb w) (hR : RD w Rb vb at') (h0 : 0 ≤ at') (h1 : at' ≤ b.length) (hn : 0 ≤ n) (hn8 : n ≤ 8) (x p : Int) (hP : Hid (numP b at' n lo hi = .ok x p)) :
    Calls Try.prog 37 #[.pointer (some ⟨Rb, 0, none⟩), .int .i64 n, .int .u64 lo, .int .u64 hi] w fun e w' => e = .returned (.int .u64 x) ∧ w.grownBy w' (some Rb) ∧ RD w' Rb vb p := by
  have hP := hP.out
  unfold numP at hP
  split at hP
  · cases hP
  · split at hP
    · cases hP
    · rename_i g1 g2
      injection hP with e1 e2
      subst e1; subst e2
      refine (rnum_long w0 vb b Rb at' n lo hi w hI hR h0 h1 hn hn8 (by omega) _ (Lib.hid rfl)).mono ?_
      rintro e w' ⟨hg, _, h⟩
      exact ⟨(h g2).1, hg, (h g2).2⟩
theorem rnum_err (w0 : World) (vb : Value) (b : List Int) (Rb : Nat) (at' n lo hi : Int) (w : World) (hI : RIn w0 vb b Rb w) (hR : RD w Rb vb at') (h0 : 0 ≤ at') (h1 : at' ≤ b.length) (hn : 0 ≤ n) (hn8 : n ≤ 8) (E p : Int) (hP : Hid (numP b at' n lo hi = .err E p)) :
    Calls Try.prog 37 #[.pointer (some ⟨Rb, 0, none⟩), .int .i64 n, .int .u64 lo, .int .u64 hi] w fun e w' => e = stopped E p ∧ w.grownBy w' (some Rb) := by
  have hP := hP.out
  unfold numP at hP
  split at hP
  · rename_i g1
    injection hP with e1 e2
    subst e1; subst e2
    exact rnum_short w0 vb b Rb at' n lo hi w hI hR h0 h1 hn g1
  · split at hP
    · rename_i g1 g2
      injection hP with e1 e2
      subst e1; subst e2
      refine (rnum_long w0 vb b Rb at' n lo hi w hI hR h0 h1 hn hn8 (by omega) _ (Lib.hid rfl)).mono ?_
      rintro e w' ⟨hg, h, _⟩
      exact ⟨h g2, hg⟩
    · cases hP

theorem numP_ok {b : List Int} {at' n lo hi x p : Int} (hb : ByteL b) (h : numP b at' n lo hi = .ok x p) (h0 : 0 ≤ at') (hn : 0 ≤ n) : p = at' + n ∧ p ≤ b.length ∧ lo ≤ x ∧ x ≤ hi ∧ 0 ≤ x ∧ x < 256 ^ n.toNat ∧ x = beV (SubB b at'.toNat n.toNat) := by
  unfold numP at h
  split at h
  · cases h
  · split at h
    · cases h
    · rename_i g1 g2
      injection h with e1 e2
      have h3 := beV_bd _ (SubB_byte (a := at'.toNat) (n := n.toNat) hb)
      rw [SubB_len (by omega)] at h3
      subst e1
      omega
theorem numP_err {b : List Int} {at' n lo hi E p : Int} (h : numP b at' n lo hi = .err E p) : (E = 1 ∧ p = b.length) ∨ (E = 3 ∧ p = at' ∧ n ≤ b.length - at') := by
  unfold numP at h
  split at h
  · injection h with e1 e2; omega
  · split at h
    · injection h with e1 e2; omega
    · cases h

end Go.Proofs.Ytcffgbmgjdhkjaa
